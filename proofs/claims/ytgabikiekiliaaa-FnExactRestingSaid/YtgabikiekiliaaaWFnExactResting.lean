/- The law FnExactResting returns true: the walk. -/
import Derived.Test.YtgabikiekiliaaaResting
namespace Go.Proofs.Ytgabikiekiliaaa
open Go.RowKit
set_option linter.unusedVariables false
set_option maxHeartbeats 4000000 in
set_option maxRecDepth 10000 in
theorem FnExactResting_c (w : World) (A0 : Option Addr) (n0 c0 : Nat) (x0 : List Window) (h0 : SlAt RWindow 3 w A0 n0 x0) (hn0 : n0 ≤ maxLen) (x1 : Int) (hi1 : In64 x1) (x2 : Int) (hi2 : In64 x2) : Calls Try.prog 6 #[.slice A0 n0 c0, .int .i64 x1, .int .i64 x2] w (Ret w (.bool true)) := by
  obtain rfl := h0.len
  have HS := Lib.hid (szWindowS_w x0 A0 x0.length c0 1048576 w h0 hn0 (by omega) (by omega))
  have H0 := Lib.hid (fun (u : World) (e : Ext w u) (hq : x0.length ≤ 1048576) (hq2 : ∀ x ∈ x0, x.Nodes.length ≤ 1048576) => toWindowS_c x0 A0 x0.length c0 u (h0.ext RWindow.mono e) hq hq2)
  have HI := Lib.hid (fun (A : Option Addr) (c : Nat) (u : World) (h : SlAt RWindow 3 u A x0.length x0) => Resting_c x0 x1 x2 A x0.length c u h hn0)
  have HP := Lib.hid (fun (A : Option Addr) (c : Nat) (u : World) (h : SlAt RWindow 3 u A x0.length x0) => sResting_c x0 x1 x2 A x0.length c u h hn0)
  generalize restingB x0 x1 x2 = r at *
  go_enter Try.func6, Try.ntmps6
  go_wp2_with fail
  refine HS.out.mono ?_
  rintro e w1 ⟨z, rfl, hz, hb1⟩
  rcases hz with hz | ⟨hz0, hz1, hq, hq2⟩
  · go_wp2
    exact ret_bool rfl rfl rfl rfl hb1
  have hq' : x0.length ≤ 1048576 := by omega
  have hq2' : ∀ x ∈ x0, x.Nodes.length ≤ 1048576 := fun x hx => by have := hq2 x hx; omega
  have HT := Lib.hid (fun (u : World) (e : Ext w u) => H0.out u e hq' hq2')
  clear hq hq2 hq2' h0
  go_wp2_with fail
  refine (HT.out _ hb1).mono ?_
  rintro e w2 ⟨A2, c2, rfl, hs2, hb2⟩
  go_wp2_with fail
  refine (HP.out _ _ _ hs2).mono ?_
  rintro e w3 ⟨rfl, hb3⟩
  go_wp2_with fail
  refine (HT.out _ ((hb1.trans hb2).trans hb3)).mono ?_
  rintro e w4 ⟨A4, c4, rfl, hs4, hb4⟩
  go_wp2_with fail
  refine (HI.out _ _ _ hs4).mono ?_
  rintro e w5 ⟨rfl, hb5⟩
  go_wp2_with fail
  refine (HT.out _ ((((hb1.trans hb2).trans hb3).trans hb4).trans hb5)).mono ?_
  rintro e w6 ⟨A6, c6, rfl, hs6, hb6⟩
  go_wp2_with fail
  refine (eqWindowS_t x0 A4 A6 x0.length c4 c6 _ (hs4.ext RWindow.mono (hb5.trans hb6)) hs6 hn0).mono ?_
  rintro e w7 ⟨rfl, hb7⟩
  go_wp2
  exact ret_bool rfl rfl rfl rfl ((((((hb1.trans hb2).trans hb3).trans hb4).trans hb5).trans hb6).trans hb7)
end Go.Proofs.Ytgabikiekiliaaa
