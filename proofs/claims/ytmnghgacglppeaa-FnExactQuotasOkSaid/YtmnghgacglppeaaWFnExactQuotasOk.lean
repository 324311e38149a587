/- The law FnExactQuotasOk returns true: the walk. Written by genlaw.py. -/
import Derived.Test.YtmnghgacglppeaaLaw
import Derived.Test.YtmnghgacglppeaaQuota
namespace Go.Proofs.Ytmnghgacglppeaa
open Go.RowKit
set_option linter.unusedVariables false
set_option maxHeartbeats 4000000 in
set_option maxRecDepth 10000 in
theorem FnExactQuotasOk_c (w : World) (A0 : Option Addr) (n0 c0 : Nat) (x0 : List Quota) (h0 : SlAt RQuota 6 w A0 n0 x0) (hn0 : n0 ≤ maxLen) : Calls Try.prog 3 #[.slice A0 n0 c0] w (Ret w (.bool true)) := by
  obtain rfl := h0.len
  go_enter Try.func3, Try.ntmps3
  go_wp2_with fail
  refine (szQuotaS_c x0 _ _ _ 1048576 _ (h0.ext (Flat.mono _ _) (Ext.refl _)) hn0 (by omega) (by omega)).mono ?_
  rintro e w1 ⟨rfl, hb1⟩
  rcases szSM_cases (fun x : Quota => x.Name.size) x0 1048576 with hz0 | ⟨hz0, hle0, hl0⟩
  · have hz : decide (szSM (fun x : Quota => x.Name.size) x0 1048576 < 0) = true := by simpa using hz0
    clear hz0
    go_wp2
    exact ret_is (by simp [results, Try.results3, go_sem]) rfl hb1
  have hz : decide (szSM (fun x : Quota => x.Name.size) x0 1048576 < 0) = false := by simpa using hz0
  have hg0 : 0 ≤ szSM (fun x : Quota => x.Name.size) x0 1048576 ∧ szSM (fun x : Quota => x.Name.size) x0 1048576 ≤ 1048576 := ⟨by omega, by omega⟩
  clear hl0 hz0
  generalize szSM (fun x : Quota => x.Name.size) x0 1048576 = lf0 at *
  obtain ⟨hg0, hl0⟩ := hg0
  have hle0 : x0.length ≤ 1048576 := by omega
  have cI := fun (A0 : Option Addr) (c0 : Nat) (u : World) (h0 : SlAt RQuota 6 u A0 x0.length x0) => QuotasOk_c x0 A0 x0.length c0 u h0 hn0
  have cS := fun (A0 : Option Addr) (c0 : Nat) (u : World) (h0 : SlAt RQuota 6 u A0 x0.length x0) => sQuotasOk_c x0 A0 x0.length c0 u h0 hn0
  generalize quotasB x0 = y0 at cI cS
  have CI := Lib.hid cI
  have CS := Lib.hid cS
  clear cI cS
  go_wp2_with fail
  refine (toQuotaS_c x0 _ _ _ _ (h0.ext (Flat.mono _ _) hb1) hle0).mono ?_
  rintro e w2 ⟨A2, c2, rfl, hq2, hb2⟩
  have ho2 := OwnIn.of hq2
  clear hq2
  go_wp2_with fail
  refine (CS.out _ _ _ ho2.sl).mono ?_
  rintro e w3 ⟨rfl, hb3⟩
  go_wp2_with fail
  refine (toQuotaS_c x0 _ _ _ _ (h0.ext (Flat.mono _ _) ((hb1.trans hb2).trans hb3)) hle0).mono ?_
  rintro e w4 ⟨A4, c4, rfl, hq4, hb4⟩
  have ho4 := OwnIn.of hq4
  clear hq4
  go_wp2_with fail
  refine (CI.out _ _ _ ho4.sl).mono ?_
  rintro e w5 ⟨rfl, hb5⟩
  go_wp2_with fail
  refine (toQuotaS_c x0 _ _ _ _ (h0.ext (Flat.mono _ _) ((((hb1.trans hb2).trans hb3).trans hb4).trans hb5)) hle0).mono ?_
  rintro e w6 ⟨A6, c6, rfl, hq6, hb6⟩
  have ho6 := OwnIn.of hq6
  clear hq6
  go_wp2_with fail
  refine (eqQuotaS_c x0 x0 _ _ _ _ _ _ _ ((ho4.ext (Flat.mono _ _) hb5).ext (Flat.mono _ _) hb6).sl ho6.sl hn0).mono ?_
  rintro e w7 ⟨rfl, hb7⟩
  go_wp2
  exact ret_is (by simp [results, Try.results3, go_sem]) rfl ((((((hb1.trans hb2).trans hb3).trans hb4).trans hb5).trans hb6).trans hb7)
end Go.Proofs.Ytmnghgacglppeaa
