/- The law FnExactHeldBy returns true: the walk. Written by genlaw.py. -/
import Derived.Test.YtmnghgacglppeaaLaw
import Derived.Test.YtmnghgacglppeaaHeldBy
namespace Go.Proofs.Ytmnghgacglppeaa
open Go.RowKit
set_option linter.unusedVariables false
set_option maxHeartbeats 4000000 in
set_option maxRecDepth 10000 in
theorem FnExactHeldBy_c (w : World) (A0 : Option Addr) (n0 c0 : Nat) (x0 : List Hold) (h0 : SlAt RHold 12 w A0 n0 x0) (hn0 : n0 ≤ maxLen) (x1 : ByteArray) (hi1 : x1.size ≤ maxLen) : Calls Try.prog 5 #[.slice A0 n0 c0, .string x1] w (Ret w (.bool true)) := by
  obtain rfl := h0.len
  unfold maxLen at hi1
  go_enter Try.func5, Try.ntmps5
  by_cases hbig1 : 1048576 < x1.size
  · go_wp2
    exact ret_is (by simp [results, Try.results5, go_sem]) rfl (Ext.refl _)
  go_wp2_with fail
  refine (szHoldS_c x0 _ _ _ 1048576 _ (h0.ext (Flat.mono _ _) (Ext.refl _)) hn0 (by omega) (by omega)).mono ?_
  rintro e w1 ⟨rfl, hb1⟩
  rcases szSM_cases (fun x : Hold => x.Name.size) x0 1048576 with hz0 | ⟨hz0, hle0, hl0⟩
  · have hz : decide (szSM (fun x : Hold => x.Name.size) x0 1048576 < 0) = true := by simpa using hz0
    clear hz0
    go_wp2
    exact ret_is (by simp [results, Try.results5, go_sem]) rfl hb1
  have hz : decide (szSM (fun x : Hold => x.Name.size) x0 1048576 < 0) = false := by simpa using hz0
  have hg0 : 0 ≤ szSM (fun x : Hold => x.Name.size) x0 1048576 ∧ szSM (fun x : Hold => x.Name.size) x0 1048576 ≤ 1048576 := ⟨by omega, by omega⟩
  clear hl0 hz0
  generalize szSM (fun x : Hold => x.Name.size) x0 1048576 = lf0 at *
  obtain ⟨hg0, hl0⟩ := hg0
  have hle0 : x0.length ≤ 1048576 := by omega
  have cI := fun (A0 : Option Addr) (c0 : Nat) (u : World) (h0 : SlAt RHold 12 u A0 x0.length x0) (hcap0 : x0.length ≤ c0) => HeldBy_c x0 x1 A0 x0.length c0 u h0 hn0 hcap0
  have cS := fun (A0 : Option Addr) (c0 : Nat) (u : World) (h0 : SlAt RHold 12 u A0 x0.length x0) (hcap0 : x0.length ≤ c0) => sHeldBy_c x0 x1 A0 x0.length c0 u h0 hn0 hcap0
  generalize heldJ x0 x1 = y0 at cI cS
  generalize heldN x0 x1 = y1 at cI cS
  generalize heldV x0 x1 = y2 at cI cS
  generalize heldB x0 x1 = y3 at cI cS
  have CI := Lib.hid cI
  have CS := Lib.hid cS
  clear cI cS
  go_wp2_with fail
  refine (toHoldS_c x0 _ _ _ _ (h0.ext (Flat.mono _ _) hb1) hle0).mono ?_
  rintro e w2 ⟨A2, c2, rfl, hq2, hb2⟩
  have ho2 := OwnIn.of hq2
  clear hq2
  go_wp2_with fail
  refine (CS.out _ _ _ ho2.sl ho2.cap).mono ?_
  rintro e w3 ⟨rfl, hb3⟩
  have hb4 := (Ext.refl w3).alloc (.cells #[.int .i64 y2.A, .int .i64 y2.B, .int .i64 y2.C] 37)
  go_wp2_with fail
  refine (toHoldS_c x0 _ _ _ _ (h0.ext (Flat.mono _ _) (((hb1.trans hb2).trans hb3).trans hb4)) hle0).mono ?_
  rintro e w5 ⟨A5, c5, rfl, hq5, hb5⟩
  have ho5 := OwnIn.of hq5
  clear hq5
  go_wp2_with fail
  refine (CI.out _ _ _ ho5.sl ho5.cap).mono ?_
  rintro e w6 ⟨rfl, hb6⟩
  have hb7 := (Ext.refl w6).alloc (.cells #[.int .i64 y2.A, .int .i64 y2.B, .int .i64 y2.C] 37)
  have kb4_0 := ((hb5.trans hb6).trans hb7).cell (law_box w3 [.int .i64 y2.A, .int .i64 y2.B, .int .i64 y2.C] 37 0 _ rfl)
  have kb4_1 := ((hb5.trans hb6).trans hb7).cell (law_box w3 [.int .i64 y2.A, .int .i64 y2.B, .int .i64 y2.C] 37 1 _ rfl)
  have kb4_2 := ((hb5.trans hb6).trans hb7).cell (law_box w3 [.int .i64 y2.A, .int .i64 y2.B, .int .i64 y2.C] 37 2 _ rfl)
  go_wp2_with fail
  refine (eqVec_c y2 y2 _).mono ?_
  rintro e w8 ⟨rfl, hb8⟩
  go_wp2_with fail
  refine (toHoldS_c x0 _ _ _ _ (h0.ext (Flat.mono _ _) (((((((hb1.trans hb2).trans hb3).trans hb4).trans hb5).trans hb6).trans hb7).trans hb8)) hle0).mono ?_
  rintro e w9 ⟨A9, c9, rfl, hq9, hb9⟩
  have ho9 := OwnIn.of hq9
  clear hq9
  go_wp2_with fail
  refine (eqHoldS_c x0 x0 _ _ _ _ _ _ _ ((((ho5.ext (Flat.mono _ _) hb6).ext (Flat.mono _ _) hb7).ext (Flat.mono _ _) hb8).ext (Flat.mono _ _) hb9).sl ho9.sl hn0).mono ?_
  rintro e w10 ⟨rfl, hb10⟩
  go_wp2
  exact ret_is (by simp [results, Try.results5, go_sem]) rfl (((((((((hb1.trans hb2).trans hb3).trans hb4).trans hb5).trans hb6).trans hb7).trans hb8).trans hb9).trans hb10)
end Go.Proofs.Ytmnghgacglppeaa
