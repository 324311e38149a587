/- The law FnExactFree returns true: the walk. Written by genlaw.py. -/
import Derived.Test.YtekgocannfbfmaaLaw
import Derived.Test.YtekgocannfbfmaaDeps2
namespace Go.Proofs.Ytekgocannfbfmaa
open Go.RowKit
set_option linter.unusedVariables false
set_option maxHeartbeats 4000000 in
theorem FnExactFree_c (w : World) (A0 : Option Addr) (n0 c0 : Nat) (x0 : List Dep) (h0 : SlAt RDep 2 w A0 n0 x0) (hn0 : n0 ≤ maxLen) (x1 : Int) (hi1 : In64 x1) (A2 : Option Addr) (n2 c2 : Nat) (x2 : List Int) (h2 : SlAt RInt 1 w A2 n2 x2) (hn2 : n2 ≤ maxLen) : Calls Try.prog 4 #[.slice A0 n0 c0, .int .i64 x1, .slice A2 n2 c2] w (Ret w (.bool true)) := by
  obtain rfl := h0.len
  unfold In64 at hi1
  obtain rfl := h2.len
  go_enter Try.func4, Try.ntmps4
  by_cases hbig2 : 1048576 < x2.length
  · go_wp2
    exact ret_is (by simp [results, Try.results4, go_sem]) rfl (Ext.refl _)
  have hle2 : x2.length ≤ 1048576 := by omega
  go_wp2_with fail
  refine (szDepS_c A0 x0.length c0 1048576 _ hn0 (by omega) (by omega)).mono ?_
  rintro e w1 ⟨rfl, hb1⟩
  rcases szM_cases x0.length 1048576 with hz0 | ⟨hz0, hle0, hl0⟩
  · have hz : decide (szM x0.length 1048576 < 0) = true := by simpa using hz0
    clear hz0
    go_wp2
    exact ret_is (by simp [results, Try.results4, go_sem]) rfl hb1
  have hz : decide (szM x0.length 1048576 < 0) = false := by simpa using hz0
  have hg0 : 0 ≤ szM x0.length 1048576 ∧ szM x0.length 1048576 ≤ 1048576 := ⟨by omega, by omega⟩
  clear hl0 hz0
  generalize szM x0.length 1048576 = lf0 at *
  obtain ⟨hg0, hl0⟩ := hg0
  have hle0 : x0.length ≤ 1048576 := by omega
  have cI := fun (A0 : Option Addr) (c0 : Nat) (A2 : Option Addr) (c2 : Nat) (u : World) (h0 : SlAt RDep 2 u A0 x0.length x0) (h2 : SlAt RInt 1 u A2 x2.length x2) => Free_c x0 x1 x2 A0 x0.length c0 A2 x2.length c2 u h0 hn0 h2 hn2
  have cS := fun (A0 : Option Addr) (c0 : Nat) (A2 : Option Addr) (c2 : Nat) (u : World) (h0 : SlAt RDep 2 u A0 x0.length x0) (h2 : SlAt RInt 1 u A2 x2.length x2) => sFree_c x0 x1 x2 A0 x0.length c0 A2 x2.length c2 u h0 hn0 h2 hn2
  generalize freeB x0 x1 x2 = y0 at cI cS
  have CI := Lib.hid cI
  have CS := Lib.hid cS
  clear cI cS
  go_wp2_with fail
  refine (toDepS_c x0 _ _ _ _ (h0.ext (Flat.mono _ _) hb1) hle0).mono ?_
  rintro e w2 ⟨A2, c2, rfl, hq2, hb2⟩
  have ho2 := OwnIn.of hq2
  clear hq2
  go_wp2_with fail
  refine (toIntS_c x2 _ _ _ _ (h2.ext (Flat.mono _ _) (hb1.trans hb2)) hle2).mono ?_
  rintro e w3 ⟨A3, c3, rfl, hq3, hb3⟩
  have ho3 := OwnIn.of hq3
  clear hq3
  go_wp2_with fail
  refine (CS.out _ _ _ _ _ (ho2.ext (Flat.mono _ _) hb3).sl ho3.sl).mono ?_
  rintro e w4 ⟨rfl, hb4⟩
  go_wp2_with fail
  refine (toDepS_c x0 _ _ _ _ (h0.ext (Flat.mono _ _) (((hb1.trans hb2).trans hb3).trans hb4)) hle0).mono ?_
  rintro e w5 ⟨A5, c5, rfl, hq5, hb5⟩
  have ho5 := OwnIn.of hq5
  clear hq5
  go_wp2_with fail
  refine (toIntS_c x2 _ _ _ _ (h2.ext (Flat.mono _ _) ((((hb1.trans hb2).trans hb3).trans hb4).trans hb5)) hle2).mono ?_
  rintro e w6 ⟨A6, c6, rfl, hq6, hb6⟩
  have ho6 := OwnIn.of hq6
  clear hq6
  go_wp2_with fail
  refine (CI.out _ _ _ _ _ (ho5.ext (Flat.mono _ _) hb6).sl ho6.sl).mono ?_
  rintro e w7 ⟨rfl, hb7⟩
  go_wp2_with fail
  refine (toDepS_c x0 _ _ _ _ (h0.ext (Flat.mono _ _) ((((((hb1.trans hb2).trans hb3).trans hb4).trans hb5).trans hb6).trans hb7)) hle0).mono ?_
  rintro e w8 ⟨A8, c8, rfl, hq8, hb8⟩
  have ho8 := OwnIn.of hq8
  clear hq8
  go_wp2_with fail
  refine (eqDepS_c x0 x0 _ _ _ _ _ _ _ (((ho5.ext (Flat.mono _ _) hb6).ext (Flat.mono _ _) hb7).ext (Flat.mono _ _) hb8).sl ho8.sl hn0).mono ?_
  rintro e w9 ⟨rfl, hb9⟩
  go_wp2_with fail
  refine (toIntS_c x2 _ _ _ _ (h2.ext (Flat.mono _ _) ((((((((hb1.trans hb2).trans hb3).trans hb4).trans hb5).trans hb6).trans hb7).trans hb8).trans hb9)) hle2).mono ?_
  rintro e w10 ⟨A10, c10, rfl, hq10, hb10⟩
  have ho10 := OwnIn.of hq10
  clear hq10
  go_wp2_with fail
  refine (eqIntS_c x2 x2 _ _ _ _ _ _ _ ((((ho6.ext (Flat.mono _ _) hb7).ext (Flat.mono _ _) hb8).ext (Flat.mono _ _) hb9).ext (Flat.mono _ _) hb10).sl ho10.sl hn2).mono ?_
  rintro e w11 ⟨rfl, hb11⟩
  go_wp2
  exact ret_is (by simp [results, Try.results4, go_sem]) rfl ((((((((((hb1.trans hb2).trans hb3).trans hb4).trans hb5).trans hb6).trans hb7).trans hb8).trans hb9).trans hb10).trans hb11)
end Go.Proofs.Ytekgocannfbfmaa
