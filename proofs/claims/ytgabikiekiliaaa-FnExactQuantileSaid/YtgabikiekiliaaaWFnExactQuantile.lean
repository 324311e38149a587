/- The law FnExactQuantile returns true: the walk. Written by genlaw.py. -/
import Derived.Test.YtgabikiekiliaaaLaw
import Derived.Test.YtgabikiekiliaaaQuant2
namespace Go.Proofs.Ytgabikiekiliaaa
open Go.RowKit
set_option linter.unusedVariables false
set_option maxHeartbeats 4000000 in
set_option maxRecDepth 10000 in
theorem FnExactQuantile_c (w : World) (A0 : Option Addr) (n0 c0 : Nat) (x0 : List Int) (h0 : SlAt RInt 1 w A0 n0 x0) (hn0 : n0 ≤ maxLen) (x1 : Int) (hi1 : In64 x1) : Calls Try.prog 8 #[.slice A0 n0 c0, .int .i64 x1] w (Ret w (.bool true)) := by
  obtain rfl := h0.len
  unfold In64 at hi1
  go_enter Try.func8, Try.ntmps8
  by_cases hbig0 : 1048576 < x0.length
  · go_wp2
    exact ret_is (by simp [results, Try.results8, go_sem]) rfl (Ext.refl _)
  have hle0 : x0.length ≤ 1048576 := by omega
  have cI := fun (A0 : Option Addr) (c0 : Nat) (u : World) (h0 : SlAt RInt 1 u A0 x0.length x0) => Quantile_c x0 x1 A0 x0.length c0 u h0 hn0
  have cS := fun (A0 : Option Addr) (c0 : Nat) (u : World) (h0 : SlAt RInt 1 u A0 x0.length x0) => sQuantile_c x0 x1 A0 x0.length c0 u h0 hn0
  generalize quantI x0 x1 = y0 at cI cS
  have CI := Lib.hid cI
  have CS := Lib.hid cS
  clear cI cS
  go_wp2_with fail
  refine (toIntS_c x0 _ _ _ _ (h0.ext (Flat.mono _ _) (Ext.refl _)) hle0).mono ?_
  rintro e w1 ⟨A1, c1, rfl, hq1, hb1⟩
  have ho1 := OwnIn.of hq1
  clear hq1
  go_wp2_with fail
  refine (CS.out _ _ _ ho1.sl).mono ?_
  rintro e w2 ⟨rfl, hb2⟩
  go_wp2_with fail
  refine (toIntS_c x0 _ _ _ _ (h0.ext (Flat.mono _ _) (hb1.trans hb2)) hle0).mono ?_
  rintro e w3 ⟨A3, c3, rfl, hq3, hb3⟩
  have ho3 := OwnIn.of hq3
  clear hq3
  go_wp2_with fail
  refine (CI.out _ _ _ ho3.sl).mono ?_
  rintro e w4 ⟨rfl, hb4⟩
  go_wp2_with fail
  refine (toIntS_c x0 _ _ _ _ (h0.ext (Flat.mono _ _) (((hb1.trans hb2).trans hb3).trans hb4)) hle0).mono ?_
  rintro e w5 ⟨A5, c5, rfl, hq5, hb5⟩
  have ho5 := OwnIn.of hq5
  clear hq5
  go_wp2_with fail
  refine (eqIntS_c x0 x0 _ _ _ _ _ _ _ ((ho3.ext (Flat.mono _ _) hb4).ext (Flat.mono _ _) hb5).sl ho5.sl hn0).mono ?_
  rintro e w6 ⟨rfl, hb6⟩
  go_wp2
  exact ret_is (by simp [results, Try.results8, go_sem]) rfl (((((hb1.trans hb2).trans hb3).trans hb4).trans hb5).trans hb6)
end Go.Proofs.Ytgabikiekiliaaa
