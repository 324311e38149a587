/- The law FnExactWithin returns true: the walk. Written by genlaw.py. -/
import Derived.Test.YtmnghgacglppeaaLaw
import Derived.Test.YtmnghgacglppeaaWithin
namespace Go.Proofs.Ytmnghgacglppeaa
open Go.RowKit
set_option linter.unusedVariables false
set_option maxHeartbeats 4000000 in
set_option maxRecDepth 10000 in
theorem FnExactWithin_c (w : World) (A0 : Option Addr) (n0 c0 : Nat) (x0 : List Quota) (h0 : SlAt RQuota 6 w A0 n0 x0) (hn0 : n0 ≤ maxLen) (A1 : Option Addr) (n1 c1 : Nat) (x1 : List Hold) (h1 : SlAt RHold 12 w A1 n1 x1) (hn1 : n1 ≤ maxLen) : Calls Try.prog 7 #[.slice A0 n0 c0, .slice A1 n1 c1] w (Ret w (.bool true)) := by
  obtain rfl := h0.len
  obtain rfl := h1.len
  go_enter Try.func7, Try.ntmps7
  go_wp2_with fail
  refine (szQuotaS_c x0 _ _ _ 1048576 _ (h0.ext (Flat.mono _ _) (Ext.refl _)) hn0 (by omega) (by omega)).mono ?_
  rintro e w1 ⟨rfl, hb1⟩
  rcases szSM_cases (fun x : Quota => x.Name.size) x0 1048576 with hz0 | ⟨hz0, hle0, hl0⟩
  · have hz : decide (szSM (fun x : Quota => x.Name.size) x0 1048576 < 0) = true := by simpa using hz0
    clear hz0
    go_wp2
    exact ret_is (by simp [results, Try.results7, go_sem]) rfl hb1
  have hz : decide (szSM (fun x : Quota => x.Name.size) x0 1048576 < 0) = false := by simpa using hz0
  have hg0 : 0 ≤ szSM (fun x : Quota => x.Name.size) x0 1048576 ∧ szSM (fun x : Quota => x.Name.size) x0 1048576 ≤ 1048576 := ⟨by omega, by omega⟩
  clear hl0 hz0
  generalize szSM (fun x : Quota => x.Name.size) x0 1048576 = lf0 at *
  obtain ⟨hg0, hl0⟩ := hg0
  have hle0 : x0.length ≤ 1048576 := by omega
  go_wp2_with fail
  refine (szHoldS_c x1 _ _ _ lf0 _ (h1.ext (Flat.mono _ _) hb1) hn1 (by omega) (by omega)).mono ?_
  rintro e w2 ⟨rfl, hb2⟩
  rcases szSM_cases (fun x : Hold => x.Name.size) x1 lf0 with hz1 | ⟨hz1, hle1, hl1⟩
  · have hz : decide (szSM (fun x : Hold => x.Name.size) x1 lf0 < 0) = true := by simpa using hz1
    clear hz1
    go_wp2
    exact ret_is (by simp [results, Try.results7, go_sem]) rfl (hb1.trans hb2)
  have hz : decide (szSM (fun x : Hold => x.Name.size) x1 lf0 < 0) = false := by simpa using hz1
  have hg1 : 0 ≤ szSM (fun x : Hold => x.Name.size) x1 lf0 ∧ szSM (fun x : Hold => x.Name.size) x1 lf0 ≤ lf0 := ⟨by omega, by omega⟩
  clear hl1 hz1
  generalize szSM (fun x : Hold => x.Name.size) x1 lf0 = lf1 at *
  obtain ⟨hg1, hl1⟩ := hg1
  have hle1 : x1.length ≤ 1048576 := by omega
  have cI := fun (A0 : Option Addr) (c0 : Nat) (A1 : Option Addr) (c1 : Nat) (u : World) (h0 : SlAt RQuota 6 u A0 x0.length x0) (h1 : SlAt RHold 12 u A1 x1.length x1) (hcap1 : x1.length ≤ c1) => Within_c x0 x1 A0 x0.length c0 A1 x1.length c1 u h0 hn0 h1 hn1 hcap1
  have cS := fun (A0 : Option Addr) (c0 : Nat) (A1 : Option Addr) (c1 : Nat) (u : World) (h0 : SlAt RQuota 6 u A0 x0.length x0) (h1 : SlAt RHold 12 u A1 x1.length x1) (hcap1 : x1.length ≤ c1) => sWithin_c x0 x1 A0 x0.length c0 A1 x1.length c1 u h0 hn0 h1 hn1 hcap1
  generalize withinL x0 x1 = y0 at cI cS
  have CI := Lib.hid cI
  have CS := Lib.hid cS
  clear cI cS
  go_wp2_with fail
  refine (toQuotaS_c x0 _ _ _ _ (h0.ext (Flat.mono _ _) (hb1.trans hb2)) hle0).mono ?_
  rintro e w3 ⟨A3, c3, rfl, hq3, hb3⟩
  have ho3 := OwnIn.of hq3
  clear hq3
  go_wp2_with fail
  refine (toHoldS_c x1 _ _ _ _ (h1.ext (Flat.mono _ _) ((hb1.trans hb2).trans hb3)) hle1).mono ?_
  rintro e w4 ⟨A4, c4, rfl, hq4, hb4⟩
  have ho4 := OwnIn.of hq4
  clear hq4
  go_wp2_with fail
  refine (CS.out _ _ _ _ _ (ho3.ext (Flat.mono _ _) hb4).sl ho4.sl ho4.cap).mono ?_
  rintro e w5 ⟨rfl, hb5⟩
  go_wp2_with fail
  refine (toQuotaS_c x0 _ _ _ _ (h0.ext (Flat.mono _ _) ((((hb1.trans hb2).trans hb3).trans hb4).trans hb5)) hle0).mono ?_
  rintro e w6 ⟨A6, c6, rfl, hq6, hb6⟩
  have ho6 := OwnIn.of hq6
  clear hq6
  go_wp2_with fail
  refine (toHoldS_c x1 _ _ _ _ (h1.ext (Flat.mono _ _) (((((hb1.trans hb2).trans hb3).trans hb4).trans hb5).trans hb6)) hle1).mono ?_
  rintro e w7 ⟨A7, c7, rfl, hq7, hb7⟩
  have ho7 := OwnIn.of hq7
  clear hq7
  go_wp2_with fail
  refine (CI.out _ _ _ _ _ (ho6.ext (Flat.mono _ _) hb7).sl ho7.sl ho7.cap).mono ?_
  rintro e w8 ⟨rfl, hb8⟩
  go_wp2_with fail
  refine (toQuotaS_c x0 _ _ _ _ (h0.ext (Flat.mono _ _) (((((((hb1.trans hb2).trans hb3).trans hb4).trans hb5).trans hb6).trans hb7).trans hb8)) hle0).mono ?_
  rintro e w9 ⟨A9, c9, rfl, hq9, hb9⟩
  have ho9 := OwnIn.of hq9
  clear hq9
  go_wp2_with fail
  refine (eqQuotaS_c x0 x0 _ _ _ _ _ _ _ (((ho6.ext (Flat.mono _ _) hb7).ext (Flat.mono _ _) hb8).ext (Flat.mono _ _) hb9).sl ho9.sl hn0).mono ?_
  rintro e w10 ⟨rfl, hb10⟩
  go_wp2_with fail
  refine (toHoldS_c x1 _ _ _ _ (h1.ext (Flat.mono _ _) (((((((((hb1.trans hb2).trans hb3).trans hb4).trans hb5).trans hb6).trans hb7).trans hb8).trans hb9).trans hb10)) hle1).mono ?_
  rintro e w11 ⟨A11, c11, rfl, hq11, hb11⟩
  have ho11 := OwnIn.of hq11
  clear hq11
  go_wp2_with fail
  refine (eqHoldS_c x1 x1 _ _ _ _ _ _ _ ((((ho7.ext (Flat.mono _ _) hb8).ext (Flat.mono _ _) hb9).ext (Flat.mono _ _) hb10).ext (Flat.mono _ _) hb11).sl ho11.sl hn1).mono ?_
  rintro e w12 ⟨rfl, hb12⟩
  go_wp2
  exact ret_is (by simp [results, Try.results7, go_sem]) rfl (((((((((((hb1.trans hb2).trans hb3).trans hb4).trans hb5).trans hb6).trans hb7).trans hb8).trans hb9).trans hb10).trans hb11).trans hb12)
end Go.Proofs.Ytmnghgacglppeaa
