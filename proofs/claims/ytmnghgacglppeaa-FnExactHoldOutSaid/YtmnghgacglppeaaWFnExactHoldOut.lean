/- The law FnExactHoldOut returns true: the walk. Written by genlaw.py. -/
import Derived.Test.YtmnghgacglppeaaLaw
import Derived.Test.YtmnghgacglppeaaHold2
import Derived.Test.YtmnghgacglppeaaMarkT
namespace Go.Proofs.Ytmnghgacglppeaa
open Go.RowKit
set_option linter.unusedVariables false
set_option maxHeartbeats 4000000 in
set_option maxRecDepth 10000 in
theorem FnExactHoldOut_c (w : World) (A0 : Option Addr) (n0 c0 : Nat) (x0 : List Hold) (h0 : SlAt RHold 12 w A0 n0 x0) (hn0 : n0 ≤ maxLen) (x1 : Int) (hi1 : In64 x1) : Calls Try.prog 6 #[.slice A0 n0 c0, .int .i64 x1] w (Ret w (.bool true)) := by
  obtain rfl := h0.len
  unfold In64 at hi1
  go_enter Try.func6, Try.ntmps6
  go_wp2_with fail
  refine (szHoldS_c x0 _ _ _ 1048576 _ (h0.ext (Flat.mono _ _) (Ext.refl _)) hn0 (by omega) (by omega)).mono ?_
  rintro e w1 ⟨rfl, hb1⟩
  rcases szSM_cases (fun x : Hold => x.Name.size) x0 1048576 with hz0 | ⟨hz0, hle0, hl0⟩
  · have hz : decide (szSM (fun x : Hold => x.Name.size) x0 1048576 < 0) = true := by simpa using hz0
    clear hz0
    go_wp2
    exact ret_is (by simp [results, Try.results6, go_sem]) rfl hb1
  have hz : decide (szSM (fun x : Hold => x.Name.size) x0 1048576 < 0) = false := by simpa using hz0
  have hg0 : 0 ≤ szSM (fun x : Hold => x.Name.size) x0 1048576 ∧ szSM (fun x : Hold => x.Name.size) x0 1048576 ≤ 1048576 := ⟨by omega, by omega⟩
  clear hl0 hz0
  generalize szSM (fun x : Hold => x.Name.size) x0 1048576 = lf0 at *
  obtain ⟨hg0, hl0⟩ := hg0
  have hle0 : x0.length ≤ 1048576 := by omega
  have hyl0 : (holdOutL x0 x1).length ≤ 1048576 := Nat.le_trans (holdOutL_len x0 x1) (by omega)
  have cI := fun (A0 : Option Addr) (c0 : Nat) (u : World) (h0 : SlAt RHold 12 u A0 x0.length x0) (hcap0 : x0.length ≤ c0) => HoldOut_c x0 x1 A0 x0.length c0 u h0 hn0 hcap0
  have cS := fun (A0 : Option Addr) (c0 : Nat) (u : World) (h0 : SlAt RHold 12 u A0 x0.length x0) (hcap0 : x0.length ≤ c0) => sHoldOut_c x0 x1 A0 x0.length c0 u h0 hn0 hcap0
  generalize holdOutL x0 x1 = y0 at hyl0 cI cS
  have CI := Lib.hid cI
  have CS := Lib.hid cS
  clear cI cS
  have hyn0 : y0.length ≤ maxLen := by unfold maxLen; omega
  go_wp2_with fail
  refine (toHoldS_c x0 _ _ _ _ (h0.ext (Flat.mono _ _) hb1) hle0).mono ?_
  rintro e w2 ⟨A2, c2, rfl, hq2, hb2⟩
  have ho2 := OwnIn.of hq2
  clear hq2
  go_wp2_with fail
  refine (CS.out _ _ _ ho2.sl ho2.cap).mono ?_
  rintro e w3 ⟨A3, c3, rfl, hq3, hb3⟩
  have ho3 := OwnIn.of hq3
  clear hq3
  go_wp2_with fail
  refine (toHoldS_c x0 _ _ _ _ (h0.ext (Flat.mono _ _) ((hb1.trans hb2).trans hb3)) hle0).mono ?_
  rintro e w4 ⟨A4, c4, rfl, hq4, hb4⟩
  have ho4 := OwnIn.of hq4
  clear hq4
  go_wp2_with fail
  refine (CI.out _ _ _ ho4.sl ho4.cap).mono ?_
  rintro e w5 ⟨A5, c5, rfl, hq5, hb5⟩
  have ho5 := OwnIn.of hq5
  clear hq5
  go_wp2_with fail
  refine (eqHoldS_c y0 y0 _ _ _ _ _ _ _ ho5.sl ((ho3.ext (Flat.mono _ _) hb4).ext (Flat.mono _ _) hb5).sl hyn0).mono ?_
  rintro e w6 ⟨rfl, hb6⟩
  go_wp2_with fail
  refine (toHoldS_c x0 _ _ _ _ (h0.ext (Flat.mono _ _) (((((hb1.trans hb2).trans hb3).trans hb4).trans hb5).trans hb6)) hle0).mono ?_
  rintro e w7 ⟨A7, c7, rfl, hq7, hb7⟩
  have ho7 := OwnIn.of hq7
  clear hq7
  go_wp2_with fail
  refine (eqHoldS_c x0 x0 _ _ _ _ _ _ _ (((ho4.ext (Flat.mono _ _) hb5).ext (Flat.mono _ _) hb6).ext (Flat.mono _ _) hb7).sl ho7.sl hn0).mono ?_
  rintro e w8 ⟨rfl, hb8⟩
  obtain ⟨L9, hL9⟩ := ((((ho4.ext (Flat.mono _ _) hb5).ext (Flat.mono _ _) hb6).ext (Flat.mono _ _) hb7).ext (Flat.mono _ _) hb8).owns
  go_wp2_with fail
  refine (markHoldS_c A4 _ c4 _ L9 1 _ hL9 hle0 (by omega) (by omega)).mono ?_
  rintro e w9 ⟨rfl, hm9, hg9⟩
  have ht9 := turned_of ((((ho4.ext (Flat.mono _ _) hb5).ext (Flat.mono _ _) hb6).ext (Flat.mono _ _) hb7).ext (Flat.mono _ _) hb8) hg9
  clear hg9 hL9
  clear hm9
  go_wp2_with fail
  refine (eqHoldS_c y0 y0 _ _ _ _ _ _ _ ((((ho5.ext (Flat.mono _ _) hb6).ext (Flat.mono _ _) hb7).ext (Flat.mono _ _) hb8).keep ht9 (.inr (Ext.refl _).le)).sl ((((((ho3.ext (Flat.mono _ _) hb4).ext (Flat.mono _ _) hb5).ext (Flat.mono _ _) hb6).ext (Flat.mono _ _) hb7).ext (Flat.mono _ _) hb8).keep ht9 (.inl (Ext.refl _).le)).sl hyn0).mono ?_
  rintro e w10 ⟨rfl, hb10⟩
  obtain ⟨L11, hL11⟩ := (((((ho5.ext (Flat.mono _ _) hb6).ext (Flat.mono _ _) hb7).ext (Flat.mono _ _) hb8).keep ht9 (.inr (Ext.refl _).le)).ext (Flat.mono _ _) hb10).owns
  go_wp2_with fail
  refine (markHoldS_c A5 _ c5 _ L11 1 _ hL11 hyl0 (by omega) (by omega)).mono ?_
  rintro e w11 ⟨rfl, hm11, hg11⟩
  have ht11 := turned_of (((((ho5.ext (Flat.mono _ _) hb6).ext (Flat.mono _ _) hb7).ext (Flat.mono _ _) hb8).keep ht9 (.inr (Ext.refl _).le)).ext (Flat.mono _ _) hb10) hg11
  clear hg11 hL11
  go_wp2_with fail
  refine (heldHoldS_c A5 _ c5 _ 1 _ hm11 hyl0 (by omega) (by omega)).mono ?_
  rintro e w12 ⟨rfl, hb12⟩
  go_wp2_with fail
  refine (toHoldS_c x0 _ _ _ _ (h0.ext (Flat.mono _ _) ((ext_turned ((ext_turned (((((((hb1.trans hb2).trans hb3).trans hb4).trans hb5).trans hb6).trans hb7).trans hb8) ht9 ((hb1.trans hb2).trans hb3).le).trans hb10) ht11 (((hb1.trans hb2).trans hb3).trans hb4).le).trans hb12)) hle0).mono ?_
  rintro e w13 ⟨A13, c13, rfl, hq13, hb13⟩
  have ho13 := OwnIn.of hq13
  clear hq13
  go_wp2_with fail
  refine (CI.out _ _ _ ho13.sl ho13.cap).mono ?_
  rintro e w14 ⟨A14, c14, rfl, hq14, hb14⟩
  have ho14 := OwnIn.of hq14
  clear hq14
  go_wp2_with fail
  refine (eqHoldS_c y0 y0 _ _ _ _ _ _ _ ho14.sl (((((((((((ho3.ext (Flat.mono _ _) hb4).ext (Flat.mono _ _) hb5).ext (Flat.mono _ _) hb6).ext (Flat.mono _ _) hb7).ext (Flat.mono _ _) hb8).keep ht9 (.inl (Ext.refl _).le)).ext (Flat.mono _ _) hb10).keep ht11 (.inl hb4.le)).ext (Flat.mono _ _) hb12).ext (Flat.mono _ _) hb13).ext (Flat.mono _ _) hb14).sl hyn0).mono ?_
  rintro e w15 ⟨rfl, hb15⟩
  go_wp2_with fail
  refine (heldHoldS_c A5 _ c5 _ 1 _ (owns_ext hm11 (((hb12.trans hb13).trans hb14).trans hb15)) hyl0 (by omega) (by omega)).mono ?_
  rintro e w16 ⟨rfl, hb16⟩
  go_wp2
  exact ret_is (by simp [results, Try.results6, go_sem]) rfl ((((((ext_turned ((ext_turned (((((((hb1.trans hb2).trans hb3).trans hb4).trans hb5).trans hb6).trans hb7).trans hb8) ht9 ((hb1.trans hb2).trans hb3).le).trans hb10) ht11 (((hb1.trans hb2).trans hb3).trans hb4).le).trans hb12).trans hb13).trans hb14).trans hb15).trans hb16)
end Go.Proofs.Ytmnghgacglppeaa
