/- The law FnExactChargeAll returns true: the walk. Written by genlaw.py. -/
import Derived.Test.YtfogmplpaopciabLaw
import Derived.Test.YtfogmplpaopciabAll
import Derived.Test.YtfogmplpaopciabMarkT
namespace Go.Proofs.Ytfogmplpaopciab
open Go.RowKit
set_option maxHeartbeats 4000000 in
theorem FnExactChargeAll_c (w : World) (A0 : Option Addr) (n0 c0 : Nat) (x0 : List Account) (h0 : SlAt RAccount 3 w A0 n0 x0) (hn0 : n0 ≤ maxLen) (A1 : Option Addr) (n1 c1 : Nat) (x1 : List Bill) (h1 : SlAt RBill 7 w A1 n1 x1) (hn1 : n1 ≤ maxLen) (A2 : Option Addr) (n2 c2 : Nat) (x2 : List Owner) (h2 : SlAt ROwner 2 w A2 n2 x2) (hn2 : n2 ≤ maxLen) : Calls Try.prog 7 #[.slice A0 n0 c0, .slice A1 n1 c1, .slice A2 n2 c2] w (Ret w (.bool true)) := by
  obtain rfl := h0.len
  obtain rfl := h1.len
  obtain rfl := h2.len
  go_enter Try.func7, Try.ntmps7
  go_wp2_with fail
  refine (szAccountS_c x0 _ _ _ 1048576 _ (h0.ext (Flat.mono _ _) (Ext.refl _)) hn0 (by omega) (by omega)).mono ?_
  rintro e w1 ⟨rfl, hb1⟩
  rcases szSM_cases (fun x : Account => x.Name.size) x0 1048576 with hz0 | ⟨hz0, hle0, hl0⟩
  · have hz : decide (szSM (fun x : Account => x.Name.size) x0 1048576 < 0) = true := by simpa using hz0
    clear hz0
    go_wp2
    exact ret_is (by simp [results, Try.results7, go_sem]) rfl hb1
  have hz : decide (szSM (fun x : Account => x.Name.size) x0 1048576 < 0) = false := by simpa using hz0
  have hg0 : 0 ≤ szSM (fun x : Account => x.Name.size) x0 1048576 ∧ szSM (fun x : Account => x.Name.size) x0 1048576 ≤ 1048576 := ⟨by omega, by omega⟩
  clear hl0 hz0
  generalize szSM (fun x : Account => x.Name.size) x0 1048576 = lf0 at *
  obtain ⟨hg0, hl0⟩ := hg0
  have hle0 : x0.length ≤ 1048576 := by omega
  go_wp2_with fail
  refine (szBillS_c A1 x1.length c1 lf0 _ hn1 (by omega) (by omega)).mono ?_
  rintro e w2 ⟨rfl, hb2⟩
  rcases szM_cases x1.length lf0 with hz1 | ⟨hz1, hle1, hl1⟩
  · have hz : decide (szM x1.length lf0 < 0) = true := by simpa using hz1
    clear hz1
    go_wp2
    exact ret_is (by simp [results, Try.results7, go_sem]) rfl (hb1.trans hb2)
  have hz : decide (szM x1.length lf0 < 0) = false := by simpa using hz1
  have hg1 : 0 ≤ szM x1.length lf0 ∧ szM x1.length lf0 ≤ lf0 := ⟨by omega, by omega⟩
  clear hl1 hz1
  generalize szM x1.length lf0 = lf1 at *
  obtain ⟨hg1, hl1⟩ := hg1
  have hle1 : x1.length ≤ 1048576 := by omega
  go_wp2_with fail
  refine (szOwnerS_c x2 _ _ _ lf1 _ (h2.ext (Flat.mono _ _) (hb1.trans hb2)) hn2 (by omega) (by omega)).mono ?_
  rintro e w3 ⟨rfl, hb3⟩
  rcases szSM_cases (fun x : Owner => x.Name.size) x2 lf1 with hz2 | ⟨hz2, hle2, hl2⟩
  · have hz : decide (szSM (fun x : Owner => x.Name.size) x2 lf1 < 0) = true := by simpa using hz2
    clear hz2
    go_wp2
    exact ret_is (by simp [results, Try.results7, go_sem]) rfl ((hb1.trans hb2).trans hb3)
  have hz : decide (szSM (fun x : Owner => x.Name.size) x2 lf1 < 0) = false := by simpa using hz2
  have hg2 : 0 ≤ szSM (fun x : Owner => x.Name.size) x2 lf1 ∧ szSM (fun x : Owner => x.Name.size) x2 lf1 ≤ lf1 := ⟨by omega, by omega⟩
  clear hl2 hz2
  generalize szSM (fun x : Owner => x.Name.size) x2 lf1 = lf2 at *
  obtain ⟨hg2, hl2⟩ := hg2
  have hle2 : x2.length ≤ 1048576 := by omega
  have hyl0 : (allL x0 x1 x2).length ≤ 1048576 := Nat.le_trans (allL_len x0 x1 x2) (by omega)
  have cI := fun (A0 : Option Addr) (c0 : Nat) (A1 : Option Addr) (c1 : Nat) (A2 : Option Addr) (c2 : Nat) (u : World) (h0 : SlAt RAccount 3 u A0 x0.length x0) (h1 : SlAt RBill 7 u A1 x1.length x1) (h2 : SlAt ROwner 2 u A2 x2.length x2) => ChargeAll_c x0 x1 x2 A0 x0.length c0 A1 x1.length c1 A2 x2.length c2 u h0 hn0 h1 hn1 h2 hn2
  have cS := fun (A0 : Option Addr) (c0 : Nat) (A1 : Option Addr) (c1 : Nat) (A2 : Option Addr) (c2 : Nat) (u : World) (h0 : SlAt RAccount 3 u A0 x0.length x0) (h1 : SlAt RBill 7 u A1 x1.length x1) (h2 : SlAt ROwner 2 u A2 x2.length x2) => sChargeAll_c x0 x1 x2 A0 x0.length c0 A1 x1.length c1 A2 x2.length c2 u h0 hn0 h1 hn1 h2 hn2
  generalize allL x0 x1 x2 = y0 at hyl0 cI cS
  generalize allB x0 x1 = y1 at cI cS
  have CI := Lib.hid cI
  have CS := Lib.hid cS
  clear cI cS
  have hyn0 : y0.length ≤ maxLen := by unfold maxLen; omega
  go_wp2_with fail
  refine (toAccountS_c x0 _ _ _ _ (h0.ext (Flat.mono _ _) ((hb1.trans hb2).trans hb3)) hle0).mono ?_
  rintro e w4 ⟨A4, c4, rfl, hq4, hb4⟩
  have ho4 := OwnIn.of hq4
  clear hq4
  go_wp2_with fail
  refine (toBillS_c x1 _ _ _ _ (h1.ext (Flat.mono _ _) (((hb1.trans hb2).trans hb3).trans hb4)) hle1).mono ?_
  rintro e w5 ⟨A5, c5, rfl, hq5, hb5⟩
  have ho5 := OwnIn.of hq5
  clear hq5
  go_wp2_with fail
  refine (toOwnerS_c x2 _ _ _ _ (h2.ext (Flat.mono _ _) ((((hb1.trans hb2).trans hb3).trans hb4).trans hb5)) hle2).mono ?_
  rintro e w6 ⟨A6, c6, rfl, hq6, hb6⟩
  have ho6 := OwnIn.of hq6
  clear hq6
  go_wp2_with fail
  refine (CS.out _ _ _ _ _ _ _ ((ho4.ext (Flat.mono _ _) hb5).ext (Flat.mono _ _) hb6).sl (ho5.ext (Flat.mono _ _) hb6).sl ho6.sl).mono ?_
  rintro e w7 ⟨A7, c7, rfl, hq7, hb7⟩
  have ho7 := OwnIn.of hq7
  clear hq7
  go_wp2_with fail
  refine (toAccountS_c x0 _ _ _ _ (h0.ext (Flat.mono _ _) ((((((hb1.trans hb2).trans hb3).trans hb4).trans hb5).trans hb6).trans hb7)) hle0).mono ?_
  rintro e w8 ⟨A8, c8, rfl, hq8, hb8⟩
  have ho8 := OwnIn.of hq8
  clear hq8
  go_wp2_with fail
  refine (toBillS_c x1 _ _ _ _ (h1.ext (Flat.mono _ _) (((((((hb1.trans hb2).trans hb3).trans hb4).trans hb5).trans hb6).trans hb7).trans hb8)) hle1).mono ?_
  rintro e w9 ⟨A9, c9, rfl, hq9, hb9⟩
  have ho9 := OwnIn.of hq9
  clear hq9
  go_wp2_with fail
  refine (toOwnerS_c x2 _ _ _ _ (h2.ext (Flat.mono _ _) ((((((((hb1.trans hb2).trans hb3).trans hb4).trans hb5).trans hb6).trans hb7).trans hb8).trans hb9)) hle2).mono ?_
  rintro e w10 ⟨A10, c10, rfl, hq10, hb10⟩
  have ho10 := OwnIn.of hq10
  clear hq10
  go_wp2_with fail
  refine (CI.out _ _ _ _ _ _ _ ((ho8.ext (Flat.mono _ _) hb9).ext (Flat.mono _ _) hb10).sl (ho9.ext (Flat.mono _ _) hb10).sl ho10.sl).mono ?_
  rintro e w11 ⟨A11, c11, rfl, hq11, hb11⟩
  have ho11 := OwnIn.of hq11
  clear hq11
  go_wp2_with fail
  refine (eqAccountS_c y0 y0 _ _ _ _ _ _ _ ho11.sl ((((ho7.ext (Flat.mono _ _) hb8).ext (Flat.mono _ _) hb9).ext (Flat.mono _ _) hb10).ext (Flat.mono _ _) hb11).sl hyn0).mono ?_
  rintro e w12 ⟨rfl, hb12⟩
  go_wp2_with fail
  refine (toAccountS_c x0 _ _ _ _ (h0.ext (Flat.mono _ _) (((((((((((hb1.trans hb2).trans hb3).trans hb4).trans hb5).trans hb6).trans hb7).trans hb8).trans hb9).trans hb10).trans hb11).trans hb12)) hle0).mono ?_
  rintro e w13 ⟨A13, c13, rfl, hq13, hb13⟩
  have ho13 := OwnIn.of hq13
  clear hq13
  go_wp2_with fail
  refine (eqAccountS_c x0 x0 _ _ _ _ _ _ _ (((((ho8.ext (Flat.mono _ _) hb9).ext (Flat.mono _ _) hb10).ext (Flat.mono _ _) hb11).ext (Flat.mono _ _) hb12).ext (Flat.mono _ _) hb13).sl ho13.sl hn0).mono ?_
  rintro e w14 ⟨rfl, hb14⟩
  go_wp2_with fail
  refine (toBillS_c x1 _ _ _ _ (h1.ext (Flat.mono _ _) (((((((((((((hb1.trans hb2).trans hb3).trans hb4).trans hb5).trans hb6).trans hb7).trans hb8).trans hb9).trans hb10).trans hb11).trans hb12).trans hb13).trans hb14)) hle1).mono ?_
  rintro e w15 ⟨A15, c15, rfl, hq15, hb15⟩
  have ho15 := OwnIn.of hq15
  clear hq15
  go_wp2_with fail
  refine (eqBillS_c x1 x1 _ _ _ _ _ _ _ ((((((ho9.ext (Flat.mono _ _) hb10).ext (Flat.mono _ _) hb11).ext (Flat.mono _ _) hb12).ext (Flat.mono _ _) hb13).ext (Flat.mono _ _) hb14).ext (Flat.mono _ _) hb15).sl ho15.sl hn1).mono ?_
  rintro e w16 ⟨rfl, hb16⟩
  go_wp2_with fail
  refine (toOwnerS_c x2 _ _ _ _ (h2.ext (Flat.mono _ _) (((((((((((((((hb1.trans hb2).trans hb3).trans hb4).trans hb5).trans hb6).trans hb7).trans hb8).trans hb9).trans hb10).trans hb11).trans hb12).trans hb13).trans hb14).trans hb15).trans hb16)) hle2).mono ?_
  rintro e w17 ⟨A17, c17, rfl, hq17, hb17⟩
  have ho17 := OwnIn.of hq17
  clear hq17
  go_wp2_with fail
  refine (eqOwnerS_c x2 x2 _ _ _ _ _ _ _ (((((((ho10.ext (Flat.mono _ _) hb11).ext (Flat.mono _ _) hb12).ext (Flat.mono _ _) hb13).ext (Flat.mono _ _) hb14).ext (Flat.mono _ _) hb15).ext (Flat.mono _ _) hb16).ext (Flat.mono _ _) hb17).sl ho17.sl hn2).mono ?_
  rintro e w18 ⟨rfl, hb18⟩
  obtain ⟨L19, hL19⟩ := ((((((((((ho8.ext (Flat.mono _ _) hb9).ext (Flat.mono _ _) hb10).ext (Flat.mono _ _) hb11).ext (Flat.mono _ _) hb12).ext (Flat.mono _ _) hb13).ext (Flat.mono _ _) hb14).ext (Flat.mono _ _) hb15).ext (Flat.mono _ _) hb16).ext (Flat.mono _ _) hb17).ext (Flat.mono _ _) hb18).owns
  go_wp2_with fail
  refine (markAccountS_c A8 _ c8 _ L19 1 _ hL19 hle0 (by omega) (by omega)).mono ?_
  rintro e w19 ⟨rfl, hm19, hg19⟩
  have ht19 := turned_of ((((((((((ho8.ext (Flat.mono _ _) hb9).ext (Flat.mono _ _) hb10).ext (Flat.mono _ _) hb11).ext (Flat.mono _ _) hb12).ext (Flat.mono _ _) hb13).ext (Flat.mono _ _) hb14).ext (Flat.mono _ _) hb15).ext (Flat.mono _ _) hb16).ext (Flat.mono _ _) hb17).ext (Flat.mono _ _) hb18) hg19
  clear hg19 hL19
  clear hm19
  obtain ⟨L20, hL20⟩ := ((((((((((ho9.ext (Flat.mono _ _) hb10).ext (Flat.mono _ _) hb11).ext (Flat.mono _ _) hb12).ext (Flat.mono _ _) hb13).ext (Flat.mono _ _) hb14).ext (Flat.mono _ _) hb15).ext (Flat.mono _ _) hb16).ext (Flat.mono _ _) hb17).ext (Flat.mono _ _) hb18).keep ht19 (.inr (Ext.refl _).le)).owns
  go_wp2_with fail
  refine (markBillS_c A9 _ c9 _ L20 (1 + 3 * (x0.length : Int)) _ hL20 hle1 (by omega) (by omega)).mono ?_
  rintro e w20 ⟨rfl, hm20, hg20⟩
  have ht20 := turned_of ((((((((((ho9.ext (Flat.mono _ _) hb10).ext (Flat.mono _ _) hb11).ext (Flat.mono _ _) hb12).ext (Flat.mono _ _) hb13).ext (Flat.mono _ _) hb14).ext (Flat.mono _ _) hb15).ext (Flat.mono _ _) hb16).ext (Flat.mono _ _) hb17).ext (Flat.mono _ _) hb18).keep ht19 (.inr (Ext.refl _).le)) hg20
  clear hg20 hL20
  clear hm20
  obtain ⟨L21, hL21⟩ := ((((((((((ho10.ext (Flat.mono _ _) hb11).ext (Flat.mono _ _) hb12).ext (Flat.mono _ _) hb13).ext (Flat.mono _ _) hb14).ext (Flat.mono _ _) hb15).ext (Flat.mono _ _) hb16).ext (Flat.mono _ _) hb17).ext (Flat.mono _ _) hb18).keep ht19 (.inr hb9.le)).keep ht20 (.inr (Ext.refl _).le)).owns
  go_wp2_with fail
  refine (markOwnerS_c A10 _ c10 _ L21 ((1 + 3 * (x0.length : Int)) + 7 * (x1.length : Int)) _ hL21 hle2 (by omega) (by omega)).mono ?_
  rintro e w21 ⟨rfl, hm21, hg21⟩
  have ht21 := turned_of ((((((((((ho10.ext (Flat.mono _ _) hb11).ext (Flat.mono _ _) hb12).ext (Flat.mono _ _) hb13).ext (Flat.mono _ _) hb14).ext (Flat.mono _ _) hb15).ext (Flat.mono _ _) hb16).ext (Flat.mono _ _) hb17).ext (Flat.mono _ _) hb18).keep ht19 (.inr hb9.le)).keep ht20 (.inr (Ext.refl _).le)) hg21
  clear hg21 hL21
  clear hm21
  go_wp2_with fail
  refine (eqAccountS_c y0 y0 _ _ _ _ _ _ _ ((((((((((ho11.ext (Flat.mono _ _) hb12).ext (Flat.mono _ _) hb13).ext (Flat.mono _ _) hb14).ext (Flat.mono _ _) hb15).ext (Flat.mono _ _) hb16).ext (Flat.mono _ _) hb17).ext (Flat.mono _ _) hb18).keep ht19 (.inr (hb9.trans hb10).le)).keep ht20 (.inr hb10.le)).keep ht21 (.inr (Ext.refl _).le)).sl ((((((((((((((ho7.ext (Flat.mono _ _) hb8).ext (Flat.mono _ _) hb9).ext (Flat.mono _ _) hb10).ext (Flat.mono _ _) hb11).ext (Flat.mono _ _) hb12).ext (Flat.mono _ _) hb13).ext (Flat.mono _ _) hb14).ext (Flat.mono _ _) hb15).ext (Flat.mono _ _) hb16).ext (Flat.mono _ _) hb17).ext (Flat.mono _ _) hb18).keep ht19 (.inl (Ext.refl _).le)).keep ht20 (.inl hb8.le)).keep ht21 (.inl (hb8.trans hb9).le)).sl hyn0).mono ?_
  rintro e w22 ⟨rfl, hb22⟩
  obtain ⟨L23, hL23⟩ := (((((((((((ho11.ext (Flat.mono _ _) hb12).ext (Flat.mono _ _) hb13).ext (Flat.mono _ _) hb14).ext (Flat.mono _ _) hb15).ext (Flat.mono _ _) hb16).ext (Flat.mono _ _) hb17).ext (Flat.mono _ _) hb18).keep ht19 (.inr (hb9.trans hb10).le)).keep ht20 (.inr hb10.le)).keep ht21 (.inr (Ext.refl _).le)).ext (Flat.mono _ _) hb22).owns
  go_wp2_with fail
  refine (markAccountS_c A11 _ c11 _ L23 1 _ hL23 hyl0 (by omega) (by omega)).mono ?_
  rintro e w23 ⟨rfl, hm23, hg23⟩
  have ht23 := turned_of (((((((((((ho11.ext (Flat.mono _ _) hb12).ext (Flat.mono _ _) hb13).ext (Flat.mono _ _) hb14).ext (Flat.mono _ _) hb15).ext (Flat.mono _ _) hb16).ext (Flat.mono _ _) hb17).ext (Flat.mono _ _) hb18).keep ht19 (.inr (hb9.trans hb10).le)).keep ht20 (.inr hb10.le)).keep ht21 (.inr (Ext.refl _).le)).ext (Flat.mono _ _) hb22) hg23
  clear hg23 hL23
  go_wp2_with fail
  refine (heldAccountS_c A11 _ c11 _ 1 _ hm23 hyl0 (by omega) (by omega)).mono ?_
  rintro e w24 ⟨rfl, hb24⟩
  go_wp2_with fail
  refine (toAccountS_c x0 _ _ _ _ (h0.ext (Flat.mono _ _) ((ext_turned ((ext_turned (ext_turned (ext_turned (((((((((((((((((hb1.trans hb2).trans hb3).trans hb4).trans hb5).trans hb6).trans hb7).trans hb8).trans hb9).trans hb10).trans hb11).trans hb12).trans hb13).trans hb14).trans hb15).trans hb16).trans hb17).trans hb18) ht19 ((((((hb1.trans hb2).trans hb3).trans hb4).trans hb5).trans hb6).trans hb7).le) ht20 (((((((hb1.trans hb2).trans hb3).trans hb4).trans hb5).trans hb6).trans hb7).trans hb8).le) ht21 ((((((((hb1.trans hb2).trans hb3).trans hb4).trans hb5).trans hb6).trans hb7).trans hb8).trans hb9).le).trans hb22) ht23 (((((((((hb1.trans hb2).trans hb3).trans hb4).trans hb5).trans hb6).trans hb7).trans hb8).trans hb9).trans hb10).le).trans hb24)) hle0).mono ?_
  rintro e w25 ⟨A25, c25, rfl, hq25, hb25⟩
  have ho25 := OwnIn.of hq25
  clear hq25
  go_wp2_with fail
  refine (toBillS_c x1 _ _ _ _ (h1.ext (Flat.mono _ _) (((ext_turned ((ext_turned (ext_turned (ext_turned (((((((((((((((((hb1.trans hb2).trans hb3).trans hb4).trans hb5).trans hb6).trans hb7).trans hb8).trans hb9).trans hb10).trans hb11).trans hb12).trans hb13).trans hb14).trans hb15).trans hb16).trans hb17).trans hb18) ht19 ((((((hb1.trans hb2).trans hb3).trans hb4).trans hb5).trans hb6).trans hb7).le) ht20 (((((((hb1.trans hb2).trans hb3).trans hb4).trans hb5).trans hb6).trans hb7).trans hb8).le) ht21 ((((((((hb1.trans hb2).trans hb3).trans hb4).trans hb5).trans hb6).trans hb7).trans hb8).trans hb9).le).trans hb22) ht23 (((((((((hb1.trans hb2).trans hb3).trans hb4).trans hb5).trans hb6).trans hb7).trans hb8).trans hb9).trans hb10).le).trans hb24).trans hb25)) hle1).mono ?_
  rintro e w26 ⟨A26, c26, rfl, hq26, hb26⟩
  have ho26 := OwnIn.of hq26
  clear hq26
  go_wp2_with fail
  refine (toOwnerS_c x2 _ _ _ _ (h2.ext (Flat.mono _ _) ((((ext_turned ((ext_turned (ext_turned (ext_turned (((((((((((((((((hb1.trans hb2).trans hb3).trans hb4).trans hb5).trans hb6).trans hb7).trans hb8).trans hb9).trans hb10).trans hb11).trans hb12).trans hb13).trans hb14).trans hb15).trans hb16).trans hb17).trans hb18) ht19 ((((((hb1.trans hb2).trans hb3).trans hb4).trans hb5).trans hb6).trans hb7).le) ht20 (((((((hb1.trans hb2).trans hb3).trans hb4).trans hb5).trans hb6).trans hb7).trans hb8).le) ht21 ((((((((hb1.trans hb2).trans hb3).trans hb4).trans hb5).trans hb6).trans hb7).trans hb8).trans hb9).le).trans hb22) ht23 (((((((((hb1.trans hb2).trans hb3).trans hb4).trans hb5).trans hb6).trans hb7).trans hb8).trans hb9).trans hb10).le).trans hb24).trans hb25).trans hb26)) hle2).mono ?_
  rintro e w27 ⟨A27, c27, rfl, hq27, hb27⟩
  have ho27 := OwnIn.of hq27
  clear hq27
  go_wp2_with fail
  refine (CI.out _ _ _ _ _ _ _ ((ho25.ext (Flat.mono _ _) hb26).ext (Flat.mono _ _) hb27).sl (ho26.ext (Flat.mono _ _) hb27).sl ho27.sl).mono ?_
  rintro e w28 ⟨A28, c28, rfl, hq28, hb28⟩
  have ho28 := OwnIn.of hq28
  clear hq28
  go_wp2_with fail
  refine (eqAccountS_c y0 y0 _ _ _ _ _ _ _ ho28.sl (((((((((((((((((((((ho7.ext (Flat.mono _ _) hb8).ext (Flat.mono _ _) hb9).ext (Flat.mono _ _) hb10).ext (Flat.mono _ _) hb11).ext (Flat.mono _ _) hb12).ext (Flat.mono _ _) hb13).ext (Flat.mono _ _) hb14).ext (Flat.mono _ _) hb15).ext (Flat.mono _ _) hb16).ext (Flat.mono _ _) hb17).ext (Flat.mono _ _) hb18).keep ht19 (.inl (Ext.refl _).le)).keep ht20 (.inl hb8.le)).keep ht21 (.inl (hb8.trans hb9).le)).ext (Flat.mono _ _) hb22).keep ht23 (.inl ((hb8.trans hb9).trans hb10).le)).ext (Flat.mono _ _) hb24).ext (Flat.mono _ _) hb25).ext (Flat.mono _ _) hb26).ext (Flat.mono _ _) hb27).ext (Flat.mono _ _) hb28).sl hyn0).mono ?_
  rintro e w29 ⟨rfl, hb29⟩
  go_wp2_with fail
  refine (heldAccountS_c A11 _ c11 _ 1 _ (owns_ext hm23 (((((hb24.trans hb25).trans hb26).trans hb27).trans hb28).trans hb29)) hyl0 (by omega) (by omega)).mono ?_
  rintro e w30 ⟨rfl, hb30⟩
  go_wp2
  exact ret_is (by simp [results, Try.results7, go_sem]) rfl ((((((((ext_turned ((ext_turned (ext_turned (ext_turned (((((((((((((((((hb1.trans hb2).trans hb3).trans hb4).trans hb5).trans hb6).trans hb7).trans hb8).trans hb9).trans hb10).trans hb11).trans hb12).trans hb13).trans hb14).trans hb15).trans hb16).trans hb17).trans hb18) ht19 ((((((hb1.trans hb2).trans hb3).trans hb4).trans hb5).trans hb6).trans hb7).le) ht20 (((((((hb1.trans hb2).trans hb3).trans hb4).trans hb5).trans hb6).trans hb7).trans hb8).le) ht21 ((((((((hb1.trans hb2).trans hb3).trans hb4).trans hb5).trans hb6).trans hb7).trans hb8).trans hb9).le).trans hb22) ht23 (((((((((hb1.trans hb2).trans hb3).trans hb4).trans hb5).trans hb6).trans hb7).trans hb8).trans hb9).trans hb10).le).trans hb24).trans hb25).trans hb26).trans hb27).trans hb28).trans hb29).trans hb30)
end Go.Proofs.Ytfogmplpaopciab
