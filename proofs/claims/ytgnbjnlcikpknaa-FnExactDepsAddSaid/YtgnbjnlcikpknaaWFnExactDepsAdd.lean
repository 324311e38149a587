/- The law FnExactDepsAdd returns true: the walk. Written by genlaw.py. -/
import Derived.Test.YtgnbjnlcikpknaaLaw
import Derived.Test.YtgnbjnlcikpknaaAdd
import Derived.Test.YtgnbjnlcikpknaaMarkT
import Derived.Deep.RegionHeld3
namespace Go.Proofs.Ytgnbjnlcikpknaa
open Go.RowKit
set_option linter.unusedVariables false
set_option maxHeartbeats 4000000 in
set_option maxRecDepth 10000 in
theorem FnExactDepsAdd_c (w : World) (A0 : Option Addr) (n0 c0 : Nat) (x0 : List Dep) (h0 : SlAt RDep 2 w A0 n0 x0) (hn0 : n0 ≤ maxLen) (x1 : Dep) (hi1 : x1.ok) : Calls Try.prog 6 #[.slice A0 n0 c0, .agg #[.int .i64 x1.Id, .int .i64 x1.For]] w (Ret w (.bool true)) := by
  obtain rfl := h0.len
  go_enter Try.func6, Try.ntmps6
  have hb1 : Ext w (w.alloc (.cells #[.int .i64 x1.Id, .int .i64 x1.For] 52)) := (Ext.refl _).alloc _
  go_wp2_with fail
  refine (szDepS_c A0 x0.length c0 1048576 _ hn0 (by omega) (by omega)).mono ?_
  rintro e w2 ⟨rfl, hb2⟩
  rcases szM_cases x0.length 1048576 with hz0 | ⟨hz0, hle0, hl0⟩
  · have hz : decide (szM x0.length 1048576 < 0) = true := by simpa using hz0
    clear hz0
    go_wp2
    exact ret_is (by simp [results, Try.results6, go_sem]) rfl (hb1.trans hb2)
  have hz : decide (szM x0.length 1048576 < 0) = false := by simpa using hz0
  have hg0 : 0 ≤ szM x0.length 1048576 ∧ szM x0.length 1048576 ≤ 1048576 := ⟨by omega, by omega⟩
  clear hl0 hz0
  generalize szM x0.length 1048576 = lf0 at *
  obtain ⟨hg0, hl0⟩ := hg0
  have hle0 : x0.length ≤ 1048576 := by omega
  have hyl0 : (depsAddL x0 x1).length ≤ 1048576 := depsAddL_len x0 x1
  have cI := fun (A0 : Option Addr) (c0 : Nat) (u : World) (h0 : SlAt RDep 2 u A0 x0.length x0) => DepsAdd_c x0 x1 A0 x0.length c0 u h0 hn0 hi1
  have cS := fun (A0 : Option Addr) (c0 : Nat) (u : World) (h0 : SlAt RDep 2 u A0 x0.length x0) => sDepsAdd_c x0 x1 A0 x0.length c0 u h0 hn0 hi1
  generalize depsAddL x0 x1 = y0 at hyl0 cI cS
  generalize depsAddC x0 x1 = y1 at cI cS
  have CI := Lib.hid cI
  have CS := Lib.hid cS
  clear cI cS
  have hyn0 : y0.length ≤ maxLen := by unfold maxLen; omega
  have kp1_0 := hb2.cell (law_box_at w (w.heap.size) (by simp) [.int .i64 x1.Id, .int .i64 x1.For] 52 0 _ rfl)
  have kp1_1 := hb2.cell (law_box_at w (w.heap.size) (by simp) [.int .i64 x1.Id, .int .i64 x1.For] 52 1 _ rfl)
  go_wp2
  have hb3 : Ext w2 w2 := Ext.refl _
  have KD0 := Lib.hid (show w2.cell? ⟨w.heap.size, 0, none⟩ = some (.int .i64 x1.Id) from kp1_0)
  have KD1 := Lib.hid (show w2.cell? ⟨w.heap.size, 1, none⟩ = some (.int .i64 x1.For) from kp1_1)
  clear kp1_0 kp1_1
  go_region_held3 (fun u => u.cell? ⟨w.heap.size, 0, none⟩ = some (.int .i64 x1.Id) ∧ u.cell? ⟨w.heap.size, 1, none⟩ = some (.int .i64 x1.For)) (((try dsimp only); (refine ⟨?_, ?_⟩ <;> first | with_reducible assumption | with_reducible exact KD0.out | with_reducible exact KD1.out | (with_reducible refine Ext.cell (w := w2) ?_ (by first | with_reducible assumption | with_reducible exact KD0.out | with_reducible exact KD1.out); (repeat (first | with_reducible assumption | with_reducible exact Ext.refl _ | with_reducible refine Ext.alloc ?_ _ | with_reducible refine Ext.drew ?_ | with_reducible refine Ext.setCell ?_ (by first | (simp; done) | (simp; omega) | omega) _)); done) | (with_reducible refine Ext.cell (w := w4) ?_ (by first | with_reducible assumption | with_reducible exact KD0.out | with_reducible exact KD1.out); (repeat (first | with_reducible assumption | with_reducible exact Ext.refl _ | with_reducible refine Ext.alloc ?_ _ | with_reducible refine Ext.drew ?_ | with_reducible refine Ext.setCell ?_ (by first | (simp; done) | (simp; omega) | omega) _)); done) | (with_reducible refine Ext.cell (w := w5) ?_ (by first | with_reducible assumption | with_reducible exact KD0.out | with_reducible exact KD1.out); (repeat (first | with_reducible assumption | with_reducible exact Ext.refl _ | with_reducible refine Ext.alloc ?_ _ | with_reducible refine Ext.drew ?_ | with_reducible refine Ext.setCell ?_ (by first | (simp; done) | (simp; omega) | omega) _)); done) | (with_reducible refine Ext.cell (w := w6) ?_ (by first | with_reducible assumption | with_reducible exact KD0.out | with_reducible exact KD1.out); (repeat (first | with_reducible assumption | with_reducible exact Ext.refl _ | with_reducible refine Ext.alloc ?_ _ | with_reducible refine Ext.drew ?_ | with_reducible refine Ext.setCell ?_ (by first | (simp; done) | (simp; omega) | omega) _)); done) | go_simp))) (first | (go_at_call 19; (with_reducible refine (toDepS_c x0 _ _ _ _ (by exact ((h0.ext (Flat.mono _ _) ((hb1.trans hb2).trans hb3))).ext (Flat.mono _ _) (Ext.refl _).drew) hle0).mono ?_); rintro e w4 ⟨A4, c4, rfl, hq4, hb4⟩; have hb4 := ((Ext.refl (w2)).drew).trans hb4; have hT4 := hb4; have hl4 : w2.heap.size ≤ w4.heap.size := hT4.le; have ho4 := OwnIn.of hq4; have K1_0 := hb4.cell KD0.out; have K1_1 := hb4.cell KD1.out) | (go_at_call 28; (with_reducible refine (toDep_c x1 _).mono ?_); rintro e w5 ⟨rfl, hb5⟩; have hT5 := hT4.trans hb5; have hl5 : w2.heap.size ≤ w5.heap.size := hT5.le; have K2_0 := hb5.cell K1_0; have K2_1 := hb5.cell K1_1) | (go_at_call 13; (with_reducible refine (CS.out _ _ _ (by exact (ho4.ext (Flat.mono _ _) hb5).sl)).mono ?_); rintro e w6 ⟨A6, c6, rfl, hq6, hb6⟩; have hT6 := hT5.trans hb6; have hl6 : w2.heap.size ≤ w6.heap.size := hT6.le; have ho6 := OwnIn.of hq6; have K3_0 := hb6.cell K2_0; have K3_1 := hb6.cell K2_1))
  clear KD0 KD1 K1_0 K1_1 K2_0 K2_1 K3_0 K3_1
  clear hq4 hq6
  go_wp2_with fail
  refine (toDepS_c x0 _ _ _ _ (h0.ext (Flat.mono _ _) (((((hb1.trans hb2).trans hb3).trans hb4).trans hb5).trans hb6)) hle0).mono ?_
  rintro e w7 ⟨A7, c7, rfl, hq7, hb7⟩
  have ho7 := OwnIn.of hq7
  clear hq7
  have kp1_0 := (((((hb2.trans hb3).trans hb4).trans hb5).trans hb6).trans hb7).cell (law_box_at w (w.heap.size) (by simp) [.int .i64 x1.Id, .int .i64 x1.For] 52 0 _ rfl)
  have kp1_1 := (((((hb2.trans hb3).trans hb4).trans hb5).trans hb6).trans hb7).cell (law_box_at w (w.heap.size) (by simp) [.int .i64 x1.Id, .int .i64 x1.For] 52 1 _ rfl)
  go_wp2_with fail
  refine (toDep_c x1 _).mono ?_
  rintro e w8 ⟨rfl, hb8⟩
  (try clear kp1_0 kp1_1)
  go_wp2_with fail
  refine (CI.out _ _ _ (ho7.ext (Flat.mono _ _) hb8).sl).mono ?_
  rintro e w9 ⟨A9, c9, rfl, hq9, hb9⟩
  have ho9 := OwnIn.of hq9
  clear hq9
  go_wp2_with fail
  refine (eqDepS_c y0 y0 _ _ _ _ _ _ _ ho9.sl (((ho6.ext (Flat.mono _ _) hb7).ext (Flat.mono _ _) hb8).ext (Flat.mono _ _) hb9).sl hyn0).mono ?_
  rintro e w10 ⟨rfl, hb10⟩
  go_wp2_with fail
  refine (toDepS_c x0 _ _ _ _ (h0.ext (Flat.mono _ _) (((((((((hb1.trans hb2).trans hb3).trans hb4).trans hb5).trans hb6).trans hb7).trans hb8).trans hb9).trans hb10)) hle0).mono ?_
  rintro e w11 ⟨A11, c11, rfl, hq11, hb11⟩
  have ho11 := OwnIn.of hq11
  clear hq11
  go_wp2_with fail
  refine (eqDepS_c x0 x0 _ _ _ _ _ _ _ ((((ho7.ext (Flat.mono _ _) hb8).ext (Flat.mono _ _) hb9).ext (Flat.mono _ _) hb10).ext (Flat.mono _ _) hb11).sl ho11.sl hn0).mono ?_
  rintro e w12 ⟨rfl, hb12⟩
  obtain ⟨L13, hL13⟩ := (((((ho7.ext (Flat.mono _ _) hb8).ext (Flat.mono _ _) hb9).ext (Flat.mono _ _) hb10).ext (Flat.mono _ _) hb11).ext (Flat.mono _ _) hb12).owns
  go_wp2_with fail
  refine (markDepS_c A7 _ c7 _ L13 1 _ hL13 hle0 (by omega) (by omega)).mono ?_
  rintro e w13 ⟨rfl, hm13, hg13⟩
  have ht13 := turned_of (((((ho7.ext (Flat.mono _ _) hb8).ext (Flat.mono _ _) hb9).ext (Flat.mono _ _) hb10).ext (Flat.mono _ _) hb11).ext (Flat.mono _ _) hb12) hg13
  clear hg13 hL13
  clear hm13
  go_wp2_with fail
  refine (eqDepS_c y0 y0 _ _ _ _ _ _ _ ((((ho9.ext (Flat.mono _ _) hb10).ext (Flat.mono _ _) hb11).ext (Flat.mono _ _) hb12).keep ht13 (.inr hb8.le)).sl (((((((ho6.ext (Flat.mono _ _) hb7).ext (Flat.mono _ _) hb8).ext (Flat.mono _ _) hb9).ext (Flat.mono _ _) hb10).ext (Flat.mono _ _) hb11).ext (Flat.mono _ _) hb12).keep ht13 (.inl (Ext.refl _).le)).sl hyn0).mono ?_
  rintro e w14 ⟨rfl, hb14⟩
  obtain ⟨L15, hL15⟩ := (((((ho9.ext (Flat.mono _ _) hb10).ext (Flat.mono _ _) hb11).ext (Flat.mono _ _) hb12).keep ht13 (.inr hb8.le)).ext (Flat.mono _ _) hb14).owns
  go_wp2_with fail
  refine (markDepS_c A9 _ c9 _ L15 1 _ hL15 hyl0 (by omega) (by omega)).mono ?_
  rintro e w15 ⟨rfl, hm15, hg15⟩
  have ht15 := turned_of (((((ho9.ext (Flat.mono _ _) hb10).ext (Flat.mono _ _) hb11).ext (Flat.mono _ _) hb12).keep ht13 (.inr hb8.le)).ext (Flat.mono _ _) hb14) hg15
  clear hg15 hL15
  go_wp2_with fail
  refine (heldDepS_c A9 _ c9 _ 1 _ hm15 hyl0 (by omega) (by omega)).mono ?_
  rintro e w16 ⟨rfl, hb16⟩
  have kp1_0 := ((ext_turned ((ext_turned ((((((((((hb2.trans hb3).trans hb4).trans hb5).trans hb6).trans hb7).trans hb8).trans hb9).trans hb10).trans hb11).trans hb12) ht13 ((((hb2.trans hb3).trans hb4).trans hb5).trans hb6).le).trans hb14) ht15 ((((((hb2.trans hb3).trans hb4).trans hb5).trans hb6).trans hb7).trans hb8).le).trans hb16).cell (law_box_at w (w.heap.size) (by simp) [.int .i64 x1.Id, .int .i64 x1.For] 52 0 _ rfl)
  have kp1_1 := ((ext_turned ((ext_turned ((((((((((hb2.trans hb3).trans hb4).trans hb5).trans hb6).trans hb7).trans hb8).trans hb9).trans hb10).trans hb11).trans hb12) ht13 ((((hb2.trans hb3).trans hb4).trans hb5).trans hb6).le).trans hb14) ht15 ((((((hb2.trans hb3).trans hb4).trans hb5).trans hb6).trans hb7).trans hb8).le).trans hb16).cell (law_box_at w (w.heap.size) (by simp) [.int .i64 x1.Id, .int .i64 x1.For] 52 1 _ rfl)
  go_wp2
  have hb17 : Ext w16 w16 := Ext.refl _
  have KD0 := Lib.hid (show w16.cell? ⟨w.heap.size, 0, none⟩ = some (.int .i64 x1.Id) from kp1_0)
  have KD1 := Lib.hid (show w16.cell? ⟨w.heap.size, 1, none⟩ = some (.int .i64 x1.For) from kp1_1)
  clear kp1_0 kp1_1
  go_region_held3 (fun u => u.cell? ⟨w.heap.size, 0, none⟩ = some (.int .i64 x1.Id) ∧ u.cell? ⟨w.heap.size, 1, none⟩ = some (.int .i64 x1.For)) (((try dsimp only); (refine ⟨?_, ?_⟩ <;> first | with_reducible assumption | with_reducible exact KD0.out | with_reducible exact KD1.out | (with_reducible refine Ext.cell (w := w16) ?_ (by first | with_reducible assumption | with_reducible exact KD0.out | with_reducible exact KD1.out); (repeat (first | with_reducible assumption | with_reducible exact Ext.refl _ | with_reducible refine Ext.alloc ?_ _ | with_reducible refine Ext.drew ?_ | with_reducible refine Ext.setCell ?_ (by first | (simp; done) | (simp; omega) | omega) _)); done) | (with_reducible refine Ext.cell (w := w18) ?_ (by first | with_reducible assumption | with_reducible exact KD0.out | with_reducible exact KD1.out); (repeat (first | with_reducible assumption | with_reducible exact Ext.refl _ | with_reducible refine Ext.alloc ?_ _ | with_reducible refine Ext.drew ?_ | with_reducible refine Ext.setCell ?_ (by first | (simp; done) | (simp; omega) | omega) _)); done) | (with_reducible refine Ext.cell (w := w19) ?_ (by first | with_reducible assumption | with_reducible exact KD0.out | with_reducible exact KD1.out); (repeat (first | with_reducible assumption | with_reducible exact Ext.refl _ | with_reducible refine Ext.alloc ?_ _ | with_reducible refine Ext.drew ?_ | with_reducible refine Ext.setCell ?_ (by first | (simp; done) | (simp; omega) | omega) _)); done) | (with_reducible refine Ext.cell (w := w20) ?_ (by first | with_reducible assumption | with_reducible exact KD0.out | with_reducible exact KD1.out); (repeat (first | with_reducible assumption | with_reducible exact Ext.refl _ | with_reducible refine Ext.alloc ?_ _ | with_reducible refine Ext.drew ?_ | with_reducible refine Ext.setCell ?_ (by first | (simp; done) | (simp; omega) | omega) _)); done) | go_simp))) (first | (go_at_call 19; (with_reducible refine (toDepS_c x0 _ _ _ _ (by exact ((h0.ext (Flat.mono _ _) (((ext_turned ((ext_turned (((((((((((hb1.trans hb2).trans hb3).trans hb4).trans hb5).trans hb6).trans hb7).trans hb8).trans hb9).trans hb10).trans hb11).trans hb12) ht13 (((((hb1.trans hb2).trans hb3).trans hb4).trans hb5).trans hb6).le).trans hb14) ht15 (((((((hb1.trans hb2).trans hb3).trans hb4).trans hb5).trans hb6).trans hb7).trans hb8).le).trans hb16).trans hb17))).ext (Flat.mono _ _) (Ext.refl _).drew) hle0).mono ?_); rintro e w18 ⟨A18, c18, rfl, hq18, hb18⟩; have hb18 := ((Ext.refl (w16)).drew).trans hb18; have hT18 := hb18; have hl18 : w16.heap.size ≤ w18.heap.size := hT18.le; have ho18 := OwnIn.of hq18; have K1_0 := hb18.cell KD0.out; have K1_1 := hb18.cell KD1.out) | (go_at_call 28; (with_reducible refine (toDep_c x1 _).mono ?_); rintro e w19 ⟨rfl, hb19⟩; have hT19 := hT18.trans hb19; have hl19 : w16.heap.size ≤ w19.heap.size := hT19.le; have K2_0 := hb19.cell K1_0; have K2_1 := hb19.cell K1_1) | (go_at_call 12; (with_reducible refine (CI.out _ _ _ (by exact (ho18.ext (Flat.mono _ _) hb19).sl)).mono ?_); rintro e w20 ⟨A20, c20, rfl, hq20, hb20⟩; have hT20 := hT19.trans hb20; have hl20 : w16.heap.size ≤ w20.heap.size := hT20.le; have ho20 := OwnIn.of hq20; have K3_0 := hb20.cell K2_0; have K3_1 := hb20.cell K2_1))
  clear KD0 KD1 K1_0 K1_1 K2_0 K2_1 K3_0 K3_1
  clear hq18 hq20
  go_wp2_with fail
  refine (eqDepS_c y0 y0 _ _ _ _ _ _ _ ho20.sl ((((((((((((((ho6.ext (Flat.mono _ _) hb7).ext (Flat.mono _ _) hb8).ext (Flat.mono _ _) hb9).ext (Flat.mono _ _) hb10).ext (Flat.mono _ _) hb11).ext (Flat.mono _ _) hb12).keep ht13 (.inl (Ext.refl _).le)).ext (Flat.mono _ _) hb14).keep ht15 (.inl (hb7.trans hb8).le)).ext (Flat.mono _ _) hb16).ext (Flat.mono _ _) hb17).ext (Flat.mono _ _) hb18).ext (Flat.mono _ _) hb19).ext (Flat.mono _ _) hb20).sl hyn0).mono ?_
  rintro e w21 ⟨rfl, hb21⟩
  go_wp2_with fail
  refine (heldDepS_c A9 _ c9 _ 1 _ (owns_ext hm15 (((((hb16.trans hb17).trans hb18).trans hb19).trans hb20).trans hb21)) hyl0 (by omega) (by omega)).mono ?_
  rintro e w22 ⟨rfl, hb22⟩
  go_wp2
  exact ret_is (by simp [results, Try.results6, go_sem]) rfl ((((((((ext_turned ((ext_turned (((((((((((hb1.trans hb2).trans hb3).trans hb4).trans hb5).trans hb6).trans hb7).trans hb8).trans hb9).trans hb10).trans hb11).trans hb12) ht13 (((((hb1.trans hb2).trans hb3).trans hb4).trans hb5).trans hb6).le).trans hb14) ht15 (((((((hb1.trans hb2).trans hb3).trans hb4).trans hb5).trans hb6).trans hb7).trans hb8).le).trans hb16).trans hb17).trans hb18).trans hb19).trans hb20).trans hb21).trans hb22)
end Go.Proofs.Ytgnbjnlcikpknaa
