/- The law FnExactSpecIds returns true: the walk. Written by genlaw.py. -/
import Derived.Test.YtmnghgacglppeabLaw
import Derived.Test.YtmnghgacglppeabIds
import Derived.Test.YtmnghgacglppeabMarkT
import Derived.Deep.RegionHeld3
namespace Go.Proofs.Ytmnghgacglppeab
open Go.RowKit
set_option linter.unusedVariables false
set_option maxHeartbeats 4000000 in
set_option maxRecDepth 10000 in
theorem FnExactSpecIds_c (w : World) (cs0 : Array Value) (x0 : Spec) (h0 : RSpec w cs0.toList x0) : Calls Try.prog 4 #[.agg cs0] w (Ret w (.bool true)) := by
  obtain ⟨A0Spans, c0Spans, rfl, h0Spans, hn0Spans, hi0Most⟩ := h0.open
  go_enter Try.func4, Try.ntmps4
  have hb1 : Ext w (w.alloc (.cells #[.slice A0Spans x0.Spans.length c0Spans, .int .i64 x0.Most] 24)) := (Ext.refl _).alloc _
  go_wp2_with fail
  refine (szSpec_c x0 _ _ 1048576 _ hn0Spans (by omega) (by omega)).mono ?_
  rintro e w2 ⟨rfl, hb2⟩
  (try clear kp0_0 kp0_1)
  rcases szM_cases x0.Spans.length 1048576 with hz0 | ⟨hz0, hle0, hl0⟩
  · have hz : decide (szM x0.Spans.length 1048576 < 0) = true := by simpa using hz0
    clear hz0
    go_wp2
    exact ret_is (by simp [results, Try.results4, go_sem]) rfl (hb1.trans hb2)
  have hz : decide (szM x0.Spans.length 1048576 < 0) = false := by simpa using hz0
  have hg0 : 0 ≤ szM x0.Spans.length 1048576 ∧ szM x0.Spans.length 1048576 ≤ 1048576 := ⟨by omega, by omega⟩
  clear hl0 hz0
  generalize szM x0.Spans.length 1048576 = lf0 at *
  obtain ⟨hg0, hl0⟩ := hg0
  have hle0Spans : x0.Spans.length ≤ 1048576 := by omega
  have hyl0 : (specIdsL x0.Spans x0.Most).length ≤ 1048576 := Nat.le_trans (specIdsL_len x0.Spans x0.Most) (by omega)
  have cI := fun (A0Spans : Option Addr) (c0Spans : Nat) (u : World) (h0Spans : SlAt RSpan 3 u A0Spans x0.Spans.length x0.Spans) => SpecIds_c x0.Spans x0.Most A0Spans x0.Spans.length c0Spans u h0Spans hn0Spans
  have cS := fun (A0Spans : Option Addr) (c0Spans : Nat) (u : World) (h0Spans : SlAt RSpan 3 u A0Spans x0.Spans.length x0.Spans) => sSpecIds_c x0.Spans x0.Most A0Spans x0.Spans.length c0Spans u h0Spans hn0Spans
  generalize specIdsL x0.Spans x0.Most = y0 at hyl0 cI cS
  have CI := Lib.hid cI
  have CS := Lib.hid cS
  clear cI cS
  have hyn0 : y0.length ≤ maxLen := by unfold maxLen; omega
  have kp0_0 := hb2.cell (law_box w [.slice A0Spans x0.Spans.length c0Spans, .int .i64 x0.Most] 24 0 _ rfl)
  have kp0_1 := hb2.cell (law_box w [.slice A0Spans x0.Spans.length c0Spans, .int .i64 x0.Most] 24 1 _ rfl)
  go_wp2_with fail
  refine (toSpec_c x0 _ _ _ (h0Spans.ext (Flat.mono _ _) (hb1.trans hb2)) hle0Spans).mono ?_
  rintro e w3 ⟨A3Spans, c3Spans, rfl, hq3Spans, hb3⟩
  (try clear kp0_0 kp0_1)
  have ho3Spans := OwnIn.of hq3Spans
  clear hq3Spans
  go_wp2_with fail
  refine (CS.out _ _ _ ho3Spans.sl).mono ?_
  rintro e w4 ⟨A4, c4, rfl, hq4, hb4⟩
  have ho4 := OwnIn.of hq4
  clear hq4
  have kp0_0 := ((hb2.trans hb3).trans hb4).cell (law_box w [.slice A0Spans x0.Spans.length c0Spans, .int .i64 x0.Most] 24 0 _ rfl)
  have kp0_1 := ((hb2.trans hb3).trans hb4).cell (law_box w [.slice A0Spans x0.Spans.length c0Spans, .int .i64 x0.Most] 24 1 _ rfl)
  go_wp2_with fail
  refine (toSpec_c x0 _ _ _ (h0Spans.ext (Flat.mono _ _) (((hb1.trans hb2).trans hb3).trans hb4)) hle0Spans).mono ?_
  rintro e w5 ⟨A5Spans, c5Spans, rfl, hq5Spans, hb5⟩
  (try clear kp0_0 kp0_1)
  have ho5Spans := OwnIn.of hq5Spans
  clear hq5Spans
  have hb6 : Ext w5 (w5.alloc (.cells #[.slice A5Spans x0.Spans.length c5Spans, .int .i64 x0.Most] 29)) := (Ext.refl _).alloc _
  go_wp2_with fail
  refine (CI.out _ _ _ (ho5Spans.ext (Flat.mono _ _) hb6).sl).mono ?_
  rintro e w7 ⟨A7, c7, rfl, hq7, hb7⟩
  have ho7 := OwnIn.of hq7
  clear hq7
  (try clear kx_0 kx_1)
  go_wp2_with fail
  refine (eqIntS_c y0 y0 _ _ _ _ _ _ _ ho7.sl (((ho4.ext (Flat.mono _ _) hb5).ext (Flat.mono _ _) hb6).ext (Flat.mono _ _) hb7).sl hyn0).mono ?_
  rintro e w8 ⟨rfl, hb8⟩
  have kp0_0 := ((((((hb2.trans hb3).trans hb4).trans hb5).trans hb6).trans hb7).trans hb8).cell (law_box w [.slice A0Spans x0.Spans.length c0Spans, .int .i64 x0.Most] 24 0 _ rfl)
  have kp0_1 := ((((((hb2.trans hb3).trans hb4).trans hb5).trans hb6).trans hb7).trans hb8).cell (law_box w [.slice A0Spans x0.Spans.length c0Spans, .int .i64 x0.Most] 24 1 _ rfl)
  have kx_0 := (hb7.trans hb8).cell (law_box w5 [.slice A5Spans x0.Spans.length c5Spans, .int .i64 x0.Most] 29 0 _ rfl)
  have kx_1 := (hb7.trans hb8).cell (law_box w5 [.slice A5Spans x0.Spans.length c5Spans, .int .i64 x0.Most] 29 1 _ rfl)
  go_wp2
  have hb9 : Ext w8 w8.drew := (Ext.refl _).drew
  have KD0 := Lib.hid (show w8.drew.cell? ⟨w5.heap.size, 0, none⟩ = some (.slice A5Spans x0.Spans.length c5Spans) from kx_0)
  have KD1 := Lib.hid (show w8.drew.cell? ⟨w5.heap.size, 1, none⟩ = some (.int .i64 x0.Most) from kx_1)
  have KD2 := Lib.hid (show w8.drew.cell? ⟨w.heap.size, 0, none⟩ = some (.slice A0Spans x0.Spans.length c0Spans) from kp0_0)
  have KD3 := Lib.hid (show w8.drew.cell? ⟨w.heap.size, 1, none⟩ = some (.int .i64 x0.Most) from kp0_1)
  go_region_held3 (fun u => u.cell? ⟨w5.heap.size, 0, none⟩ = some (.slice A5Spans x0.Spans.length c5Spans) ∧ u.cell? ⟨w5.heap.size, 1, none⟩ = some (.int .i64 x0.Most) ∧ u.cell? ⟨w.heap.size, 0, none⟩ = some (.slice A0Spans x0.Spans.length c0Spans) ∧ u.cell? ⟨w.heap.size, 1, none⟩ = some (.int .i64 x0.Most)) ((refine ⟨?_, ?_, ?_, ?_⟩ <;> first | assumption | exact KD0.out | exact KD1.out | exact KD2.out | exact KD3.out)) (first | (go_at_call 11; refine (toSpec_c x0 _ _ _ (by exact (h0Spans.ext (Flat.mono _ _) ((((((((hb1.trans hb2).trans hb3).trans hb4).trans hb5).trans hb6).trans hb7).trans hb8).trans hb9))) hle0Spans).mono ?_; rintro e w10 ⟨A10Spans, c10Spans, rfl, hq10Spans, hb10⟩; have ho10Spans := OwnIn.of hq10Spans; have KE0 := hb10.cell KD0.out; have KE1 := hb10.cell KD1.out; have KE2 := hb10.cell KD2.out; have KE3 := hb10.cell KD3.out) | (go_at_call 13; refine (eqSpec_t x0 _ _ _ _ _ (by exact (((((ho5Spans.ext (Flat.mono _ _) hb6).ext (Flat.mono _ _) hb7).ext (Flat.mono _ _) hb8).ext (Flat.mono _ _) hb9).ext (Flat.mono _ _) hb10).sl) (by exact ho10Spans.sl) hn0Spans).mono ?_; rintro e w11 ⟨rfl, hb11⟩; have KF0 := hb11.cell KE0; have KF1 := hb11.cell KE1; have KF2 := hb11.cell KE2; have KF3 := hb11.cell KE3))
  clear KE0 KF0 KD0 kx_0 KE1 KF1 KD1 kx_1 KE2 KF2 KD2 kp0_0 KE3 KF3 KD3 kp0_1 hq10Spans
  obtain ⟨L12, hL12⟩ := ((((((ho5Spans.ext (Flat.mono _ _) hb6).ext (Flat.mono _ _) hb7).ext (Flat.mono _ _) hb8).ext (Flat.mono _ _) hb9).ext (Flat.mono _ _) hb10).ext (Flat.mono _ _) hb11).owns
  have kx_0 := ((((hb7.trans hb8).trans hb9).trans hb10).trans hb11).cell (law_box w5 [.slice A5Spans x0.Spans.length c5Spans, .int .i64 x0.Most] 29 0 _ rfl)
  have kx_1 := ((((hb7.trans hb8).trans hb9).trans hb10).trans hb11).cell (law_box w5 [.slice A5Spans x0.Spans.length c5Spans, .int .i64 x0.Most] 29 1 _ rfl)
  go_wp2_with fail
  refine (markSpec_c x0 A5Spans c5Spans _ L12 1 _ hL12 hle0Spans (by omega) (by omega)).mono ?_
  rintro e w12 ⟨rfl, hm12, hg12⟩
  (try clear kx_0 kx_1)
  have ht12 := turned_of ((((((ho5Spans.ext (Flat.mono _ _) hb6).ext (Flat.mono _ _) hb7).ext (Flat.mono _ _) hb8).ext (Flat.mono _ _) hb9).ext (Flat.mono _ _) hb10).ext (Flat.mono _ _) hb11) hg12
  clear hg12 hL12
  clear hm12
  go_wp2_with fail
  refine (eqIntS_c y0 y0 _ _ _ _ _ _ _ (((((ho7.ext (Flat.mono _ _) hb8).ext (Flat.mono _ _) hb9).ext (Flat.mono _ _) hb10).ext (Flat.mono _ _) hb11).keep ht12 (.inr hb6.le)).sl ((((((((ho4.ext (Flat.mono _ _) hb5).ext (Flat.mono _ _) hb6).ext (Flat.mono _ _) hb7).ext (Flat.mono _ _) hb8).ext (Flat.mono _ _) hb9).ext (Flat.mono _ _) hb10).ext (Flat.mono _ _) hb11).keep ht12 (.inl (Ext.refl _).le)).sl hyn0).mono ?_
  rintro e w13 ⟨rfl, hb13⟩
  obtain ⟨L14, hL14⟩ := ((((((ho7.ext (Flat.mono _ _) hb8).ext (Flat.mono _ _) hb9).ext (Flat.mono _ _) hb10).ext (Flat.mono _ _) hb11).keep ht12 (.inr hb6.le)).ext (Flat.mono _ _) hb13).owns
  go_wp2_with fail
  refine (markIntS_c A7 _ c7 _ L14 1 _ hL14 hyl0 (by omega) (by omega)).mono ?_
  rintro e w14 ⟨rfl, hm14, hg14⟩
  have ht14 := turned_of ((((((ho7.ext (Flat.mono _ _) hb8).ext (Flat.mono _ _) hb9).ext (Flat.mono _ _) hb10).ext (Flat.mono _ _) hb11).keep ht12 (.inr hb6.le)).ext (Flat.mono _ _) hb13) hg14
  clear hg14 hL14
  go_wp2_with fail
  refine (heldIntS_c A7 _ c7 _ 1 _ hm14 hyl0 (by omega) (by omega)).mono ?_
  rintro e w15 ⟨rfl, hb15⟩
  have kp0_0 := ((ext_turned ((ext_turned (((((((((hb2.trans hb3).trans hb4).trans hb5).trans hb6).trans hb7).trans hb8).trans hb9).trans hb10).trans hb11) ht12 ((hb2.trans hb3).trans hb4).le).trans hb13) ht14 ((((hb2.trans hb3).trans hb4).trans hb5).trans hb6).le).trans hb15).cell (law_box w [.slice A0Spans x0.Spans.length c0Spans, .int .i64 x0.Most] 24 0 _ rfl)
  have kp0_1 := ((ext_turned ((ext_turned (((((((((hb2.trans hb3).trans hb4).trans hb5).trans hb6).trans hb7).trans hb8).trans hb9).trans hb10).trans hb11) ht12 ((hb2.trans hb3).trans hb4).le).trans hb13) ht14 ((((hb2.trans hb3).trans hb4).trans hb5).trans hb6).le).trans hb15).cell (law_box w [.slice A0Spans x0.Spans.length c0Spans, .int .i64 x0.Most] 24 1 _ rfl)
  go_wp2_with fail
  refine (toSpec_c x0 _ _ _ (h0Spans.ext (Flat.mono _ _) ((ext_turned ((ext_turned ((((((((((hb1.trans hb2).trans hb3).trans hb4).trans hb5).trans hb6).trans hb7).trans hb8).trans hb9).trans hb10).trans hb11) ht12 (((hb1.trans hb2).trans hb3).trans hb4).le).trans hb13) ht14 (((((hb1.trans hb2).trans hb3).trans hb4).trans hb5).trans hb6).le).trans hb15)) hle0Spans).mono ?_
  rintro e w16 ⟨A16Spans, c16Spans, rfl, hq16Spans, hb16⟩
  (try clear kp0_0 kp0_1)
  have ho16Spans := OwnIn.of hq16Spans
  clear hq16Spans
  go_wp2_with fail
  refine (CI.out _ _ _ ho16Spans.sl).mono ?_
  rintro e w17 ⟨A17, c17, rfl, hq17, hb17⟩
  have ho17 := OwnIn.of hq17
  clear hq17
  go_wp2_with fail
  refine (eqIntS_c y0 y0 _ _ _ _ _ _ _ ho17.sl (((((((((((((ho4.ext (Flat.mono _ _) hb5).ext (Flat.mono _ _) hb6).ext (Flat.mono _ _) hb7).ext (Flat.mono _ _) hb8).ext (Flat.mono _ _) hb9).ext (Flat.mono _ _) hb10).ext (Flat.mono _ _) hb11).keep ht12 (.inl (Ext.refl _).le)).ext (Flat.mono _ _) hb13).keep ht14 (.inl (hb5.trans hb6).le)).ext (Flat.mono _ _) hb15).ext (Flat.mono _ _) hb16).ext (Flat.mono _ _) hb17).sl hyn0).mono ?_
  rintro e w18 ⟨rfl, hb18⟩
  go_wp2_with fail
  refine (heldIntS_c A7 _ c7 _ 1 _ (owns_ext hm14 (((hb15.trans hb16).trans hb17).trans hb18)) hyl0 (by omega) (by omega)).mono ?_
  rintro e w19 ⟨rfl, hb19⟩
  go_wp2
  exact ret_is (by simp [results, Try.results4, go_sem]) rfl ((((((ext_turned ((ext_turned ((((((((((hb1.trans hb2).trans hb3).trans hb4).trans hb5).trans hb6).trans hb7).trans hb8).trans hb9).trans hb10).trans hb11) ht12 (((hb1.trans hb2).trans hb3).trans hb4).le).trans hb13) ht14 (((((hb1.trans hb2).trans hb3).trans hb4).trans hb5).trans hb6).le).trans hb15).trans hb16).trans hb17).trans hb18).trans hb19)
end Go.Proofs.Ytmnghgacglppeab
