/- The law FnExactSpecText returns true: the walk. Written by genlaw.py. -/
import Derived.Test.YtmnghgacglppeabLaw
import Derived.Test.YtmnghgacglppeabSpecText
import Derived.Deep.RegionHeld3
namespace Go.Proofs.Ytmnghgacglppeab
open Go.RowKit
set_option linter.unusedVariables false
set_option maxHeartbeats 4000000 in
set_option maxRecDepth 10000 in
theorem FnExactSpecText_c (w : World) (cs0 : Array Value) (x0 : Spec) (h0 : RSpec w cs0.toList x0) : Calls Try.prog 5 #[.agg cs0] w (Ret w (.bool true)) := by
  obtain ⟨A0Spans, c0Spans, rfl, h0Spans, hn0Spans, hi0Most⟩ := h0.open
  go_enter Try.func5, Try.ntmps5
  have hb1 : Ext w (w.alloc (.cells #[.slice A0Spans x0.Spans.length c0Spans, .int .i64 x0.Most] 24)) := (Ext.refl _).alloc _
  go_wp2_with fail
  refine (szSpec_c x0 _ _ 1048576 _ hn0Spans (by omega) (by omega)).mono ?_
  rintro e w2 ⟨rfl, hb2⟩
  (try clear kp0_0 kp0_1)
  rcases szM_cases x0.Spans.length 1048576 with hz0 | ⟨hz0, hle0, hl0⟩
  · have hz : decide (szM x0.Spans.length 1048576 < 0) = true := by simpa using hz0
    clear hz0
    go_wp2
    exact ret_is (by simp [results, Try.results5, go_sem]) rfl (hb1.trans hb2)
  have hz : decide (szM x0.Spans.length 1048576 < 0) = false := by simpa using hz0
  have hg0 : 0 ≤ szM x0.Spans.length 1048576 ∧ szM x0.Spans.length 1048576 ≤ 1048576 := ⟨by omega, by omega⟩
  clear hl0 hz0
  generalize szM x0.Spans.length 1048576 = lf0 at *
  obtain ⟨hg0, hl0⟩ := hg0
  have hle0Spans : x0.Spans.length ≤ 1048576 := by omega
  have cI := fun (A0Spans : Option Addr) (c0Spans : Nat) (u : World) (h0Spans : SlAt RSpan 3 u A0Spans x0.Spans.length x0.Spans) => SpecText_c x0.Spans x0.Most A0Spans x0.Spans.length c0Spans u h0Spans hn0Spans
  have cS := fun (A0Spans : Option Addr) (c0Spans : Nat) (u : World) (h0Spans : SlAt RSpan 3 u A0Spans x0.Spans.length x0.Spans) => sSpecText_c x0.Spans x0.Most A0Spans x0.Spans.length c0Spans u h0Spans hn0Spans
  generalize specText x0.Spans x0.Most = y0 at cI cS
  have CI := Lib.hid cI
  have CS := Lib.hid cS
  clear cI cS
  have kp0_0 := hb2.cell (law_box_at w (w.heap.size) (by simp) [.slice A0Spans x0.Spans.length c0Spans, .int .i64 x0.Most] 24 0 _ rfl)
  have kp0_1 := hb2.cell (law_box_at w (w.heap.size) (by simp) [.slice A0Spans x0.Spans.length c0Spans, .int .i64 x0.Most] 24 1 _ rfl)
  go_wp2_with fail
  refine (toSpec_c x0 _ _ _ (h0Spans.ext (Flat.mono _ _) (hb1.trans hb2)) hle0Spans).mono ?_
  rintro e w3 ⟨A3Spans, c3Spans, rfl, hq3Spans, hb3⟩
  (try clear kp0_0 kp0_1)
  have ho3Spans := OwnIn.of hq3Spans
  clear hq3Spans
  go_wp2_with fail
  refine (CS.out _ _ _ ho3Spans.sl).mono ?_
  rintro e w4 ⟨rfl, hb4⟩
  have kp0_0 := ((hb2.trans hb3).trans hb4).cell (law_box_at w (w.heap.size) (by simp) [.slice A0Spans x0.Spans.length c0Spans, .int .i64 x0.Most] 24 0 _ rfl)
  have kp0_1 := ((hb2.trans hb3).trans hb4).cell (law_box_at w (w.heap.size) (by simp) [.slice A0Spans x0.Spans.length c0Spans, .int .i64 x0.Most] 24 1 _ rfl)
  go_wp2_with fail
  refine (toSpec_c x0 _ _ _ (h0Spans.ext (Flat.mono _ _) (((hb1.trans hb2).trans hb3).trans hb4)) hle0Spans).mono ?_
  rintro e w5 ⟨A5Spans, c5Spans, rfl, hq5Spans, hb5⟩
  (try clear kp0_0 kp0_1)
  have ho5Spans := OwnIn.of hq5Spans
  clear hq5Spans
  have hb6 : Ext w5 (w5.alloc (.cells #[.slice A5Spans x0.Spans.length c5Spans, .int .i64 x0.Most] 29)) := (Ext.refl _).alloc _
  go_wp2_with fail
  refine (CI.out _ _ _ (ho5Spans.ext (Flat.mono _ _) hb6).sl).mono ?_
  rintro e w7 ⟨rfl, hb7⟩
  (try clear kx_0 kx_1)
  have kp0_0 := (((((hb2.trans hb3).trans hb4).trans hb5).trans hb6).trans hb7).cell (law_box_at w (w.heap.size) (by simp) [.slice A0Spans x0.Spans.length c0Spans, .int .i64 x0.Most] 24 0 _ rfl)
  have kp0_1 := (((((hb2.trans hb3).trans hb4).trans hb5).trans hb6).trans hb7).cell (law_box_at w (w.heap.size) (by simp) [.slice A0Spans x0.Spans.length c0Spans, .int .i64 x0.Most] 24 1 _ rfl)
  have kx_0 := hb7.cell (law_box w5 [.slice A5Spans x0.Spans.length c5Spans, .int .i64 x0.Most] 29 0 _ rfl)
  have kx_1 := hb7.cell (law_box w5 [.slice A5Spans x0.Spans.length c5Spans, .int .i64 x0.Most] 29 1 _ rfl)
  go_wp2
  have hb8 : Ext w7 w7.drew := (Ext.refl _).drew
  have KD0 := Lib.hid (show w7.drew.cell? ⟨w5.heap.size, 0, none⟩ = some (.slice A5Spans x0.Spans.length c5Spans) from kx_0)
  have KD1 := Lib.hid (show w7.drew.cell? ⟨w5.heap.size, 1, none⟩ = some (.int .i64 x0.Most) from kx_1)
  have KD2 := Lib.hid (show w7.drew.cell? ⟨w.heap.size, 0, none⟩ = some (.slice A0Spans x0.Spans.length c0Spans) from kp0_0)
  have KD3 := Lib.hid (show w7.drew.cell? ⟨w.heap.size, 1, none⟩ = some (.int .i64 x0.Most) from kp0_1)
  go_region_held3 (fun u => u.cell? ⟨w5.heap.size, 0, none⟩ = some (.slice A5Spans x0.Spans.length c5Spans) ∧ u.cell? ⟨w5.heap.size, 1, none⟩ = some (.int .i64 x0.Most) ∧ u.cell? ⟨w.heap.size, 0, none⟩ = some (.slice A0Spans x0.Spans.length c0Spans) ∧ u.cell? ⟨w.heap.size, 1, none⟩ = some (.int .i64 x0.Most)) ((refine ⟨?_, ?_, ?_, ?_⟩ <;> first | assumption | exact KD0.out | exact KD1.out | exact KD2.out | exact KD3.out)) (first | (go_at_call 11; refine (toSpec_c x0 _ _ _ (by exact (h0Spans.ext (Flat.mono _ _) (((((((hb1.trans hb2).trans hb3).trans hb4).trans hb5).trans hb6).trans hb7).trans hb8))) hle0Spans).mono ?_; rintro e w9 ⟨A9Spans, c9Spans, rfl, hq9Spans, hb9⟩; have ho9Spans := OwnIn.of hq9Spans; have KE0 := hb9.cell KD0.out; have KE1 := hb9.cell KD1.out; have KE2 := hb9.cell KD2.out; have KE3 := hb9.cell KD3.out) | (go_at_call 13; refine (eqSpec_t x0 _ _ _ _ _ (by exact ((((ho5Spans.ext (Flat.mono _ _) hb6).ext (Flat.mono _ _) hb7).ext (Flat.mono _ _) hb8).ext (Flat.mono _ _) hb9).sl) (by exact ho9Spans.sl) hn0Spans).mono ?_; rintro e w10 ⟨rfl, hb10⟩; have KF0 := hb10.cell KE0; have KF1 := hb10.cell KE1; have KF2 := hb10.cell KE2; have KF3 := hb10.cell KE3))
  clear KE0 KF0 KD0 kx_0 KE1 KF1 KD1 kx_1 KE2 KF2 KD2 kp0_0 KE3 KF3 KD3 kp0_1 hq9Spans
  go_wp2
  exact ret_is (by simp [results, Try.results5, go_sem]) rfl (((((((((hb1.trans hb2).trans hb3).trans hb4).trans hb5).trans hb6).trans hb7).trans hb8).trans hb9).trans hb10)
end Go.Proofs.Ytmnghgacglppeab
