/- The law FnExactMayRun returns true: the walk. Written by genlaw.py. -/
import Derived.Test.YtmnghgacglppeabLaw
import Derived.Test.YtmnghgacglppeabMayRun
import Derived.Deep.RegionHeld3
namespace Go.Proofs.Ytmnghgacglppeab
open Go.RowKit
set_option linter.unusedVariables false
set_option maxHeartbeats 4000000 in
set_option maxRecDepth 10000 in
theorem FnExactMayRun_c (w : World) (cs0 : Array Value) (x0 : Spec) (h0 : RSpec w cs0.toList x0) (A1 : Option Addr) (n1 c1 : Nat) (x1 : List Int) (h1 : SlAt RInt 1 w A1 n1 x1) (hn1 : n1 ≤ maxLen) (x2 : Int) (hi2 : In64 x2) : Calls Try.prog 6 #[.agg cs0, .slice A1 n1 c1, .int .i64 x2] w (Ret w (.bool true)) := by
  obtain rfl := h1.len
  unfold In64 at hi2
  obtain ⟨A0Spans, c0Spans, rfl, h0Spans, hn0Spans, hi0Most⟩ := h0.open
  go_enter Try.func6, Try.ntmps6
  have hb1 : Ext w (w.alloc (.cells #[.slice A0Spans x0.Spans.length c0Spans, .int .i64 x0.Most] 24)) := (Ext.refl _).alloc _
  by_cases hbig1 : 1048576 < x1.length
  · go_wp2
    exact ret_is (by simp [results, Try.results6, go_sem]) rfl hb1
  have hle1 : x1.length ≤ 1048576 := by omega
  go_wp2_with fail
  refine (szSpec_c x0 _ _ 1048576 _ hn0Spans (by omega) (by omega)).mono ?_
  rintro e w2 ⟨rfl, hb2⟩
  (try clear kp0_0 kp0_1)
  rcases szM_cases x0.Spans.length 1048576 with hz0 | ⟨hz0, hle0, hl0⟩
  · have hz : decide (szM x0.Spans.length 1048576 < 0) = true := by simpa using hz0
    clear hz0
    go_wp2
    exact ret_is (by simp [results, Try.results6, go_sem]) rfl (hb1.trans hb2)
  have hz : decide (szM x0.Spans.length 1048576 < 0) = false := by simpa using hz0
  have hg0 : 0 ≤ szM x0.Spans.length 1048576 ∧ szM x0.Spans.length 1048576 ≤ 1048576 := ⟨by omega, by omega⟩
  clear hl0 hz0
  generalize szM x0.Spans.length 1048576 = lf0 at *
  obtain ⟨hg0, hl0⟩ := hg0
  have hle0Spans : x0.Spans.length ≤ 1048576 := by omega
  have cI := fun (A0Spans : Option Addr) (c0Spans : Nat) (A1 : Option Addr) (c1 : Nat) (u : World) (h0Spans : SlAt RSpan 3 u A0Spans x0.Spans.length x0.Spans) (h1 : SlAt RInt 1 u A1 x1.length x1) => MayRun_c x0.Spans x0.Most x1 x2 A0Spans x0.Spans.length c0Spans A1 x1.length c1 u h0Spans hn0Spans h1 hn1
  have cS := fun (A0Spans : Option Addr) (c0Spans : Nat) (A1 : Option Addr) (c1 : Nat) (u : World) (h0Spans : SlAt RSpan 3 u A0Spans x0.Spans.length x0.Spans) (h1 : SlAt RInt 1 u A1 x1.length x1) => sMayRun_c x0.Spans x0.Most x1 x2 A0Spans x0.Spans.length c0Spans A1 x1.length c1 u h0Spans hn0Spans h1 hn1
  generalize mayRunB x0.Spans x0.Most x1 x2 = y0 at cI cS
  have CI := Lib.hid cI
  have CS := Lib.hid cS
  clear cI cS
  have kp0_0 := hb2.cell (law_box w [.slice A0Spans x0.Spans.length c0Spans, .int .i64 x0.Most] 24 0 _ rfl)
  have kp0_1 := hb2.cell (law_box w [.slice A0Spans x0.Spans.length c0Spans, .int .i64 x0.Most] 24 1 _ rfl)
  go_wp2_with fail
  refine (toSpec_c x0 _ _ _ (h0Spans.ext (Flat.mono _ _) (hb1.trans hb2)) hle0Spans).mono ?_
  rintro e w3 ⟨A3Spans, c3Spans, rfl, hq3Spans, hb3⟩
  (try clear kp0_0 kp0_1)
  have ho3Spans := OwnIn.of hq3Spans
  clear hq3Spans
  go_wp2_with fail
  refine (toIntS_c x1 _ _ _ _ (h1.ext (Flat.mono _ _) ((hb1.trans hb2).trans hb3)) hle1).mono ?_
  rintro e w4 ⟨A4, c4, rfl, hq4, hb4⟩
  have ho4 := OwnIn.of hq4
  clear hq4
  go_wp2_with fail
  refine (CS.out _ _ _ _ _ (ho3Spans.ext (Flat.mono _ _) hb4).sl ho4.sl).mono ?_
  rintro e w5 ⟨rfl, hb5⟩
  have kp0_0 := (((hb2.trans hb3).trans hb4).trans hb5).cell (law_box w [.slice A0Spans x0.Spans.length c0Spans, .int .i64 x0.Most] 24 0 _ rfl)
  have kp0_1 := (((hb2.trans hb3).trans hb4).trans hb5).cell (law_box w [.slice A0Spans x0.Spans.length c0Spans, .int .i64 x0.Most] 24 1 _ rfl)
  go_wp2_with fail
  refine (toSpec_c x0 _ _ _ (h0Spans.ext (Flat.mono _ _) ((((hb1.trans hb2).trans hb3).trans hb4).trans hb5)) hle0Spans).mono ?_
  rintro e w6 ⟨A6Spans, c6Spans, rfl, hq6Spans, hb6⟩
  (try clear kp0_0 kp0_1)
  have ho6Spans := OwnIn.of hq6Spans
  clear hq6Spans
  have hb7 : Ext w6 (w6.alloc (.cells #[.slice A6Spans x0.Spans.length c6Spans, .int .i64 x0.Most] 29)) := (Ext.refl _).alloc _
  go_wp2_with fail
  refine (toIntS_c x1 _ _ _ _ (h1.ext (Flat.mono _ _) ((((((hb1.trans hb2).trans hb3).trans hb4).trans hb5).trans hb6).trans hb7)) hle1).mono ?_
  rintro e w8 ⟨A8, c8, rfl, hq8, hb8⟩
  have ho8 := OwnIn.of hq8
  clear hq8
  have kx_0 := hb8.cell (law_box w6 [.slice A6Spans x0.Spans.length c6Spans, .int .i64 x0.Most] 29 0 _ rfl)
  have kx_1 := hb8.cell (law_box w6 [.slice A6Spans x0.Spans.length c6Spans, .int .i64 x0.Most] 29 1 _ rfl)
  go_wp2_with fail
  refine (CI.out _ _ _ _ _ ((ho6Spans.ext (Flat.mono _ _) hb7).ext (Flat.mono _ _) hb8).sl ho8.sl).mono ?_
  rintro e w9 ⟨rfl, hb9⟩
  (try clear kx_0 kx_1)
  have kp0_0 := (((((((hb2.trans hb3).trans hb4).trans hb5).trans hb6).trans hb7).trans hb8).trans hb9).cell (law_box w [.slice A0Spans x0.Spans.length c0Spans, .int .i64 x0.Most] 24 0 _ rfl)
  have kp0_1 := (((((((hb2.trans hb3).trans hb4).trans hb5).trans hb6).trans hb7).trans hb8).trans hb9).cell (law_box w [.slice A0Spans x0.Spans.length c0Spans, .int .i64 x0.Most] 24 1 _ rfl)
  have kx_0 := (hb8.trans hb9).cell (law_box w6 [.slice A6Spans x0.Spans.length c6Spans, .int .i64 x0.Most] 29 0 _ rfl)
  have kx_1 := (hb8.trans hb9).cell (law_box w6 [.slice A6Spans x0.Spans.length c6Spans, .int .i64 x0.Most] 29 1 _ rfl)
  go_wp2
  have hb10 : Ext w9 w9.drew := (Ext.refl _).drew
  have KD0 := Lib.hid (show w9.drew.cell? ⟨w6.heap.size, 0, none⟩ = some (.slice A6Spans x0.Spans.length c6Spans) from kx_0)
  have KD1 := Lib.hid (show w9.drew.cell? ⟨w6.heap.size, 1, none⟩ = some (.int .i64 x0.Most) from kx_1)
  have KD2 := Lib.hid (show w9.drew.cell? ⟨w.heap.size, 0, none⟩ = some (.slice A0Spans x0.Spans.length c0Spans) from kp0_0)
  have KD3 := Lib.hid (show w9.drew.cell? ⟨w.heap.size, 1, none⟩ = some (.int .i64 x0.Most) from kp0_1)
  go_region_held3 (fun u => u.cell? ⟨w6.heap.size, 0, none⟩ = some (.slice A6Spans x0.Spans.length c6Spans) ∧ u.cell? ⟨w6.heap.size, 1, none⟩ = some (.int .i64 x0.Most) ∧ u.cell? ⟨w.heap.size, 0, none⟩ = some (.slice A0Spans x0.Spans.length c0Spans) ∧ u.cell? ⟨w.heap.size, 1, none⟩ = some (.int .i64 x0.Most)) ((refine ⟨?_, ?_, ?_, ?_⟩ <;> first | assumption | exact KD0.out | exact KD1.out | exact KD2.out | exact KD3.out)) (first | (go_at_call 11; refine (toSpec_c x0 _ _ _ (by exact (h0Spans.ext (Flat.mono _ _) (((((((((hb1.trans hb2).trans hb3).trans hb4).trans hb5).trans hb6).trans hb7).trans hb8).trans hb9).trans hb10))) hle0Spans).mono ?_; rintro e w11 ⟨A11Spans, c11Spans, rfl, hq11Spans, hb11⟩; have ho11Spans := OwnIn.of hq11Spans; have KE0 := hb11.cell KD0.out; have KE1 := hb11.cell KD1.out; have KE2 := hb11.cell KD2.out; have KE3 := hb11.cell KD3.out) | (go_at_call 13; refine (eqSpec_t x0 _ _ _ _ _ (by exact (((((ho6Spans.ext (Flat.mono _ _) hb7).ext (Flat.mono _ _) hb8).ext (Flat.mono _ _) hb9).ext (Flat.mono _ _) hb10).ext (Flat.mono _ _) hb11).sl) (by exact ho11Spans.sl) hn0Spans).mono ?_; rintro e w12 ⟨rfl, hb12⟩; have KF0 := hb12.cell KE0; have KF1 := hb12.cell KE1; have KF2 := hb12.cell KE2; have KF3 := hb12.cell KE3))
  clear KE0 KF0 KD0 kx_0 KE1 KF1 KD1 kx_1 KE2 KF2 KD2 kp0_0 KE3 KF3 KD3 kp0_1 hq11Spans
  go_wp2_with fail
  refine (toIntS_c x1 _ _ _ _ (h1.ext (Flat.mono _ _) (((((((((((hb1.trans hb2).trans hb3).trans hb4).trans hb5).trans hb6).trans hb7).trans hb8).trans hb9).trans hb10).trans hb11).trans hb12)) hle1).mono ?_
  rintro e w13 ⟨A13, c13, rfl, hq13, hb13⟩
  have ho13 := OwnIn.of hq13
  clear hq13
  go_wp2_with fail
  refine (eqIntS_c x1 x1 _ _ _ _ _ _ _ (((((ho8.ext (Flat.mono _ _) hb9).ext (Flat.mono _ _) hb10).ext (Flat.mono _ _) hb11).ext (Flat.mono _ _) hb12).ext (Flat.mono _ _) hb13).sl ho13.sl hn1).mono ?_
  rintro e w14 ⟨rfl, hb14⟩
  go_wp2
  exact ret_is (by simp [results, Try.results6, go_sem]) rfl (((((((((((((hb1.trans hb2).trans hb3).trans hb4).trans hb5).trans hb6).trans hb7).trans hb8).trans hb9).trans hb10).trans hb11).trans hb12).trans hb13).trans hb14)
end Go.Proofs.Ytmnghgacglppeab
