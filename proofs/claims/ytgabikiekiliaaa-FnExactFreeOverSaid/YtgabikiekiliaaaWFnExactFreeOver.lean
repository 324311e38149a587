/- The law FnExactFreeOver returns true: the walk. Written by genlaw.py. -/
import Derived.Test.YtgabikiekiliaaaLaw
import Derived.Test.YtgabikiekiliaaaUsed
import Derived.Deep.RegionHeld3
namespace Go.Proofs.Ytgabikiekiliaaa
open Go.RowKit
set_option linter.unusedVariables false
set_option maxHeartbeats 4000000 in
set_option maxRecDepth 10000 in
theorem FnExactFreeOver_c (w : World) (cs0 : Array Value) (x0 : Prof) (h0 : RProf w cs0.toList x0) (x1 : Int) (hi1 : In64 x1) (x2 : Int) (hi2 : In64 x2) : Calls Try.prog 3 #[.agg cs0, .int .i64 x1, .int .i64 x2] w (Ret w (.bool true)) := by
  unfold In64 at hi1
  unfold In64 at hi2
  obtain ⟨A0Pts, c0Pts, rfl, h0Pts, hn0Pts⟩ := h0.open
  go_enter Try.func3, Try.ntmps3
  have hb1 : Ext w (w.alloc (.cells #[.slice A0Pts x0.Pts.length c0Pts] 24)) := (Ext.refl _).alloc _
  go_wp2_with fail
  refine (szProf_c x0 _ _ 1048576 _ hn0Pts (by omega) (by omega)).mono ?_
  rintro e w2 ⟨rfl, hb2⟩
  (try clear kp0_0)
  rcases szM_cases x0.Pts.length 1048576 with hz0 | ⟨hz0, hle0, hl0⟩
  · have hz : decide (szM x0.Pts.length 1048576 < 0) = true := by simpa using hz0
    clear hz0
    go_wp2
    exact ret_is (by simp [results, Try.results3, go_sem]) rfl (hb1.trans hb2)
  have hz : decide (szM x0.Pts.length 1048576 < 0) = false := by simpa using hz0
  have hg0 : 0 ≤ szM x0.Pts.length 1048576 ∧ szM x0.Pts.length 1048576 ≤ 1048576 := ⟨by omega, by omega⟩
  clear hl0 hz0
  generalize szM x0.Pts.length 1048576 = lf0 at *
  obtain ⟨hg0, hl0⟩ := hg0
  have hle0Pts : x0.Pts.length ≤ 1048576 := by omega
  have cI := fun (A0Pts : Option Addr) (c0Pts : Nat) (u : World) (h0Pts : SlAt RPt 4 u A0Pts x0.Pts.length x0.Pts) => FreeOver_c x0.Pts x1 x2 A0Pts x0.Pts.length c0Pts u h0Pts hn0Pts
  have cS := fun (A0Pts : Option Addr) (c0Pts : Nat) (u : World) (h0Pts : SlAt RPt 4 u A0Pts x0.Pts.length x0.Pts) => sFreeOver_c x0.Pts x1 x2 A0Pts x0.Pts.length c0Pts u h0Pts hn0Pts
  generalize overU x0.Pts x1 x2 = y0 at cI cS
  generalize overB x0.Pts x1 x2 = y1 at cI cS
  have CI := Lib.hid cI
  have CS := Lib.hid cS
  clear cI cS
  have kp0_0 := hb2.cell (law_box_at w (w.heap.size) (by simp) [.slice A0Pts x0.Pts.length c0Pts] 24 0 _ rfl)
  go_wp2_with fail
  refine (toProf_c x0 _ _ _ (h0Pts.ext (Flat.mono _ _) (hb1.trans hb2)) hle0Pts).mono ?_
  rintro e w3 ⟨A3Pts, c3Pts, rfl, hq3Pts, hb3⟩
  (try clear kp0_0)
  have ho3Pts := OwnIn.of hq3Pts
  clear hq3Pts
  go_wp2_with fail
  refine (CS.out _ _ _ ho3Pts.sl).mono ?_
  rintro e w4 ⟨rfl, hb4⟩
  have hb5 := (Ext.refl w4).alloc (.cells #[.int .i64 y0.A, .int .i64 y0.B, .int .i64 y0.C] 27)
  have kp0_0 := (((hb2.trans hb3).trans hb4).trans hb5).cell (law_box_at w (w.heap.size) (by simp) [.slice A0Pts x0.Pts.length c0Pts] 24 0 _ rfl)
  go_wp2_with fail
  refine (toProf_c x0 _ _ _ (h0Pts.ext (Flat.mono _ _) ((((hb1.trans hb2).trans hb3).trans hb4).trans hb5)) hle0Pts).mono ?_
  rintro e w6 ⟨A6Pts, c6Pts, rfl, hq6Pts, hb6⟩
  (try clear kp0_0)
  have ho6Pts := OwnIn.of hq6Pts
  clear hq6Pts
  have hb7 : Ext w6 (w6.alloc (.cells #[.slice A6Pts x0.Pts.length c6Pts] 32)) := (Ext.refl _).alloc _
  go_wp2_with fail
  refine (CI.out _ _ _ (ho6Pts.ext (Flat.mono _ _) hb7).sl).mono ?_
  rintro e w8 ⟨rfl, hb8⟩
  have hb9 := (Ext.refl w8).alloc (.cells #[.int .i64 y0.A, .int .i64 y0.B, .int .i64 y0.C] 27)
  (try clear kx_0)
  have kb5_0 := (((hb6.trans hb7).trans hb8).trans hb9).cell (law_box w4 [.int .i64 y0.A, .int .i64 y0.B, .int .i64 y0.C] 27 0 _ rfl)
  have kb5_1 := (((hb6.trans hb7).trans hb8).trans hb9).cell (law_box w4 [.int .i64 y0.A, .int .i64 y0.B, .int .i64 y0.C] 27 1 _ rfl)
  have kb5_2 := (((hb6.trans hb7).trans hb8).trans hb9).cell (law_box w4 [.int .i64 y0.A, .int .i64 y0.B, .int .i64 y0.C] 27 2 _ rfl)
  go_wp2_with fail
  refine (eqUse3_c y0 y0 _).mono ?_
  rintro e w10 ⟨rfl, hb10⟩
  have kp0_0 := ((((((((hb2.trans hb3).trans hb4).trans hb5).trans hb6).trans hb7).trans hb8).trans hb9).trans hb10).cell (law_box_at w (w.heap.size) (by simp) [.slice A0Pts x0.Pts.length c0Pts] 24 0 _ rfl)
  have kx_0 := ((hb8.trans hb9).trans hb10).cell (law_box w6 [.slice A6Pts x0.Pts.length c6Pts] 32 0 _ rfl)
  go_wp2
  have hb11 : Ext w10 w10.drew := (Ext.refl _).drew
  have KD0 := Lib.hid (show w10.drew.cell? ⟨w6.heap.size, 0, none⟩ = some (.slice A6Pts x0.Pts.length c6Pts) from kx_0)
  have KD1 := Lib.hid (show w10.drew.cell? ⟨w.heap.size, 0, none⟩ = some (.slice A0Pts x0.Pts.length c0Pts) from kp0_0)
  go_region_held3 (fun u => u.cell? ⟨w6.heap.size, 0, none⟩ = some (.slice A6Pts x0.Pts.length c6Pts) ∧ u.cell? ⟨w.heap.size, 0, none⟩ = some (.slice A0Pts x0.Pts.length c0Pts)) ((refine ⟨?_, ?_⟩ <;> first | assumption | exact KD0.out | exact KD1.out)) (first | (go_at_call 11; refine (toProf_c x0 _ _ _ (by exact (h0Pts.ext (Flat.mono _ _) ((((((((((hb1.trans hb2).trans hb3).trans hb4).trans hb5).trans hb6).trans hb7).trans hb8).trans hb9).trans hb10).trans hb11))) hle0Pts).mono ?_; rintro e w12 ⟨A12Pts, c12Pts, rfl, hq12Pts, hb12⟩; have ho12Pts := OwnIn.of hq12Pts; have KE0 := hb12.cell KD0.out; have KE1 := hb12.cell KD1.out) | (go_at_call 14; refine (eqProf_t x0 _ _ _ _ _ (by exact ((((((ho6Pts.ext (Flat.mono _ _) hb7).ext (Flat.mono _ _) hb8).ext (Flat.mono _ _) hb9).ext (Flat.mono _ _) hb10).ext (Flat.mono _ _) hb11).ext (Flat.mono _ _) hb12).sl) (by exact ho12Pts.sl) hn0Pts).mono ?_; rintro e w13 ⟨rfl, hb13⟩; have KF0 := hb13.cell KE0; have KF1 := hb13.cell KE1))
  clear KE0 KF0 KD0 kx_0 KE1 KF1 KD1 kp0_0 hq12Pts
  go_wp2
  exact ret_is (by simp [results, Try.results3, go_sem]) rfl ((((((((((((hb1.trans hb2).trans hb3).trans hb4).trans hb5).trans hb6).trans hb7).trans hb8).trans hb9).trans hb10).trans hb11).trans hb12).trans hb13)
end Go.Proofs.Ytgabikiekiliaaa
