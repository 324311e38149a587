/- The law FnExactLoad returns true: the walk. Written by genwload.py. -/
import Derived.Test.YtfcffcgdbmkfgaaGreatMUse
import Derived.Test.YtfcffcgdbmkfgaaGreatMSta
import Derived.Deep.RegionHeld3
namespace Go.Proofs.YtfcffcgdbmkfgaaGreat
open Go.RowKit
set_option linter.unusedVariables false
set_option maxHeartbeats 16000000 in
set_option maxRecDepth 10000 in
theorem FnExactLoad_c (w : World) (cs0 : Array Value) (x : State) (h0 : RStateA w cs0.toList x) (x1 : Int) (hx1 : In64 x1) : Calls Tryz.prog 5 #[.agg cs0, .int .i64 x1] w (Ret w (.bool true)) := by
  obtain ⟨A1, c1, A2, c2, A3, c3, A6, c6, A7, c7, A8, c8, rfl, harg, hmax, hlic, hdep, hnow⟩ := h0.open
  have HSZ := Lib.hid (fun (u : World) (e : Ext w u) => szState_c x A1 c1 A2 c2 A3 c3 A6 c6 A7 c7 A8 c8 u (harg.ext e) hmax)
  have HTO := Lib.hid (fun (u : World) (e : Ext w u) (a : stSmall x) => toState_c x A1 c1 A2 c2 A3 c3 A6 c6 A7 c7 A8 c8 u (harg.ext e) a)
  have HSP := Lib.hid (fun (u : World) (v : Value) (a : StateAt u x v) (b : stateLen x) => sLoad_c x v x1 u a b hx1)
  have HIM := Lib.hid (fun (u : World) (v : Value) (a : StateAt u x v) (b : stateLen x) => Load_c x v x1 u a b hx1)
  have HEQ := Lib.hid (fun (u : World) (v v' : Value) (a : StateAt u x v) (a' : StateAt u x v') (b : stateLen x) => eqState_t x v v' u a a' b)
  have HB := Lib.hid (fun (j : Nat) (u : Value) (q : World) (e : Ext (w.alloc (.cells #[.slice A1 x.Topo.Parents.length c1, .slice A2 x.Topo.Nodes.length c2, .slice A3 x.Up.length c3, .int .i64 x.Lic.A, .int .i64 x.Lic.B, .int .i64 x.Lic.C, .int .i64 x.Depth, .int .i64 x.Now, .slice A6 x.Queue.length c6, .slice A7 x.Runs.length c7, .slice A8 x.Ends.length c8] 33)) q) (hu : [.slice A1 x.Topo.Parents.length c1, .slice A2 x.Topo.Nodes.length c2, .slice A3 x.Up.length c3, .int .i64 x.Lic.A, .int .i64 x.Lic.B, .int .i64 x.Lic.C, .int .i64 x.Depth, .int .i64 x.Now, .slice A6 x.Queue.length c6, .slice A7 x.Runs.length c7, .slice A8 x.Ends.length c8][j]? = some u) => e.cell (law_box w _ 33 j u hu))
  generalize loadI x x1 = R at *
  clear harg hmax hlic hdep hnow h0
  go_enter Tryz.func5, Tryz.ntmps5
  go_wp2_with fail
  refine (HSZ.out _ ((Ext.refl w).alloc _)).mono ?_
  rintro e w1 ⟨z, rfl, hz, hb1⟩
  have HX1 := Lib.hid (show Ext (w.alloc (.cells #[.slice A1 x.Topo.Parents.length c1, .slice A2 x.Topo.Nodes.length c2, .slice A3 x.Up.length c3, .int .i64 x.Lic.A, .int .i64 x.Lic.B, .int .i64 x.Lic.C, .int .i64 x.Depth, .int .i64 x.Now, .slice A6 x.Queue.length c6, .slice A7 x.Runs.length c7, .slice A8 x.Ends.length c8] 33)) w1 from hb1)
  have HW1 := Lib.hid (show Ext w w1 from ((Ext.refl w).alloc _).trans hb1)
  clear hb1
  rcases hz with hz | ⟨hz, hsm⟩
  · go_wp2
    exact ret_bool rfl rfl rfl rfl HW1.out
  have HSM := Lib.hid hsm
  have HSL := Lib.hid (show stateLen x from hsm.1)
  clear hsm
  have a0 := HB.out 0 _ w1 HX1.out rfl
  have a1 := HB.out 1 _ w1 HX1.out rfl
  have a2 := HB.out 2 _ w1 HX1.out rfl
  have a3 := HB.out 3 _ w1 HX1.out rfl
  have a4 := HB.out 4 _ w1 HX1.out rfl
  have a5 := HB.out 5 _ w1 HX1.out rfl
  have a6 := HB.out 6 _ w1 HX1.out rfl
  have a7 := HB.out 7 _ w1 HX1.out rfl
  have a8 := HB.out 8 _ w1 HX1.out rfl
  have a9 := HB.out 9 _ w1 HX1.out rfl
  have a10 := HB.out 10 _ w1 HX1.out rfl
  have al := lt_of_cell a0
  go_wp2_with fail
  refine (HTO.out _ HW1.out HSM.out).mono ?_
  rintro e w2 ⟨B1, d1, B2, d2, B3, d3, B6, d6, B7, d7, B8, d8, rfl, hso2, hb2⟩
  have HX2 := Lib.hid (HX1.out.trans hb2)
  have HW2 := Lib.hid (HW1.out.trans hb2)
  have HS2 := Lib.hid hso2.at_
  clear hso2 hb2 a0 a1 a2 a3 a4 a5 a6 a7 a8 a9 a10 al
  go_wp2_with fail
  refine (HSP.out _ _ HS2.out HSL.out).mono ?_
  rintro e w3 ⟨rfl, hb3⟩
  have HX3 := Lib.hid (HX2.out.trans hb3)
  have HW3 := Lib.hid (HW2.out.trans hb3)
  clear hb3 HS2
  have a0 := HB.out 0 _ w3 HX3.out rfl
  have a1 := HB.out 1 _ w3 HX3.out rfl
  have a2 := HB.out 2 _ w3 HX3.out rfl
  have a3 := HB.out 3 _ w3 HX3.out rfl
  have a4 := HB.out 4 _ w3 HX3.out rfl
  have a5 := HB.out 5 _ w3 HX3.out rfl
  have a6 := HB.out 6 _ w3 HX3.out rfl
  have a7 := HB.out 7 _ w3 HX3.out rfl
  have a8 := HB.out 8 _ w3 HX3.out rfl
  have a9 := HB.out 9 _ w3 HX3.out rfl
  have a10 := HB.out 10 _ w3 HX3.out rfl
  have al := lt_of_cell a0
  go_wp2_with fail
  refine (HTO.out _ HW3.out HSM.out).mono ?_
  rintro e w4 ⟨E1, f1, E2, f2, E3, f3, E6, f6, E7, f7, E8, f8, rfl, hso4, hb4⟩
  have HX4 := Lib.hid (HX3.out.trans hb4)
  have HW4 := Lib.hid (HW3.out.trans hb4)
  have HS4 := Lib.hid (hso4.at_.ext ((Ext.refl w4).alloc (.cells #[.slice E1 x.Topo.Parents.length f1, .slice E2 x.Topo.Nodes.length f2, .slice E3 x.Up.length f3, .int .i64 x.Lic.A, .int .i64 x.Lic.B, .int .i64 x.Lic.C, .int .i64 x.Depth, .int .i64 x.Now, .slice E6 x.Queue.length f6, .slice E7 x.Runs.length f7, .slice E8 x.Ends.length f8] 44)))
  clear hso4 hb4 a0 a1 a2 a3 a4 a5 a6 a7 a8 a9 a10 al
  go_wp2_with fail
  refine (HIM.out _ _ HS4.out HSL.out).mono ?_
  rintro e w5 ⟨rfl, hb5⟩
  have HX5 := Lib.hid (HX4.out.trans (((Ext.refl w4).alloc _).trans hb5))
  have HW5 := Lib.hid (HW4.out.trans (((Ext.refl w4).alloc _).trans hb5))
  have HS5 := Lib.hid (HS4.out.ext hb5)
  have HC := Lib.hid (fun (j : Nat) (u : Value) (q : World) (e : Ext w5 q) (hu : [.slice E1 x.Topo.Parents.length f1, .slice E2 x.Topo.Nodes.length f2, .slice E3 x.Up.length f3, .int .i64 x.Lic.A, .int .i64 x.Lic.B, .int .i64 x.Lic.C, .int .i64 x.Depth, .int .i64 x.Now, .slice E6 x.Queue.length f6, .slice E7 x.Runs.length f7, .slice E8 x.Ends.length f8][j]? = some u) => (hb5.trans e).cell (cell_box_at w4 w4.heap.size rfl [.slice E1 x.Topo.Parents.length f1, .slice E2 x.Topo.Nodes.length f2, .slice E3 x.Up.length f3, .int .i64 x.Lic.A, .int .i64 x.Lic.B, .int .i64 x.Lic.C, .int .i64 x.Depth, .int .i64 x.Now, .slice E6 x.Queue.length f6, .slice E7 x.Runs.length f7, .slice E8 x.Ends.length f8] 44 j u hu))
  clear hb5 HS4
  go_wp2
  have HKS := Lib.hid (fun (u : World) (e : Ext w5 u) => show Ext w5 u ∧ u.cell? ⟨w.heap.size, 0, none⟩ = some (.slice A1 x.Topo.Parents.length c1) ∧ u.cell? ⟨w.heap.size, 1, none⟩ = some (.slice A2 x.Topo.Nodes.length c2) ∧ u.cell? ⟨w.heap.size, 2, none⟩ = some (.slice A3 x.Up.length c3) ∧ u.cell? ⟨w.heap.size, 3, none⟩ = some (.int .i64 x.Lic.A) ∧ u.cell? ⟨w.heap.size, 4, none⟩ = some (.int .i64 x.Lic.B) ∧ u.cell? ⟨w.heap.size, 5, none⟩ = some (.int .i64 x.Lic.C) ∧ u.cell? ⟨w.heap.size, 6, none⟩ = some (.int .i64 x.Depth) ∧ u.cell? ⟨w.heap.size, 7, none⟩ = some (.int .i64 x.Now) ∧ u.cell? ⟨w.heap.size, 8, none⟩ = some (.slice A6 x.Queue.length c6) ∧ u.cell? ⟨w.heap.size, 9, none⟩ = some (.slice A7 x.Runs.length c7) ∧ u.cell? ⟨w.heap.size, 10, none⟩ = some (.slice A8 x.Ends.length c8) ∧ u.cell? ⟨w4.heap.size, 0, none⟩ = some (.slice E1 x.Topo.Parents.length f1) ∧ u.cell? ⟨w4.heap.size, 1, none⟩ = some (.slice E2 x.Topo.Nodes.length f2) ∧ u.cell? ⟨w4.heap.size, 2, none⟩ = some (.slice E3 x.Up.length f3) ∧ u.cell? ⟨w4.heap.size, 3, none⟩ = some (.int .i64 x.Lic.A) ∧ u.cell? ⟨w4.heap.size, 4, none⟩ = some (.int .i64 x.Lic.B) ∧ u.cell? ⟨w4.heap.size, 5, none⟩ = some (.int .i64 x.Lic.C) ∧ u.cell? ⟨w4.heap.size, 6, none⟩ = some (.int .i64 x.Depth) ∧ u.cell? ⟨w4.heap.size, 7, none⟩ = some (.int .i64 x.Now) ∧ u.cell? ⟨w4.heap.size, 8, none⟩ = some (.slice E6 x.Queue.length f6) ∧ u.cell? ⟨w4.heap.size, 9, none⟩ = some (.slice E7 x.Runs.length f7) ∧ u.cell? ⟨w4.heap.size, 10, none⟩ = some (.slice E8 x.Ends.length f8) from ⟨e, HB.out 0 _ u (HX5.out.trans e) rfl, HB.out 1 _ u (HX5.out.trans e) rfl, HB.out 2 _ u (HX5.out.trans e) rfl, HB.out 3 _ u (HX5.out.trans e) rfl, HB.out 4 _ u (HX5.out.trans e) rfl, HB.out 5 _ u (HX5.out.trans e) rfl, HB.out 6 _ u (HX5.out.trans e) rfl, HB.out 7 _ u (HX5.out.trans e) rfl, HB.out 8 _ u (HX5.out.trans e) rfl, HB.out 9 _ u (HX5.out.trans e) rfl, HB.out 10 _ u (HX5.out.trans e) rfl, HC.out 0 _ u e rfl, HC.out 1 _ u e rfl, HC.out 2 _ u e rfl, HC.out 3 _ u e rfl, HC.out 4 _ u e rfl, HC.out 5 _ u e rfl, HC.out 6 _ u e rfl, HC.out 7 _ u e rfl, HC.out 8 _ u e rfl, HC.out 9 _ u e rfl, HC.out 10 _ u e rfl⟩)
  go_region_held3 (fun u => Ext w5 u ∧ u.cell? ⟨w.heap.size, 0, none⟩ = some (.slice A1 x.Topo.Parents.length c1) ∧ u.cell? ⟨w.heap.size, 1, none⟩ = some (.slice A2 x.Topo.Nodes.length c2) ∧ u.cell? ⟨w.heap.size, 2, none⟩ = some (.slice A3 x.Up.length c3) ∧ u.cell? ⟨w.heap.size, 3, none⟩ = some (.int .i64 x.Lic.A) ∧ u.cell? ⟨w.heap.size, 4, none⟩ = some (.int .i64 x.Lic.B) ∧ u.cell? ⟨w.heap.size, 5, none⟩ = some (.int .i64 x.Lic.C) ∧ u.cell? ⟨w.heap.size, 6, none⟩ = some (.int .i64 x.Depth) ∧ u.cell? ⟨w.heap.size, 7, none⟩ = some (.int .i64 x.Now) ∧ u.cell? ⟨w.heap.size, 8, none⟩ = some (.slice A6 x.Queue.length c6) ∧ u.cell? ⟨w.heap.size, 9, none⟩ = some (.slice A7 x.Runs.length c7) ∧ u.cell? ⟨w.heap.size, 10, none⟩ = some (.slice A8 x.Ends.length c8) ∧ u.cell? ⟨w4.heap.size, 0, none⟩ = some (.slice E1 x.Topo.Parents.length f1) ∧ u.cell? ⟨w4.heap.size, 1, none⟩ = some (.slice E2 x.Topo.Nodes.length f2) ∧ u.cell? ⟨w4.heap.size, 2, none⟩ = some (.slice E3 x.Up.length f3) ∧ u.cell? ⟨w4.heap.size, 3, none⟩ = some (.int .i64 x.Lic.A) ∧ u.cell? ⟨w4.heap.size, 4, none⟩ = some (.int .i64 x.Lic.B) ∧ u.cell? ⟨w4.heap.size, 5, none⟩ = some (.int .i64 x.Lic.C) ∧ u.cell? ⟨w4.heap.size, 6, none⟩ = some (.int .i64 x.Depth) ∧ u.cell? ⟨w4.heap.size, 7, none⟩ = some (.int .i64 x.Now) ∧ u.cell? ⟨w4.heap.size, 8, none⟩ = some (.slice E6 x.Queue.length f6) ∧ u.cell? ⟨w4.heap.size, 9, none⟩ = some (.slice E7 x.Runs.length f7) ∧ u.cell? ⟨w4.heap.size, 10, none⟩ = some (.slice E8 x.Ends.length f8)) ((refine HKS.out _ ?_; first | exact (Ext.refl _).drew | assumption | exact HE6.out | exact HE7.out)) (first | (go_at_call 8; (with_reducible refine (HTO.out _ (HW5.out.trans (by repeat (first | exact Ext.refl _ | apply Ext.alloc | apply Ext.drew))) HSM.out).mono ?_); rintro e w6 ⟨F1, k1, F2, k2, F3, k3, F6, k6, F7, k7, F8, k8, rfl, hso6, hb6⟩; have HE6 := Lib.hid (show Ext w5 w6 from Ext.trans (by repeat (first | exact Ext.refl _ | apply Ext.alloc | apply Ext.drew)) hb6); have HS6 := Lib.hid hso6.at_; clear hso6 hb6) | (go_at_call 11; (with_reducible refine (HEQ.out _ _ _ (HS5.out.ext HE6.out) HS6.out HSL.out).mono ?_); rintro e w7 ⟨rfl, hb7⟩; have HE7 := Lib.hid (HE6.out.trans hb7); clear hb7))
  all_goals
    go_wp2
    exact ret_bool rfl rfl rfl rfl (HW5.out.trans HE7.out)
end Go.Proofs.YtfcffcgdbmkfgaaGreat
