/- The law FnExactWaits returns true: the walk. Written by genwwaits.py. -/
import Derived.Test.YtfcffcgdbmkfgaaGreatWaits
import Derived.Test.YtfcffcgdbmkfgaaGreatMSta
import Derived.Test.YtfcffcgdbmkfgaaGreatMMark
import Derived.Deep.RegionHeld3
namespace Go.Proofs.YtfcffcgdbmkfgaaGreat
open Go.RowKit
set_option linter.unusedVariables false
set_option maxHeartbeats 32000000 in
set_option maxRecDepth 10000 in
theorem FnExactWaits_c (w : World) (cs0 : Array Value) (x : State) (h0 : RStateA w cs0.toList x) (T : Option Addr) (tn tc : Nat) (ts : List Int) (ht : SlAt RInt 1 w T tn ts) (htn : tn ≤ maxLen) : Calls Tryz.prog 4 #[.agg cs0, .slice T tn tc] w (Ret w (.bool true)) := by
  obtain rfl := ht.len
  obtain ⟨A1, c1, A2, c2, A3, c3, A6, c6, A7, c7, A8, c8, rfl, harg, hmax, hlic, hdep, hnow⟩ := h0.open
  unfold maxLen at htn
  by_cases hbig : 1048576 < ts.length
  · go_enter Tryz.func4, Tryz.ntmps4
    go_wp2
    exact ret_bool rfl rfl rfl rfl ((Ext.refl w).alloc _)
  have htl : ts.length ≤ 1048576 := by omega
  have htm : ts.length ≤ maxLen := by unfold maxLen; omega
  have HSZ := Lib.hid (fun (u : World) (e : Ext w u) => szState_c x A1 c1 A2 c2 A3 c3 A6 c6 A7 c7 A8 c8 u (harg.ext e) hmax)
  have HTO := Lib.hid (fun (u : World) (e : Ext w u) (a : stSmall x) => toState_c x A1 c1 A2 c2 A3 c3 A6 c6 A7 c7 A8 c8 u (harg.ext e) a)
  have HTI := Lib.hid (fun (u : World) (e : Ext w u) => toIntS_c ts T ts.length tc u (ht.ext (Flat.mono _ _) e) htl)
  have HSP := Lib.hid (fun (u : World) (v : Value) (Q : Option Addr) (qc : Nat) (a : StateAt u x v) (b : stateLen x) (h : SlAt RInt 1 u Q ts.length ts) => sWaits_c x ts v Q ts.length qc u a b h htl)
  have HIM := Lib.hid (fun (u : World) (v : Value) (Q : Option Addr) (qc : Nat) (a : StateAt u x v) (b : stateLen x) (h : SlAt RInt 1 u Q ts.length ts) => Waits_c x ts v Q ts.length qc u a b h htl)
  have HEQ := Lib.hid (fun (u : World) (v v' : Value) (a : StateAt u x v) (a' : StateAt u x v') (b : stateLen x) => eqState_t x v v' u a a' b)
  have HB := Lib.hid (fun (j : Nat) (u : Value) (q : World) (e : Ext (w.alloc (.cells #[.slice A1 x.Topo.Parents.length c1, .slice A2 x.Topo.Nodes.length c2, .slice A3 x.Up.length c3, .int .i64 x.Lic.A, .int .i64 x.Lic.B, .int .i64 x.Lic.C, .int .i64 x.Depth, .int .i64 x.Now, .slice A6 x.Queue.length c6, .slice A7 x.Runs.length c7, .slice A8 x.Ends.length c8] 33)) q) (hu : [.slice A1 x.Topo.Parents.length c1, .slice A2 x.Topo.Nodes.length c2, .slice A3 x.Up.length c3, .int .i64 x.Lic.A, .int .i64 x.Lic.B, .int .i64 x.Lic.C, .int .i64 x.Depth, .int .i64 x.Now, .slice A6 x.Queue.length c6, .slice A7 x.Runs.length c7, .slice A8 x.Ends.length c8][j]? = some u) => e.cell (law_box w _ 33 j u hu))
  have HYL := Lib.hid (fun (b : stateLen x) => show (waitsL x ts).length ≤ 1048576 from Nat.le_trans (waitsL_len x ts) b.2.2.2.2.1)
  generalize waitsL x ts = y at *
  clear harg hmax hlic hdep hnow h0 ht
  go_enter Tryz.func4, Tryz.ntmps4
  go_wp2_with fail
  refine (HSZ.out _ ((Ext.refl w).alloc _)).mono ?_
  rintro e w1 ⟨z, rfl, hz, hb1⟩
  have HX1 := Lib.hid (show Ext (w.alloc (.cells #[.slice A1 x.Topo.Parents.length c1, .slice A2 x.Topo.Nodes.length c2, .slice A3 x.Up.length c3, .int .i64 x.Lic.A, .int .i64 x.Lic.B, .int .i64 x.Lic.C, .int .i64 x.Depth, .int .i64 x.Now, .slice A6 x.Queue.length c6, .slice A7 x.Runs.length c7, .slice A8 x.Ends.length c8] 33)) w1 from hb1)
  have HW1 := Lib.hid (show Ext w w1 from ((Ext.refl w).alloc _).trans hb1)
  clear hb1
  rcases hz with hz | ⟨hz, hsm⟩
  · go_wp2
    exact ret_bool rfl rfl rfl rfl HW1.out
  have HSM := Lib.hid hsm
  have HSL := Lib.hid (show stateLen x from hsm.1)
  have hyl := HYL.out hsm.1
  have hyn : y.length ≤ maxLen := by unfold maxLen; omega
  clear hsm
  have a0 := HB.out 0 _ w1 HX1.out rfl
  have a1 := HB.out 1 _ w1 HX1.out rfl
  have a2 := HB.out 2 _ w1 HX1.out rfl
  have a3 := HB.out 3 _ w1 HX1.out rfl
  have a4 := HB.out 4 _ w1 HX1.out rfl
  have a5 := HB.out 5 _ w1 HX1.out rfl
  have a6 := HB.out 6 _ w1 HX1.out rfl
  have a7 := HB.out 7 _ w1 HX1.out rfl
  have a8 := HB.out 8 _ w1 HX1.out rfl
  have a9 := HB.out 9 _ w1 HX1.out rfl
  have a10 := HB.out 10 _ w1 HX1.out rfl
  have al := lt_of_cell a0
  go_wp2_with fail
  refine (HTO.out _ HW1.out HSM.out).mono ?_
  rintro e w2 ⟨B1, d1, B2, d2, B3, d3, B6, d6, B7, d7, B8, d8, rfl, hso2, hb2⟩
  have HX2 := Lib.hid (HX1.out.trans hb2)
  have HW2 := Lib.hid (HW1.out.trans hb2)
  have HS2 := Lib.hid hso2.at_
  clear hso2 hb2 a0 a1 a2 a3 a4 a5 a6 a7 a8 a9 a10 al
  go_wp2_with fail
  refine (HTI.out _ HW2.out).mono ?_
  rintro e v2 ⟨T2, t2, rfl, hq2, hc2⟩
  have HT2 := Lib.hid (OwnIn.of hq2).sl
  have HS2b := Lib.hid (HS2.out.ext hc2)
  have HX2b := Lib.hid (HX2.out.trans hc2)
  have HW2b := Lib.hid (HW2.out.trans hc2)
  clear hq2 hc2 HS2
  go_wp2_with fail
  refine (HSP.out _ _ _ _ HS2b.out HSL.out HT2.out).mono ?_
  rintro e w3 ⟨G3, k3, rfl, hq3, hb3⟩
  have HO3 := Lib.hid (OwnIn.of hq3)
  have HX3 := Lib.hid (HX2b.out.trans hb3)
  have HW3 := Lib.hid (HW2b.out.trans hb3)
  clear hb3 hq3 HS2b HT2
  have a0 := HB.out 0 _ w3 HX3.out rfl
  have a1 := HB.out 1 _ w3 HX3.out rfl
  have a2 := HB.out 2 _ w3 HX3.out rfl
  have a3 := HB.out 3 _ w3 HX3.out rfl
  have a4 := HB.out 4 _ w3 HX3.out rfl
  have a5 := HB.out 5 _ w3 HX3.out rfl
  have a6 := HB.out 6 _ w3 HX3.out rfl
  have a7 := HB.out 7 _ w3 HX3.out rfl
  have a8 := HB.out 8 _ w3 HX3.out rfl
  have a9 := HB.out 9 _ w3 HX3.out rfl
  have a10 := HB.out 10 _ w3 HX3.out rfl
  have al := lt_of_cell a0
  go_wp2_with fail
  refine (HTO.out _ HW3.out HSM.out).mono ?_
  rintro e w4 ⟨E1, f1, E2, f2, E3, f3, E6, f6, E7, f7, E8, f8, rfl, hso4, hb4⟩
  have HX4 := Lib.hid (HX3.out.trans hb4)
  have HW4 := Lib.hid (HW3.out.trans hb4)
  have H34 := Lib.hid hb4
  have HSO := Lib.hid hso4
  have HS4 := Lib.hid (hso4.at_.ext ((Ext.refl w4).alloc (.cells #[.slice E1 x.Topo.Parents.length f1, .slice E2 x.Topo.Nodes.length f2, .slice E3 x.Up.length f3, .int .i64 x.Lic.A, .int .i64 x.Lic.B, .int .i64 x.Lic.C, .int .i64 x.Depth, .int .i64 x.Now, .slice E6 x.Queue.length f6, .slice E7 x.Runs.length f7, .slice E8 x.Ends.length f8] 44)))
  clear hso4 hb4 a0 a1 a2 a3 a4 a5 a6 a7 a8 a9 a10 al
  go_wp2_with fail
  refine (HTI.out _ (HW4.out.trans ((Ext.refl w4).alloc _))).mono ?_
  rintro e v4 ⟨T4, t4, rfl, hq4, hc4⟩
  have HT4 := Lib.hid (OwnIn.of hq4)
  have HS4b := Lib.hid (HS4.out.ext hc4)
  have H4v := Lib.hid (show Ext (w4.alloc (.cells #[.slice E1 x.Topo.Parents.length f1, .slice E2 x.Topo.Nodes.length f2, .slice E3 x.Up.length f3, .int .i64 x.Lic.A, .int .i64 x.Lic.B, .int .i64 x.Lic.C, .int .i64 x.Depth, .int .i64 x.Now, .slice E6 x.Queue.length f6, .slice E7 x.Runs.length f7, .slice E8 x.Ends.length f8] 44)) v4 from hc4)
  have m0 := hc4.cell (cell_box_at w4 w4.heap.size rfl [.slice E1 x.Topo.Parents.length f1, .slice E2 x.Topo.Nodes.length f2, .slice E3 x.Up.length f3, .int .i64 x.Lic.A, .int .i64 x.Lic.B, .int .i64 x.Lic.C, .int .i64 x.Depth, .int .i64 x.Now, .slice E6 x.Queue.length f6, .slice E7 x.Runs.length f7, .slice E8 x.Ends.length f8] 44 0 _ rfl)
  have m1 := hc4.cell (cell_box_at w4 w4.heap.size rfl [.slice E1 x.Topo.Parents.length f1, .slice E2 x.Topo.Nodes.length f2, .slice E3 x.Up.length f3, .int .i64 x.Lic.A, .int .i64 x.Lic.B, .int .i64 x.Lic.C, .int .i64 x.Depth, .int .i64 x.Now, .slice E6 x.Queue.length f6, .slice E7 x.Runs.length f7, .slice E8 x.Ends.length f8] 44 1 _ rfl)
  have m2 := hc4.cell (cell_box_at w4 w4.heap.size rfl [.slice E1 x.Topo.Parents.length f1, .slice E2 x.Topo.Nodes.length f2, .slice E3 x.Up.length f3, .int .i64 x.Lic.A, .int .i64 x.Lic.B, .int .i64 x.Lic.C, .int .i64 x.Depth, .int .i64 x.Now, .slice E6 x.Queue.length f6, .slice E7 x.Runs.length f7, .slice E8 x.Ends.length f8] 44 2 _ rfl)
  have m3 := hc4.cell (cell_box_at w4 w4.heap.size rfl [.slice E1 x.Topo.Parents.length f1, .slice E2 x.Topo.Nodes.length f2, .slice E3 x.Up.length f3, .int .i64 x.Lic.A, .int .i64 x.Lic.B, .int .i64 x.Lic.C, .int .i64 x.Depth, .int .i64 x.Now, .slice E6 x.Queue.length f6, .slice E7 x.Runs.length f7, .slice E8 x.Ends.length f8] 44 3 _ rfl)
  have m4 := hc4.cell (cell_box_at w4 w4.heap.size rfl [.slice E1 x.Topo.Parents.length f1, .slice E2 x.Topo.Nodes.length f2, .slice E3 x.Up.length f3, .int .i64 x.Lic.A, .int .i64 x.Lic.B, .int .i64 x.Lic.C, .int .i64 x.Depth, .int .i64 x.Now, .slice E6 x.Queue.length f6, .slice E7 x.Runs.length f7, .slice E8 x.Ends.length f8] 44 4 _ rfl)
  have m5 := hc4.cell (cell_box_at w4 w4.heap.size rfl [.slice E1 x.Topo.Parents.length f1, .slice E2 x.Topo.Nodes.length f2, .slice E3 x.Up.length f3, .int .i64 x.Lic.A, .int .i64 x.Lic.B, .int .i64 x.Lic.C, .int .i64 x.Depth, .int .i64 x.Now, .slice E6 x.Queue.length f6, .slice E7 x.Runs.length f7, .slice E8 x.Ends.length f8] 44 5 _ rfl)
  have m6 := hc4.cell (cell_box_at w4 w4.heap.size rfl [.slice E1 x.Topo.Parents.length f1, .slice E2 x.Topo.Nodes.length f2, .slice E3 x.Up.length f3, .int .i64 x.Lic.A, .int .i64 x.Lic.B, .int .i64 x.Lic.C, .int .i64 x.Depth, .int .i64 x.Now, .slice E6 x.Queue.length f6, .slice E7 x.Runs.length f7, .slice E8 x.Ends.length f8] 44 6 _ rfl)
  have m7 := hc4.cell (cell_box_at w4 w4.heap.size rfl [.slice E1 x.Topo.Parents.length f1, .slice E2 x.Topo.Nodes.length f2, .slice E3 x.Up.length f3, .int .i64 x.Lic.A, .int .i64 x.Lic.B, .int .i64 x.Lic.C, .int .i64 x.Depth, .int .i64 x.Now, .slice E6 x.Queue.length f6, .slice E7 x.Runs.length f7, .slice E8 x.Ends.length f8] 44 7 _ rfl)
  have m8 := hc4.cell (cell_box_at w4 w4.heap.size rfl [.slice E1 x.Topo.Parents.length f1, .slice E2 x.Topo.Nodes.length f2, .slice E3 x.Up.length f3, .int .i64 x.Lic.A, .int .i64 x.Lic.B, .int .i64 x.Lic.C, .int .i64 x.Depth, .int .i64 x.Now, .slice E6 x.Queue.length f6, .slice E7 x.Runs.length f7, .slice E8 x.Ends.length f8] 44 8 _ rfl)
  have m9 := hc4.cell (cell_box_at w4 w4.heap.size rfl [.slice E1 x.Topo.Parents.length f1, .slice E2 x.Topo.Nodes.length f2, .slice E3 x.Up.length f3, .int .i64 x.Lic.A, .int .i64 x.Lic.B, .int .i64 x.Lic.C, .int .i64 x.Depth, .int .i64 x.Now, .slice E6 x.Queue.length f6, .slice E7 x.Runs.length f7, .slice E8 x.Ends.length f8] 44 9 _ rfl)
  have m10 := hc4.cell (cell_box_at w4 w4.heap.size rfl [.slice E1 x.Topo.Parents.length f1, .slice E2 x.Topo.Nodes.length f2, .slice E3 x.Up.length f3, .int .i64 x.Lic.A, .int .i64 x.Lic.B, .int .i64 x.Lic.C, .int .i64 x.Depth, .int .i64 x.Now, .slice E6 x.Queue.length f6, .slice E7 x.Runs.length f7, .slice E8 x.Ends.length f8] 44 10 _ rfl)
  have ml := lt_of_cell m0
  clear hq4 hc4 HS4
  go_wp2_with fail
  refine (HIM.out _ _ _ _ HS4b.out HSL.out HT4.out.sl).mono ?_
  rintro e w5 ⟨G5, k5, rfl, hq5, hb5⟩
  have HO5 := Lib.hid (OwnIn.of hq5)
  have H45 := Lib.hid (show Ext (w4.alloc (.cells #[.slice E1 x.Topo.Parents.length f1, .slice E2 x.Topo.Nodes.length f2, .slice E3 x.Up.length f3, .int .i64 x.Lic.A, .int .i64 x.Lic.B, .int .i64 x.Lic.C, .int .i64 x.Depth, .int .i64 x.Now, .slice E6 x.Queue.length f6, .slice E7 x.Runs.length f7, .slice E8 x.Ends.length f8] 44)) w5 from H4v.out.trans hb5)
  have Hv5 := Lib.hid hb5
  have HX5 := Lib.hid (HX4.out.trans (((Ext.refl w4).alloc _).trans H45.out))
  have HW5 := Lib.hid (HW4.out.trans (((Ext.refl w4).alloc _).trans H45.out))
  have HS5 := Lib.hid (HS4b.out.ext hb5)
  have HT5 := Lib.hid (HT4.out.ext (Flat.mono _ _) hb5)
  have HO3b := Lib.hid (HO3.out.ext (Flat.mono _ _) (H34.out.trans (((Ext.refl w4).alloc _).trans H45.out)))
  have HC := Lib.hid (fun (j : Nat) (u : Value) (q : World) (e : Ext w5 q) (hu : [.slice E1 x.Topo.Parents.length f1, .slice E2 x.Topo.Nodes.length f2, .slice E3 x.Up.length f3, .int .i64 x.Lic.A, .int .i64 x.Lic.B, .int .i64 x.Lic.C, .int .i64 x.Depth, .int .i64 x.Now, .slice E6 x.Queue.length f6, .slice E7 x.Runs.length f7, .slice E8 x.Ends.length f8][j]? = some u) => (H45.out.trans e).cell (cell_box_at w4 w4.heap.size rfl [.slice E1 x.Topo.Parents.length f1, .slice E2 x.Topo.Nodes.length f2, .slice E3 x.Up.length f3, .int .i64 x.Lic.A, .int .i64 x.Lic.B, .int .i64 x.Lic.C, .int .i64 x.Depth, .int .i64 x.Now, .slice E6 x.Queue.length f6, .slice E7 x.Runs.length f7, .slice E8 x.Ends.length f8] 44 j u hu))
  clear hb5 hq5 HS4b HT4 m0 m1 m2 m3 m4 m5 m6 m7 m8 m9 m10 ml
  go_wp2_with fail
  refine (eqIntS_c y y _ _ _ _ _ _ _ HO5.out.sl HO3b.out.sl hyn).mono ?_
  rintro e w6 ⟨rfl, hb6⟩
  have H56 := Lib.hid hb6
  clear hb6
  go_wp2
  have HKS := Lib.hid (fun (u : World) (e : Ext w6 u) => show Ext w6 u ∧ u.cell? ⟨w.heap.size, 0, none⟩ = some (.slice A1 x.Topo.Parents.length c1) ∧ u.cell? ⟨w.heap.size, 1, none⟩ = some (.slice A2 x.Topo.Nodes.length c2) ∧ u.cell? ⟨w.heap.size, 2, none⟩ = some (.slice A3 x.Up.length c3) ∧ u.cell? ⟨w.heap.size, 3, none⟩ = some (.int .i64 x.Lic.A) ∧ u.cell? ⟨w.heap.size, 4, none⟩ = some (.int .i64 x.Lic.B) ∧ u.cell? ⟨w.heap.size, 5, none⟩ = some (.int .i64 x.Lic.C) ∧ u.cell? ⟨w.heap.size, 6, none⟩ = some (.int .i64 x.Depth) ∧ u.cell? ⟨w.heap.size, 7, none⟩ = some (.int .i64 x.Now) ∧ u.cell? ⟨w.heap.size, 8, none⟩ = some (.slice A6 x.Queue.length c6) ∧ u.cell? ⟨w.heap.size, 9, none⟩ = some (.slice A7 x.Runs.length c7) ∧ u.cell? ⟨w.heap.size, 10, none⟩ = some (.slice A8 x.Ends.length c8) ∧ u.cell? ⟨w4.heap.size, 0, none⟩ = some (.slice E1 x.Topo.Parents.length f1) ∧ u.cell? ⟨w4.heap.size, 1, none⟩ = some (.slice E2 x.Topo.Nodes.length f2) ∧ u.cell? ⟨w4.heap.size, 2, none⟩ = some (.slice E3 x.Up.length f3) ∧ u.cell? ⟨w4.heap.size, 3, none⟩ = some (.int .i64 x.Lic.A) ∧ u.cell? ⟨w4.heap.size, 4, none⟩ = some (.int .i64 x.Lic.B) ∧ u.cell? ⟨w4.heap.size, 5, none⟩ = some (.int .i64 x.Lic.C) ∧ u.cell? ⟨w4.heap.size, 6, none⟩ = some (.int .i64 x.Depth) ∧ u.cell? ⟨w4.heap.size, 7, none⟩ = some (.int .i64 x.Now) ∧ u.cell? ⟨w4.heap.size, 8, none⟩ = some (.slice E6 x.Queue.length f6) ∧ u.cell? ⟨w4.heap.size, 9, none⟩ = some (.slice E7 x.Runs.length f7) ∧ u.cell? ⟨w4.heap.size, 10, none⟩ = some (.slice E8 x.Ends.length f8) from ⟨e, HB.out 0 _ u (HX5.out.trans (H56.out.trans e)) rfl, HB.out 1 _ u (HX5.out.trans (H56.out.trans e)) rfl, HB.out 2 _ u (HX5.out.trans (H56.out.trans e)) rfl, HB.out 3 _ u (HX5.out.trans (H56.out.trans e)) rfl, HB.out 4 _ u (HX5.out.trans (H56.out.trans e)) rfl, HB.out 5 _ u (HX5.out.trans (H56.out.trans e)) rfl, HB.out 6 _ u (HX5.out.trans (H56.out.trans e)) rfl, HB.out 7 _ u (HX5.out.trans (H56.out.trans e)) rfl, HB.out 8 _ u (HX5.out.trans (H56.out.trans e)) rfl, HB.out 9 _ u (HX5.out.trans (H56.out.trans e)) rfl, HB.out 10 _ u (HX5.out.trans (H56.out.trans e)) rfl, HC.out 0 _ u (H56.out.trans e) rfl, HC.out 1 _ u (H56.out.trans e) rfl, HC.out 2 _ u (H56.out.trans e) rfl, HC.out 3 _ u (H56.out.trans e) rfl, HC.out 4 _ u (H56.out.trans e) rfl, HC.out 5 _ u (H56.out.trans e) rfl, HC.out 6 _ u (H56.out.trans e) rfl, HC.out 7 _ u (H56.out.trans e) rfl, HC.out 8 _ u (H56.out.trans e) rfl, HC.out 9 _ u (H56.out.trans e) rfl, HC.out 10 _ u (H56.out.trans e) rfl⟩)
  go_region_held3 (fun u => Ext w6 u ∧ u.cell? ⟨w.heap.size, 0, none⟩ = some (.slice A1 x.Topo.Parents.length c1) ∧ u.cell? ⟨w.heap.size, 1, none⟩ = some (.slice A2 x.Topo.Nodes.length c2) ∧ u.cell? ⟨w.heap.size, 2, none⟩ = some (.slice A3 x.Up.length c3) ∧ u.cell? ⟨w.heap.size, 3, none⟩ = some (.int .i64 x.Lic.A) ∧ u.cell? ⟨w.heap.size, 4, none⟩ = some (.int .i64 x.Lic.B) ∧ u.cell? ⟨w.heap.size, 5, none⟩ = some (.int .i64 x.Lic.C) ∧ u.cell? ⟨w.heap.size, 6, none⟩ = some (.int .i64 x.Depth) ∧ u.cell? ⟨w.heap.size, 7, none⟩ = some (.int .i64 x.Now) ∧ u.cell? ⟨w.heap.size, 8, none⟩ = some (.slice A6 x.Queue.length c6) ∧ u.cell? ⟨w.heap.size, 9, none⟩ = some (.slice A7 x.Runs.length c7) ∧ u.cell? ⟨w.heap.size, 10, none⟩ = some (.slice A8 x.Ends.length c8) ∧ u.cell? ⟨w4.heap.size, 0, none⟩ = some (.slice E1 x.Topo.Parents.length f1) ∧ u.cell? ⟨w4.heap.size, 1, none⟩ = some (.slice E2 x.Topo.Nodes.length f2) ∧ u.cell? ⟨w4.heap.size, 2, none⟩ = some (.slice E3 x.Up.length f3) ∧ u.cell? ⟨w4.heap.size, 3, none⟩ = some (.int .i64 x.Lic.A) ∧ u.cell? ⟨w4.heap.size, 4, none⟩ = some (.int .i64 x.Lic.B) ∧ u.cell? ⟨w4.heap.size, 5, none⟩ = some (.int .i64 x.Lic.C) ∧ u.cell? ⟨w4.heap.size, 6, none⟩ = some (.int .i64 x.Depth) ∧ u.cell? ⟨w4.heap.size, 7, none⟩ = some (.int .i64 x.Now) ∧ u.cell? ⟨w4.heap.size, 8, none⟩ = some (.slice E6 x.Queue.length f6) ∧ u.cell? ⟨w4.heap.size, 9, none⟩ = some (.slice E7 x.Runs.length f7) ∧ u.cell? ⟨w4.heap.size, 10, none⟩ = some (.slice E8 x.Ends.length f8)) ((refine HKS.out _ ?_; first | exact (Ext.refl _).drew | assumption | exact HE6.out | exact HE7.out)) (first | (go_at_call 8; (with_reducible refine (HTO.out _ (HW5.out.trans (H56.out.trans (by repeat (first | exact Ext.refl _ | apply Ext.alloc | apply Ext.drew)))) HSM.out).mono ?_); rintro e wa ⟨F1, k1, F2, k2, F3, k3, F6, k6, F7, k7, F8, k8, rfl, hso6, hb6⟩; have HE6 := Lib.hid (show Ext w6 wa from Ext.trans (by repeat (first | exact Ext.refl _ | apply Ext.alloc | apply Ext.drew)) hb6); have HS6 := Lib.hid hso6.at_; clear hso6 hb6) | (go_at_call 11; (with_reducible refine (HEQ.out _ _ _ (HS5.out.ext (H56.out.trans HE6.out)) HS6.out HSL.out).mono ?_); rintro e w7 ⟨rfl, hb7⟩; have HE7 := Lib.hid (HE6.out.trans hb7); clear hb7))
  all_goals
    have H57 := Lib.hid (H56.out.trans HE7.out)
    clear HKS HE6 HE7 HS6 HS5 H56
    go_wp2_with fail
    refine (HTI.out _ (HW5.out.trans H57.out)).mono ?_
    rintro e v7 ⟨T7, t7, rfl, hq7, hc7⟩
    have HT7 := Lib.hid (OwnIn.of hq7).sl
    have H5v := Lib.hid (H57.out.trans hc7)
    clear hq7 hc7
    go_wp2_with fail
    refine (eqIntS_c ts ts _ _ _ _ _ _ _ (HT5.out.ext (Flat.mono _ _) H5v.out).sl HT7.out htm).mono ?_
    rintro e u7 ⟨rfl, hd7⟩
    have H5u := Lib.hid (H5v.out.trans hd7)
    clear hd7 HT7 H57 H5v
    have HO3c := Lib.hid (HO3b.out.ext (Flat.mono _ _) H5u.out)
    have HO5c := Lib.hid (HO5.out.ext (Flat.mono _ _) H5u.out)
    have HT5c := Lib.hid (HT5.out.ext (Flat.mono _ _) H5u.out)
    have HX7 := Lib.hid (HX5.out.trans H5u.out)
    have HW7 := Lib.hid (HW5.out.trans H5u.out)
    have b0 := HC.out 0 _ u7 H5u.out rfl
    have b1 := HC.out 1 _ u7 H5u.out rfl
    have b2 := HC.out 2 _ u7 H5u.out rfl
    have b3 := HC.out 3 _ u7 H5u.out rfl
    have b4 := HC.out 4 _ u7 H5u.out rfl
    have b5 := HC.out 5 _ u7 H5u.out rfl
    have b6 := HC.out 6 _ u7 H5u.out rfl
    have b7 := HC.out 7 _ u7 H5u.out rfl
    have b8 := HC.out 8 _ u7 H5u.out rfl
    have b9 := HC.out 9 _ u7 H5u.out rfl
    have b10 := HC.out 10 _ u7 H5u.out rfl
    have bl := lt_of_cell b0
    go_wp2_with fail
    refine (markState_e x E1 f1 E2 f2 E3 f3 E6 f6 E7 f7 E8 f8 w4 u7 _ HSO.out (((Ext.refl w4).alloc _).trans (H45.out.trans H5u.out)) HSM.out).mono ?_
    rintro e w8 ⟨z8, rfl, hz8, hz8u, ht8⟩
    have HO3d := Lib.hid (HO3c.out.keep ht8 (.inl (Nat.le_refl _)))
    have HO5d := Lib.hid (HO5c.out.keep ht8 (.inr (Nat.le_trans (by simp) H4v.out.le)))
    have HT5d := Lib.hid (HT5c.out.keep ht8 (.inr (by simp)))
    have HX8 := Lib.hid (ext_turned HX7.out ht8 HX3.out.le)
    have HW8 := Lib.hid (ext_turned HW7.out ht8 HW3.out.le)
    clear ht8 b0 b1 b2 b3 b4 b5 b6 b7 b8 b9 b10 bl HX7 HW7 HO3c HO5c HT5c
    obtain ⟨LT, hLT⟩ := HT5d.out.owns
    go_wp2_with fail
    refine (markIntS_c T4 _ t4 _ LT z8 _ hLT htl hz8 (by omega)).mono ?_
    rintro e v8 ⟨rfl, hmv8, hgv8⟩
    have htv8 := turned_of HT5d.out hgv8
    have HO3e := Lib.hid (HO3d.out.keep htv8 (.inl (Nat.le_trans H34.out.le (by simp))))
    have HO5e := Lib.hid (HO5d.out.keep htv8 (.inr (Nat.le_refl _)))
    have HXv := Lib.hid (ext_turned HX8.out htv8 (Nat.le_trans HX4.out.le (by simp)))
    have HWv := Lib.hid (ext_turned HW8.out htv8 (Nat.le_trans HW4.out.le (by simp)))
    clear htv8 hgv8 hmv8 hLT HT5d HO3d HO5d HX8 HW8
    have hz8b : ¬ z8 + 1 * (ts.length : Int) < 0 := by omega
    have hz8c : ¬ z8 + (ts.length : Int) < 0 := by omega
    go_wp2_with fail
    refine (eqIntS_c y y _ _ _ _ _ _ _ HO5e.out.sl HO3e.out.sl hyn).mono ?_
    rintro e w9 ⟨rfl, hb9⟩
    have HO5f := Lib.hid (HO5e.out.ext (Flat.mono _ _) hb9)
    have HO3f := Lib.hid (HO3e.out.ext (Flat.mono _ _) hb9)
    have HX9 := Lib.hid (HXv.out.trans hb9)
    have HW9 := Lib.hid (HWv.out.trans hb9)
    clear hb9 HO5e HO3e
    obtain ⟨L10, hL10⟩ := HO5f.out.owns
    go_wp2_with fail
    refine (markIntS_c G5 _ k5 _ L10 1 _ hL10 hyl (by omega) (by omega)).mono ?_
    rintro e w10 ⟨rfl, hm10, hg10⟩
    have ht10 := turned_of HO5f.out hg10
    have HM10 := Lib.hid hm10
    have HO3g := Lib.hid (HO3f.out.keep ht10 (.inl (Nat.le_trans H34.out.le (Nat.le_trans (by simp) H4v.out.le))))
    have HX10 := Lib.hid (ext_turned HX9.out ht10 (Nat.le_trans HX4.out.le (Nat.le_trans (by simp) H4v.out.le)))
    have HW10 := Lib.hid (ext_turned HW9.out ht10 (Nat.le_trans HW4.out.le (Nat.le_trans (by simp) H4v.out.le)))
    clear hm10 hg10 hL10 ht10 HO3f HO5f
    go_wp2_with fail
    refine (heldIntS_c G5 _ k5 _ 1 _ HM10.out hyl (by omega) (by omega)).mono ?_
    rintro e w11 ⟨rfl, hb11⟩
    have HX11 := Lib.hid (HX10.out.trans hb11)
    have HW11 := Lib.hid (HW10.out.trans hb11)
    have HM11 := Lib.hid (owns_ext HM10.out hb11)
    have HO3h := Lib.hid (HO3g.out.ext (Flat.mono _ _) hb11)
    clear hb11 HM10 HO3g
    have a0 := HB.out 0 _ w11 HX11.out rfl
    have a1 := HB.out 1 _ w11 HX11.out rfl
    have a2 := HB.out 2 _ w11 HX11.out rfl
    have a3 := HB.out 3 _ w11 HX11.out rfl
    have a4 := HB.out 4 _ w11 HX11.out rfl
    have a5 := HB.out 5 _ w11 HX11.out rfl
    have a6 := HB.out 6 _ w11 HX11.out rfl
    have a7 := HB.out 7 _ w11 HX11.out rfl
    have a8 := HB.out 8 _ w11 HX11.out rfl
    have a9 := HB.out 9 _ w11 HX11.out rfl
    have a10 := HB.out 10 _ w11 HX11.out rfl
    have al := lt_of_cell a0
    go_wp2_with fail
    refine (HTO.out _ HW11.out HSM.out).mono ?_
    rintro e w12 ⟨Q1, p1, Q2, p2, Q3, p3, Q6, p6, Q7, p7, Q8, p8, rfl, hso12, hb12⟩
    have HS12 := Lib.hid hso12.at_
    have H12 := Lib.hid hb12
    clear hso12 hb12 a0 a1 a2 a3 a4 a5 a6 a7 a8 a9 a10 al
    go_wp2_with fail
    refine (HTI.out _ (HW11.out.trans H12.out)).mono ?_
    rintro e v12 ⟨T12, t12, rfl, hq12, hc12⟩
    have HT12 := Lib.hid (OwnIn.of hq12).sl
    have HS12b := Lib.hid (HS12.out.ext hc12)
    have H12v := Lib.hid (H12.out.trans hc12)
    clear hq12 hc12 HS12
    go_wp2_with fail
    refine (HIM.out _ _ _ _ HS12b.out HSL.out HT12.out).mono ?_
    rintro e w13 ⟨G13, k13, rfl, hq13, hb13⟩
    have HO13 := Lib.hid (OwnIn.of hq13)
    have H13 := Lib.hid (H12v.out.trans hb13)
    clear hq13 hb13 HS12b HT12
    go_wp2_with fail
    refine (eqIntS_c y y _ _ _ _ _ _ _ HO13.out.sl (HO3h.out.ext (Flat.mono _ _) H13.out).sl hyn).mono ?_
    rintro e w14 ⟨rfl, hb14⟩
    have H14 := Lib.hid (H13.out.trans hb14)
    clear hb14
    go_wp2_with fail
    refine (heldIntS_c G5 _ k5 _ 1 _ (owns_ext HM11.out H14.out) hyl (by omega) (by omega)).mono ?_
    rintro e w15 ⟨rfl, hb15⟩
    go_wp2
    exact ret_is (by simp [results, Tryz.results4, go_sem]) rfl (HW11.out.trans (H14.out.trans hb15))
end Go.Proofs.YtfcffcgdbmkfgaaGreat
