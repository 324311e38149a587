/- The law FnExactNextQuiet returns true: the walk. Written by genwin.py. -/
import Derived.Test.YtafccgnaifhnkaaNextQuiet2
import Derived.Test.YtafccgnaifhnkaaTopoL
import Derived.Deep.RegionHeld3
namespace Go.Proofs.Ytafccgnaifhnkaa
open Go.RowKit
set_option linter.unusedVariables false
set_option maxHeartbeats 4000000 in
set_option maxRecDepth 10000 in
theorem FnExactNextQuiet_c (w : World) (cs0 : Array Value) (x0 : Topo) (h0 : RTopo w cs0.toList x0) (A1 : Option Addr) (n1 c1 : Nat) (x1 : List Window) (h1 : SlAt RWindow 3 w A1 n1 x1) (hn1 : n1 ≤ maxLen) (A2 : Option Addr) (n2 c2 : Nat) (x2 : List Int) (h2 : SlAt RInt 1 w A2 n2 x2) (hn2 : n2 ≤ maxLen) (x3 : Int) (hi3 : In64 x3) (x4 : Int) (hi4 : In64 x4) : Calls Try.prog 5 #[.agg cs0, .slice A1 n1 c1, .slice A2 n2 c2, .int .i64 x3, .int .i64 x4] w (Ret w (.bool true)) := by
  obtain rfl := h1.len
  obtain rfl := h2.len
  obtain ⟨A0, c0, B0, d0, rfl, hp, hpn, hq, hqn⟩ := h0.open
  have HS := Lib.hid (fun (u : World) => szTopo_c x0 A0 c0 B0 d0 1048576 u hpn hqn (by omega) (by omega))
  have HW := Lib.hid (fun (u : World) (e : Ext w u) (z : Int) (a : z ≤ 1048576) (b : 0 ≤ z) => szWindowS_w x1 A1 x1.length c1 z u (h1.ext RWindow.mono e) hn1 a b)
  have HT0 := Lib.hid (fun (u : World) (e : Ext w u) (a : x0.Parents.length ≤ 1048576) (b : x0.Nodes.length ≤ 1048576) => toTopo_c x0 A0 c0 B0 d0 u (hp.ext (Flat.mono _ _) e) (hq.ext (Flat.mono _ _) e) a b)
  have HT1 := Lib.hid (fun (u : World) (e : Ext w u) (a : x1.length ≤ 1048576) (b : ∀ x ∈ x1, x.Nodes.length ≤ 1048576) => toWindowS_c x1 A1 x1.length c1 u (h1.ext RWindow.mono e) a b)
  have HT2 := Lib.hid (fun (u : World) (e : Ext w u) (a : x2.length ≤ 1048576) => toIntS_c x2 A2 x2.length c2 u (h2.ext (Flat.mono _ _) e) a)
  have HI := Lib.hid (fun (A B : Option Addr) (c d : Nat) (C : Option Addr) (f : Nat) (D : Option Addr) (g : Nat) (u : World) (a : SlAt RInt 1 u A x0.Parents.length x0.Parents) (b : SlAt RNode 4 u B x0.Nodes.length x0.Nodes) (k : SlAt RWindow 3 u C x1.length x1) (l : SlAt RInt 1 u D x2.length x2) => NextQuiet_c x0.Parents x0.Nodes x1 x2 x3 x4 A x0.Parents.length c B x0.Nodes.length d C x1.length f D x2.length g u a hpn b hqn k hn1 l hn2 hi3 hi4)
  have HP := Lib.hid (fun (A B : Option Addr) (c d : Nat) (C : Option Addr) (f : Nat) (D : Option Addr) (g : Nat) (u : World) (a : SlAt RInt 1 u A x0.Parents.length x0.Parents) (b : SlAt RNode 4 u B x0.Nodes.length x0.Nodes) (k : SlAt RWindow 3 u C x1.length x1) (l : SlAt RInt 1 u D x2.length x2) => sNextQuiet_c x0.Parents x0.Nodes x1 x2 x3 x4 A x0.Parents.length c B x0.Nodes.length d C x1.length f D x2.length g u a hpn b hqn k hn1 l hn2 hi3 hi4)
  generalize nextQ x0.Parents x0.Nodes x1 x2 x3 x4 = r at HI HP
  have HEQ := Lib.hid (fun (A B C D : Option Addr) (c d f g : Nat) (u : World) (a : SlAt RInt 1 u A x0.Parents.length x0.Parents) (b : SlAt RNode 4 u B x0.Nodes.length x0.Nodes) (k : SlAt RInt 1 u C x0.Parents.length x0.Parents) (l : SlAt RNode 4 u D x0.Nodes.length x0.Nodes) => eqTopo_t x0 A c B d C f D g u a b k l hpn hqn)
  have HEW := Lib.hid (fun (A B : Option Addr) (c d : Nat) (u : World) (a : SlAt RWindow 3 u A x1.length x1) (b : SlAt RWindow 3 u B x1.length x1) => eqWindowS_t x1 A B x1.length c d u a b hn1)
  have HEI := Lib.hid (fun (A B : Option Addr) (c d : Nat) (u : World) (a : SlAt RInt 1 u A x2.length x2) (b : SlAt RInt 1 u B x2.length x2) => eqIntS_c x2 x2 A B x2.length c x2.length d u a b hn2)
  have HK0 := Lib.hid (fun (u : World) (e : Ext (w.alloc (.cells #[.slice A0 x0.Parents.length c0, .slice B0 x0.Nodes.length d0] 25)) u) => e.cell (law_box w [.slice A0 x0.Parents.length c0, .slice B0 x0.Nodes.length d0] 25 0 _ rfl))
  have HK1 := Lib.hid (fun (u : World) (e : Ext (w.alloc (.cells #[.slice A0 x0.Parents.length c0, .slice B0 x0.Nodes.length d0] 25)) u) => e.cell (law_box w [.slice A0 x0.Parents.length c0, .slice B0 x0.Nodes.length d0] 25 1 _ rfl))
  have hE : Ext w (w.alloc (.cells #[.slice A0 x0.Parents.length c0, .slice B0 x0.Nodes.length d0] 25)) := (Ext.refl w).alloc _
  have HE := Lib.hid hE
  unfold maxLen at hn1 hpn hqn hn2
  clear hp hq h1 hE h2
  go_enter Try.func5, Try.ntmps5
  by_cases hbig : 1048576 < x2.length
  · go_wp2
    exact ret_bool rfl rfl rfl rfl (HE.out)
  have hle2 : x2.length ≤ 1048576 := by omega
  have HL2 := Lib.hid hle2
  go_wp2_with fail
  refine (HS.out _).mono ?_
  rintro e w1 ⟨z, rfl, hz, hb1⟩
  rcases hz with hz | ⟨hz0, hz1, hl0, hl1⟩
  · go_wp2
    exact ret_bool rfl rfl rfl rfl (HE.out.trans hb1)
  have T0 := Lib.hid (fun (u : World) (e : Ext w u) => HT0.out u e hl0 hl1)
  clear hl0 hl1 HT0
  go_wp2_with fail
  refine (HW.out _ (HE.out.trans hb1) z hz1 hz0).mono ?_
  rintro e w2 ⟨y, rfl, hy, hb2⟩
  rcases hy with hy | ⟨hy0, hy1, hl2, hl3⟩
  · go_wp2
    exact ret_bool rfl rfl rfl rfl (HE.out.trans (hb1.trans hb2))
  have T1 := Lib.hid (fun (u : World) (e : Ext w u) => HT1.out u e (by omega) (fun x hx => by have := hl3 x hx; omega))
  clear hl2 hl3 HT1
  have hb := hb1.trans hb2
  clear hb1 hb2
  have kp0 := HK0.out _ hb
  have kp1 := HK1.out _ hb
  have hs0 := lt_of_cell kp0
  go_wp2_with fail
  refine (T0.out _ (HE.out.trans hb)).mono ?_
  rintro e w3 ⟨A3, c3, B3, d3, rfl, hp3, hq3, hb3⟩
  clear kp0 kp1
  have op3 := (OwnIn.of hp3).sl
  have oq3 := (OwnIn.of hq3).sl
  clear hp3 hq3
  go_wp2_with fail
  refine (T1.out _ (HE.out.trans (hb.trans hb3))).mono ?_
  rintro e w4 ⟨A4, c4, rfl, hs4, hb4⟩
  go_wp2_with fail
  refine (HT2.out _ (HE.out.trans (hb.trans (hb3.trans hb4))) HL2.out).mono ?_
  rintro e w5 ⟨A5, c5, rfl, hi5, hb5⟩
  have oi5 := (OwnIn.of hi5).sl
  clear hi5
  go_wp2_with fail
  refine (HP.out _ _ _ _ _ _ _ _ _ (op3.ext (Flat.mono _ _) (hb4.trans hb5)) (oq3.ext (Flat.mono _ _) (hb4.trans hb5)) (hs4.ext RWindow.mono hb5) oi5).mono ?_
  rintro e w6 ⟨rfl, hb6⟩
  have hc := hb.trans (hb3.trans (hb4.trans (hb5.trans hb6)))
  clear op3 oq3 hs4 oi5 hb hb3 hb4 hb5 hb6 hs0
  have kp0 := HK0.out _ hc
  have kp1 := HK1.out _ hc
  have hs0 := lt_of_cell kp0
  go_wp2_with fail
  refine (T0.out _ (HE.out.trans hc)).mono ?_
  rintro e w7 ⟨A7, c7, B7, d7, rfl, hp7, hq7, hb7⟩
  have op := (OwnIn.of hp7).sl
  have oq := (OwnIn.of hq7).sl
  clear hp7 hq7 kp0 kp1
  have hX : Ext w7 (w7.alloc (.cells #[.slice A7 x0.Parents.length c7, .slice B7 x0.Nodes.length d7] 32)) := (Ext.refl _).alloc _
  have hs1 : w.heap.size < w7.heap.size := by have := hb7.le; omega
  go_wp2_with fail
  refine (T1.out _ (HE.out.trans (hc.trans (hb7.trans hX)))).mono ?_
  rintro e w8 ⟨A8, c8, rfl, hs8, hb8⟩
  go_wp2_with fail
  refine (HT2.out _ (HE.out.trans (hc.trans (hb7.trans (hX.trans hb8)))) HL2.out).mono ?_
  rintro e w9 ⟨A9, c9, rfl, hi9, hb9⟩
  have oi := (OwnIn.of hi9).sl
  clear hi9
  have kx0 := Ext.cell (hb8.trans hb9) (law_box w7 [.slice A7 x0.Parents.length c7, .slice B7 x0.Nodes.length d7] 32 0 _ rfl)
  have kx1 := Ext.cell (hb8.trans hb9) (law_box w7 [.slice A7 x0.Parents.length c7, .slice B7 x0.Nodes.length d7] 32 1 _ rfl)
  have hs2 := lt_of_cell kx0
  go_wp2_with fail
  refine (HI.out _ _ _ _ _ _ _ _ _ (op.ext (Flat.mono _ _) (hX.trans (hb8.trans hb9))) (oq.ext (Flat.mono _ _) (hX.trans (hb8.trans hb9))) (hs8.ext RWindow.mono hb9) oi).mono ?_
  rintro e w10 ⟨rfl, hb10⟩
  clear kx0 kx1 hs2
  have kp0 := HK0.out _ (hc.trans (hb7.trans (hX.trans ((hb8.trans hb9).trans hb10))))
  have kp1 := HK1.out _ (hc.trans (hb7.trans (hX.trans ((hb8.trans hb9).trans hb10))))
  have hs0 := lt_of_cell kp0
  have kx0 := Ext.cell ((hb8.trans hb9).trans hb10) (law_box w7 [.slice A7 x0.Parents.length c7, .slice B7 x0.Nodes.length d7] 32 0 _ rfl)
  have kx1 := Ext.cell ((hb8.trans hb9).trans hb10) (law_box w7 [.slice A7 x0.Parents.length c7, .slice B7 x0.Nodes.length d7] 32 1 _ rfl)
  have hs2 := lt_of_cell kx0
  go_wp2
  have KD0 := Lib.hid (show w10.drew.cell? ⟨w7.heap.size, 0, none⟩ = some (.slice A7 x0.Parents.length c7) from kx0)
  have KD1 := Lib.hid (show w10.drew.cell? ⟨w7.heap.size, 1, none⟩ = some (.slice B7 x0.Nodes.length d7) from kx1)
  have KD2 := Lib.hid (show w10.drew.cell? ⟨w.heap.size, 0, none⟩ = some (.slice A0 x0.Parents.length c0) from kp0)
  have KD3 := Lib.hid (show w10.drew.cell? ⟨w.heap.size, 1, none⟩ = some (.slice B0 x0.Nodes.length d0) from kp1)
  have hd : Ext w10 w10.drew := (Ext.refl _).drew
  go_region_held3 (fun u => u.cell? ⟨w7.heap.size, 0, none⟩ = some (.slice A7 x0.Parents.length c7) ∧ u.cell? ⟨w7.heap.size, 1, none⟩ = some (.slice B7 x0.Nodes.length d7) ∧ u.cell? ⟨w.heap.size, 0, none⟩ = some (.slice A0 x0.Parents.length c0) ∧ u.cell? ⟨w.heap.size, 1, none⟩ = some (.slice B0 x0.Nodes.length d0)) ((refine ⟨?_, ?_, ?_, ?_⟩ <;> first | assumption | exact KD0.out | exact KD1.out | exact KD2.out | exact KD3.out)) (first | (go_at_call 12; refine (T0.out _ (HE.out.trans ((hc.trans (hb7.trans (hX.trans ((hb8.trans hb9).trans hb10)))).trans hd))).mono ?_; rintro e w11 ⟨A11, c11, B11, d11, rfl, hp11, hq11, hb11⟩; have up := (OwnIn.of hp11).sl; have uq := (OwnIn.of hq11).sl; have KE0 := hb11.cell KD0.out; have KE1 := hb11.cell KD1.out; have KE2 := hb11.cell KD2.out; have KE3 := hb11.cell KD3.out) | (go_at_call 15; refine (HEQ.out _ _ _ _ _ _ _ _ _ (op.ext (Flat.mono _ _) (hX.trans (((hb8.trans hb9).trans hb10).trans (hd.trans hb11)))) (oq.ext (Flat.mono _ _) (hX.trans (((hb8.trans hb9).trans hb10).trans (hd.trans hb11)))) up uq).mono ?_; rintro e w12 ⟨rfl, hb12⟩; have KF0 := hb12.cell KE0; have KF1 := hb12.cell KE1; have KF2 := hb12.cell KE2; have KF3 := hb12.cell KE3))
  clear KE0 KE1 KE2 KE3 KF0 KF1 KF2 KF3 KD0 KD1 KD2 KD3 kx0 kx1 kp0 kp1 hp11 hq11 up uq op oq
  go_wp2_with fail
  refine (T1.out _ (HE.out.trans ((hc.trans (hb7.trans (hX.trans ((hb8.trans hb9).trans hb10)))).trans (hd.trans (hb11.trans hb12))))).mono ?_
  rintro e w13 ⟨A13, c13, rfl, hs13, hb13⟩
  go_wp2_with fail
  refine (HEW.out _ _ _ _ _ (hs8.ext RWindow.mono (hb9.trans (hb10.trans (hd.trans (hb11.trans (hb12.trans hb13)))))) hs13).mono ?_
  rintro e w14 ⟨rfl, hb14⟩
  go_wp2_with fail
  refine (HT2.out _ (HE.out.trans (((hc.trans (hb7.trans (hX.trans ((hb8.trans hb9).trans hb10)))).trans (hd.trans (hb11.trans hb12))).trans (hb13.trans hb14))) HL2.out).mono ?_
  rintro e w15 ⟨A15, c15, rfl, hi15, hb15⟩
  have oj := (OwnIn.of hi15).sl
  clear hi15
  go_wp2_with fail
  refine (HEI.out _ _ _ _ _ (oi.ext (Flat.mono _ _) ((hb10.trans (hd.trans (hb11.trans (hb12.trans hb13)))).trans (hb14.trans hb15))) oj).mono ?_
  rintro e w16 ⟨rfl, hb16⟩
  go_wp2
  exact ret_bool rfl rfl rfl rfl (HE.out.trans ((((hc.trans (hb7.trans (hX.trans ((hb8.trans hb9).trans hb10)))).trans (hd.trans (hb11.trans hb12))).trans (hb13.trans hb14)).trans (hb15.trans hb16)))
end Go.Proofs.Ytafccgnaifhnkaa
