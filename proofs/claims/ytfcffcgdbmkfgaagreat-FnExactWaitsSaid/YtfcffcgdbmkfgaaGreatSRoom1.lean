/- Contracts: a profile made and copied, a room asked, the other way. -/
import Derived.Test.YtfcffcgdbmkfgaaGreatRoom2
import Derived.Test.YtfcffcgdbmkfgaaGreatTopo2
namespace Go.Proofs.YtfcffcgdbmkfgaaGreat
open Go.RowKit
set_option linter.unusedVariables false
set_option maxHeartbeats 4000000 in
theorem sProfNew_c (v : Vec) (w : World) : Calls Tryz.prog 101 #[.agg #[.int .i64 v.A, .int .i64 v.B, .int .i64 v.C]] w (RetP w (if vecB v = true then some [⟨0, v⟩] else none)) := by
  have HVO := Lib.hid (fun u : World => sVecOk_c v u)
  have HOK := Lib.hid (fun (h : vecB v = true) => show Pt.ok ⟨0, v⟩ from pt_ok (t := 0) rfl h)
  rcases (Bool.eq_false_or_eq_true (vecB v)).symm with h1 | h1
  all_goals rw [h1] at HVO ⊢
  · clear h1 HOK
    go_enter Tryz.func101, Tryz.ntmps101
    go_wp2_with fail
    refine (HVO.out _).mono ?_
    rintro e w1 ⟨rfl, hb1⟩
    obtain ⟨hcr1, hfr1, hz1⟩ := hb1.rules
    (try simp at hz1)
    have hy1_w0 : w.heap.size < w1.heap.size := (by omega)
    have hy1_w1 : w.heap.size + 1 < w1.heap.size := (by omega)
    have q0 := (hb1).cell (cell_box_at (w.alloc (.cells #[.int .i64 v.A, .int .i64 v.B, .int .i64 v.C] 39)) (w.heap.size + 1) (by simp) [.slice none 0 0] 96 0 _ rfl)
    have qf0 := ((hb1).frozenEq (a := ⟨w.heap.size + 1, 0, none⟩) (by simp)).trans (frozen_box_at (w.alloc (.cells #[.int .i64 v.A, .int .i64 v.B, .int .i64 v.C] 39)) (w.heap.size + 1) (by simp) #[.slice none 0 0] 96 0)
    go_wp2
    exact bodyPost_ret (v := .tuple #[.agg #[.slice none 0 0], .bool false]) (by simp [results, Tryz.results101, go_sem, *]) rfl (retP_none rfl (by repeat (first | exact Ext.refl _ | assumption | apply Ext.alloc | apply Ext.drewN | apply Ext.drew | (refine Ext.setCell ?_ (by first | (simp; done) | (simp; omega) | omega) _) | (refine Ext.trans ?_ (by assumption)))))
  · have HK := Lib.hid (HOK.out h1)
    clear h1 HOK
    go_enter Tryz.func101, Tryz.ntmps101
    go_wp2_with fail
    refine (HVO.out _).mono ?_
    rintro e w1 ⟨rfl, hb1⟩
    obtain ⟨hcr1, hfr1, hz1⟩ := hb1.rules
    (try simp at hz1)
    have hy1_w0 : w.heap.size < w1.heap.size := (by omega)
    have hy1_w1 : w.heap.size + 1 < w1.heap.size := (by omega)
    have q0 := (hb1).cell (cell_box_at (w.alloc (.cells #[.int .i64 v.A, .int .i64 v.B, .int .i64 v.C] 39)) (w.heap.size + 1) (by simp) [.slice none 0 0] 96 0 _ rfl)
    have qf0 := ((hb1).frozenEq (a := ⟨w.heap.size + 1, 0, none⟩) (by simp)).trans (frozen_box_at (w.alloc (.cells #[.int .i64 v.A, .int .i64 v.B, .int .i64 v.C] 39)) (w.heap.size + 1) (by simp) #[.slice none 0 0] 96 0)
    go_wp2
    exact bodyPost_ret (v := .tuple #[.agg #[.slice (some ⟨w1.heap.size, 0, none⟩) 1 1], .bool true]) (by simp [results, Tryz.results101, go_sem, *]) rfl ⟨_, _, [⟨0, v⟩], rfl, .inl rfl, box_after w1 _ _ (Pt.enc ⟨0, v⟩) 150 4 rfl (by omega), fun y hy => by rw [List.mem_singleton.1 hy]; exact HK.out, (by repeat (first | exact Ext.refl _ | assumption | apply Ext.alloc | apply Ext.drewN | apply Ext.drew | (refine Ext.setCell ?_ (by first | (simp; done) | (simp; omega) | omega) _) | (refine Ext.trans ?_ (by assumption))))⟩
set_option maxRecDepth 8000 in
theorem l04Prof_c (xs : List Pt) (A : Option Addr) (n c : Nat) (w : World) (h : SlAt RPt 4 w A n xs) (hl : n ≤ 1048576) : Calls Tryz.prog 119 #[.agg #[.slice A n c]] w (RetProf w xs) := by
  obtain ⟨i0, hi, hI0, hI1, hI2⟩ := info_parts CPt.info
  obtain rfl := h.len
  have HS := Lib.hid (fun (u : World) (e : Ext w u) => h.ext (Flat.mono Pt.enc Pt.ok) e)
  clear h
  have HE0 := Lib.hid (show (((w.alloc (.cells #[.slice A xs.length c] 96)).alloc (.cells #[.slice none 0 0] 96)).alloc (.cells #[] 150)).ownsRow (w.heap.size + 1 + 1) 150 4 (.slice (some ⟨w.heap.size + 1 + 1, 0, none⟩) 0 0) 0 [] from by
    have h := owns_empty ((w.alloc (.cells #[.slice A xs.length c] 96)).alloc (.cells #[.slice none 0 0] 96)) 150 4
    rw [show ((w.alloc (.cells #[.slice A xs.length c] 96)).alloc (.cells #[.slice none 0 0] 96)).heap.size = w.heap.size + 1 + 1 by simp] at h
    exact h)
  go_enter Tryz.func119, Tryz.ntmps119
  go_wp2_with (at_builtin; go_must (refine wpList_append_r (enc := Pt.enc) (ok := Pt.ok) (.tmp 3) (.tmp 5) _ (w.heap.size + 1 + 1) 150 i0 _ 4 32 (.slice (some ⟨w.heap.size + 1 + 1, 0, none⟩) 0 0) 0 [] A xs.length c xs rfl rfl Tryz.underlying94 hi hI0 hI1 hI2 rfl (by omega) rfl HE0.out rfl (HS.out _ ((((Ext.refl w).alloc _).alloc _).alloc _)) Pt.size pt_one (by unfold maxLen; omega) (by omega) (by simp) ?_); intro A1 c1 w1 hr1; have HO := Lib.hid hr1.row; have hb1 : Ext ((w.alloc (.cells #[.slice A xs.length c] 96)).alloc (.cells #[.slice none 0 0] 96)) w1 := ext_turned ((Ext.refl _).alloc _) (hr1.turned (lo := w.heap.size + 1 + 1) (fun q hq => by have h2 : w.heap.size + 1 + 1 = q := Option.some.inj hq; omega)) (by simp); have q0 := hb1.cell (cell_box_at (w.alloc (.cells #[.slice A xs.length c] 96)) (w.heap.size + 1) (by simp) [.slice none 0 0] 96 0 _ rfl); have qf0 := (hb1.frozenEq (a := ⟨w.heap.size + 1, 0, none⟩) (by simp)).trans (frozen_box_at (w.alloc (.cells #[.slice A xs.length c] 96)) (w.heap.size + 1) (by simp) #[.slice none 0 0] 96 0); have hq := lt_of_cell q0; clear hr1)
  simp only [Nat.zero_add, List.nil_append] at HO ⊢
  have hx1 : Ext w w1 := (((Ext.refl w).alloc _).alloc _).trans hb1
  clear hb1
  go_wp2
  exact bodyPost_ret (v := .agg #[.slice A1 xs.length c1]) (by simp [results, Tryz.results119, go_sem, *]) rfl ⟨A1, c1, rfl, owns_base (own_set HO.out (by omega)) (by omega), hx1.setCell (by simp) _⟩
set_option maxHeartbeats 8000000 in
set_option maxRecDepth 8000 in
theorem sRoomOk_c (ps : List Int) (ns : List Node) (up : List Bool) (r : List (List Pt) × List Pt) (v : Value) (w : World) (h : RoomAt w ps ns up r v) (ht : topoB ps ns = true) (hu : up.length = ns.length) (hr : roomOkM ns.length r) : Calls Tryz.prog 103 #[v] w (Ret w (.bool true)) := by
  obtain ⟨A1, c1, A2, c2, A3, c3, A4, c4, A5, c5, rfl, h1, h2, h3, h4, h5⟩ := h
  obtain ⟨hr1, hr2, hr3⟩ := hr
  obtain ⟨⟨_, hp1⟩, hn1, _⟩ := topo_parts ht
  have hl5 := (profB_parts hr3).2.1
  have HT := Lib.hid (fun (u : World) (e : Ext w u) => sTopoOk_c ps ns A1 ps.length c1 A2 ns.length c2 u (h1.ext (Flat.mono _ _) e) (by unfold maxLen; omega) (h2.ext (Flat.mono _ _) e) (by unfold maxLen; omega))
  rw [ht] at HT
  have HL := Lib.hid (fun (u : World) (e : Ext w u) => sProfOk_c r.2 A5 r.2.length c5 u (h5.ext (Flat.mono _ _) e) (by unfold maxLen; omega))
  rw [hr3] at HL
  have HP := Lib.hid (fun (p : List Pt) (hp : p ∈ r.1) (A : Option Addr) (c : Nat) (u : World) (hs : SlAt RPt 4 u A p.length p) => show Calls Tryz.prog 120 #[.agg #[.slice A p.length c]] u (Ret u (.bool true)) from by
    have := sProfOk_c p A p.length c u hs (by have := (profB_parts (hr2 p hp)).2.1; unfold maxLen; omega)
    rw [hr2 p hp] at this; exact this)
  have H4 := Lib.hid (fun (u : World) (e : Ext w u) => h4.ext RPf.mono e)
  clear h1 h2 h3 h4 h5 ht hr2 hr3
  rw [hr1] at H4
  rw [hu, hr1]
  clear hu hr1
  generalize ns.length = m at *
  generalize ps.length = n at *
  generalize r.2.length = q at *
  go_enter Tryz.func103, Tryz.ntmps103
  go_wp2_with fail
  refine (HT.out _ (by repeat (first | exact Ext.refl _ | assumption | apply Ext.alloc | apply Ext.drewN | apply Ext.drew | (refine Ext.setCell ?_ (by first | (simp; done) | (simp; omega) | omega) _) | (refine Ext.trans ?_ (by assumption))))).mono ?_
  rintro e w1 ⟨rfl, hb1⟩
  obtain ⟨hcr1, hfr1, hz1⟩ := hb1.rules
  (try simp at hz1)
  have hy1_w0 : w.heap.size < w1.heap.size := (by omega)
  go_wp2_with fail
  refine (HL.out _ (((Ext.refl w).alloc _).trans hb1)).mono ?_
  rintro e w2 ⟨rfl, hb2⟩
  obtain ⟨hcr2, hfr2, hz2⟩ := hb2.rules
  (try simp at hz2)
  have hy2_w0 : w.heap.size < w2.heap.size := (by omega)
  have b0 := (hb1.trans hb2).cell (cell_box_at w (w.heap.size) (by simp) [.slice A1 n c1, .slice A2 m c2, .slice A3 m c3, .slice A4 m c4, .slice A5 q c5] 98 0 _ rfl)
  have b1 := (hb1.trans hb2).cell (cell_box_at w (w.heap.size) (by simp) [.slice A1 n c1, .slice A2 m c2, .slice A3 m c3, .slice A4 m c4, .slice A5 q c5] 98 1 _ rfl)
  have b2 := (hb1.trans hb2).cell (cell_box_at w (w.heap.size) (by simp) [.slice A1 n c1, .slice A2 m c2, .slice A3 m c3, .slice A4 m c4, .slice A5 q c5] 98 2 _ rfl)
  have b3 := (hb1.trans hb2).cell (cell_box_at w (w.heap.size) (by simp) [.slice A1 n c1, .slice A2 m c2, .slice A3 m c3, .slice A4 m c4, .slice A5 q c5] 98 3 _ rfl)
  have b4 := (hb1.trans hb2).cell (cell_box_at w (w.heap.size) (by simp) [.slice A1 n c1, .slice A2 m c2, .slice A3 m c3, .slice A4 m c4, .slice A5 q c5] 98 4 _ rfl)
  have bf0 := ((hb1.trans hb2).frozenEq (a := ⟨w.heap.size, 0, none⟩) (by simp)).trans (frozen_box_at w (w.heap.size) (by simp) #[.slice A1 n c1, .slice A2 m c2, .slice A3 m c3, .slice A4 m c4, .slice A5 q c5] 98 0)
  have bf1 := ((hb1.trans hb2).frozenEq (a := ⟨w.heap.size, 1, none⟩) (by simp)).trans (frozen_box_at w (w.heap.size) (by simp) #[.slice A1 n c1, .slice A2 m c2, .slice A3 m c3, .slice A4 m c4, .slice A5 q c5] 98 1)
  have bf2 := ((hb1.trans hb2).frozenEq (a := ⟨w.heap.size, 2, none⟩) (by simp)).trans (frozen_box_at w (w.heap.size) (by simp) #[.slice A1 n c1, .slice A2 m c2, .slice A3 m c3, .slice A4 m c4, .slice A5 q c5] 98 2)
  have bf3 := ((hb1.trans hb2).frozenEq (a := ⟨w.heap.size, 3, none⟩) (by simp)).trans (frozen_box_at w (w.heap.size) (by simp) #[.slice A1 n c1, .slice A2 m c2, .slice A3 m c3, .slice A4 m c4, .slice A5 q c5] 98 3)
  have bf4 := ((hb1.trans hb2).frozenEq (a := ⟨w.heap.size, 4, none⟩) (by simp)).trans (frozen_box_at w (w.heap.size) (by simp) #[.slice A1 n c1, .slice A2 m c2, .slice A3 m c3, .slice A4 m c4, .slice A5 q c5] 98 4)
  go_wp2
  go_loopw [38] (fun i wr => ∃ k : Nat, k ≤ m ∧ i = .int .i64 k ∧ Ext (w.alloc (.cells #[.slice A1 n c1, .slice A2 m c2, .slice A3 m c3, .slice A4 m c4, .slice A5 q c5] 98)) wr) (fun i _ => m - (intOf i).toNat)
  case atStart => exact ⟨0, Nat.zero_le _, rfl, hb1.trans hb2⟩
  case round =>
    obtain ⟨k, hk, rfl, hb⟩ := hrel
    clear b0 b1 b2 b3 b4 bf0 bf1 bf2 bf3 bf4 hcr1 hfr1 hcr2 hfr2
    by_cases hlt : k < m
    · obtain ⟨b, o, x, cs, rfl, hbw, hx, _, hc, A', c', rfl, hs⟩ := (H4.out wr (((Ext.refl w).alloc _).trans hb)).at_ hlt
      have g0 := hc 0 _ rfl
      simp only [Nat.mul_one, Nat.add_zero] at g0
      have HX := Lib.hid (List.mem_of_getElem? hx)
      have HS := Lib.hid (fun (u : World) (e : Ext wr u) => HP.out x HX.out A' c' u (hs.ext (Flat.mono _ _) e))
      clear hx hc hs
      generalize x.length = xl at *
      go_wp2_with fail
      refine (HS.out _ ((Ext.refl _).alloc _)).mono ?_
      rintro e w4 ⟨rfl, hb4⟩
      go_wp2
      go_roundw
      case rel => exact ⟨k + 1, by omega, by go_num, hb.trans (((Ext.refl _).alloc _).trans hb4)⟩
      case measure => simp [intOf]; omega
    · obtain rfl : k = m := by omega
      go_wp2
      exact ret_bool rfl rfl rfl rfl (((Ext.refl w).alloc _).trans hb)
end Go.Proofs.YtfcffcgdbmkfgaaGreat
