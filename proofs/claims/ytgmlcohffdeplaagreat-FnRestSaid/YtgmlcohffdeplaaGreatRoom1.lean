/- Contracts: a profile taken, made, copied; a tree copied, the given way. -/
import Derived.Test.YtgmlcohffdeplaaGreatPRow
import Derived.Deep.RegionLaw
namespace Go.Proofs.YtgmlcohffdeplaaGreat
open Go.RowKit
set_option linter.unusedVariables false
theorem CInt.info : (Tryz.prog.info? 3).map (fun i => (i.zero, i.size, i.bytes)) = some (some (.int .i64 0), 1, 8) := by kernel_rfl
theorem CNode.info : (Tryz.prog.info? 130).map (fun i => (i.zero, i.size, i.bytes)) = some (some (.agg #[.int .i64 0, .int .i64 0, .int .i64 0, .int .i64 0]), 4, 32) := by kernel_rfl
theorem CPt.info : (Tryz.prog.info? 107).map (fun i => (i.zero, i.size, i.bytes)) = some (some (.agg #[.int .i64 0, .int .i64 0, .int .i64 0, .int .i64 0]), 4, 32) := by kernel_rfl
theorem CBool.info : (Tryz.prog.info? 4).map (fun i => (i.zero, i.size, i.bytes)) = some (some (.bool false), 1, 1) := by kernel_rfl
theorem CProf.info : (Tryz.prog.info? 42).map (fun i => (i.zero, i.size, i.bytes)) = some (some (.agg #[.slice none 0 0]), 1, 24) := by kernel_rfl
theorem node_one (y : Node) : ∀ u ∈ y.enc, u.oneCell' = true := by
  intro u hu; simp [Node.enc] at hu; rcases hu with rfl | rfl | rfl | rfl <;> rfl
def RetInts (w : World) (xs : List Int) : Ending → World → Prop := fun e w' => ∃ A c, e = .returned (.slice A xs.length c) ∧ w'.ownsRow w.heap.size 3 1 (.slice A xs.length c) xs.length (xs.flatMap encInt) ∧ Ext w w'
def RetProf (w : World) (xs : List Pt) : Ending → World → Prop := fun e w' => ∃ A c, e = .returned (.agg #[.slice A xs.length c]) ∧ w'.ownsRow w.heap.size 107 4 (.slice A xs.length c) xs.length (xs.flatMap Pt.enc) ∧ Ext w w'
def RetTopo (w : World) (ps : List Int) (ns : List Node) : Ending → World → Prop := fun e w' => ∃ A c B d, e = .returned (.agg #[.slice A ps.length c, .slice B ns.length d]) ∧ w'.ownsRow w.heap.size 3 1 (.slice A ps.length c) ps.length (ps.flatMap encInt) ∧ w'.ownsRow w.heap.size 130 4 (.slice B ns.length d) ns.length (ns.flatMap Node.enc) ∧ Ext w w'
set_option maxRecDepth 8000 in
theorem copyInts_r (xs : List Int) (A : Option Addr) (n c : Nat) (w : World) (h : SlAt RInt 1 w A n xs) (hl : n ≤ 1048576) : Calls Tryz.prog 104 #[.slice A n c] w (RetInts w xs) := by
  obtain ⟨i0, hi, hI0, hI1, hI2⟩ := info_parts CInt.info
  obtain rfl := h.len
  go_enter Tryz.func104, Tryz.ntmps104
  go_wp2_with (at_builtin; go_must (refine wpList_append_r (.const (.slice none 0 0)) (.tmp 3) _ w.heap.size 3 i0 _ 1 8 (.slice none 0 0) 0 [] A xs.length c xs rfl rfl Tryz.underlying22 hi hI0 hI1 hI2 rfl (by omega) rfl (World.ownsRow_nil _ _ _ _) rfl h (fun _ => rfl) cInt_one (by unfold maxLen; omega) (by omega) (Nat.le_refl _) ?_); intro A1 c1 w1 hr1)
  have hb1 := hr1.ext_nil
  have HO := Lib.hid hr1.row
  simp only [Nat.zero_add, List.nil_append] at HO
  clear hr1
  go_wp2
  exact bodyPost_ret (results_tmp rfl _ _ _) rfl ⟨A1, c1, by simp, HO.out, hb1⟩
set_option maxRecDepth 8000 in
theorem copyProf_c (xs : List Pt) (A : Option Addr) (n c : Nat) (w : World) (h : SlAt RPt 4 w A n xs) (hl : n ≤ 1048576) : Calls Tryz.prog 77 #[.agg #[.slice A n c]] w (RetProf w xs) := by
  obtain ⟨i0, hi, hI0, hI1, hI2⟩ := info_parts CPt.info
  obtain rfl := h.len
  have HS := Lib.hid (fun (u : World) (e : Ext w u) => h.ext (Flat.mono Pt.enc Pt.ok) e)
  clear h
  go_enter Tryz.func77, Tryz.ntmps77
  go_wp2_with (at_builtin; go_must (refine wpList_append_r (enc := Pt.enc) (ok := Pt.ok) (.const (.slice none 0 0)) (.tmp 4) _ (w.heap.size + 1 + 1) 107 i0 _ 4 32 (.slice none 0 0) 0 [] A xs.length c xs rfl rfl Tryz.underlying40 hi hI0 hI1 hI2 rfl (by omega) rfl (World.ownsRow_nil _ _ _ _) rfl (HS.out _ (by repeat (first | exact Ext.refl _ | assumption | apply Ext.alloc | apply Ext.drewN | apply Ext.drew | (refine Ext.setCell ?_ (by first | (simp; done) | (simp; omega) | omega) _) | (refine Ext.trans ?_ (by assumption))))) Pt.size pt_one (by unfold maxLen; omega) (by omega) (by simp) ?_); intro A1 c1 w1 hr1; have hb1 := hr1.ext_nil; have HO := Lib.hid hr1.row; have hz1 := hb1.le; simp at hz1; clear hr1; have q0 := hb1.cell (cell_box_at (w.alloc (.cells #[.slice A xs.length c] 42)) (w.heap.size + 1) (by simp) [.slice none 0 0] 42 0 _ rfl); have qf0 := (hb1.frozenEq (a := ⟨w.heap.size + 1, 0, none⟩) (by simp)).trans (frozen_box_at (w.alloc (.cells #[.slice A xs.length c] 42)) (w.heap.size + 1) (by simp) #[.slice none 0 0] 42 0); have hq := lt_of_cell q0)
  simp only [Nat.zero_add, List.nil_append] at HO ⊢
  go_wp2
  exact bodyPost_ret (v := .agg #[.slice A1 xs.length c1]) (by simp [results, Tryz.results77, go_sem, *]) rfl ⟨A1, c1, rfl, owns_base (own_set HO.out (by omega)) (by omega), (by repeat (first | exact Ext.refl _ | assumption | apply Ext.alloc | apply Ext.drewN | apply Ext.drew | (refine Ext.setCell ?_ (by first | (simp; done) | (simp; omega) | omega) _) | (refine Ext.trans ?_ (by assumption))))⟩
set_option maxHeartbeats 4000000 in
set_option maxRecDepth 8000 in
theorem copyTopo_c (ps : List Int) (ns : List Node) (A : Option Addr) (n c : Nat) (B : Option Addr) (m d : Nat) (w : World) (h : SlAt RInt 1 w A n ps) (hl : n ≤ 1048576) (h2 : SlAt RNode 4 w B m ns) (hl2 : m ≤ 1048576) : Calls Tryz.prog 76 #[.agg #[.slice A n c, .slice B m d]] w (RetTopo w ps ns) := by
  obtain ⟨i0, hi, hI0, hI1, hI2⟩ := info_parts CNode.info
  obtain rfl := h.len
  obtain rfl := h2.len
  have HS := Lib.hid (fun (u : World) (e : Ext w u) => h2.ext (Flat.mono Node.enc Node.ok) e)
  have HC := Lib.hid (fun (u : World) (e : Ext w u) => copyInts_r ps A ps.length c u (h.ext (Flat.mono _ _) e) hl)
  clear h h2
  go_enter Tryz.func76, Tryz.ntmps76
  go_wp2
  go_region_law (first | (go_simp; go_at_call 104; (with_reducible refine (HC.out _ (by repeat (first | exact Ext.refl _ | assumption | apply Ext.alloc | apply Ext.drewN | apply Ext.drew | (refine Ext.setCell ?_ (by first | (simp; done) | (simp; omega) | omega) _) | (refine Ext.trans ?_ (by assumption))))).mono ?_); rintro e w2 ⟨A2, c2, rfl, ho2, hb2⟩; have HO2 := Lib.hid (owns_base ho2 (show w.heap.size + 1 + 1 ≤ _ from (by first | omega | (simp; omega) | simp))); have hz2 := hb2.le; (try simp at hz2); have HZ2 := Lib.hid (show Ext ((w.alloc (.cells #[.slice A ps.length c, .slice B ns.length d] 38)).alloc (.cells #[.slice none 0 0, .slice none 0 0] 38)) w2 from (by first | exact ((Ext.refl _).drew).trans hb2 | exact HZ3.out.trans hb2)); have HX2 := Lib.hid (((Ext.refl (w.alloc (.cells #[.slice A ps.length c, .slice B ns.length d] 38))).alloc _).trans HZ2.out); have y20 := HX2.out.cell (cell_box_at w w.heap.size rfl [.slice A ps.length c, .slice B ns.length d] 38 0 _ rfl); have y21 := HX2.out.cell (cell_box_at w w.heap.size rfl [.slice A ps.length c, .slice B ns.length d] 38 1 _ rfl); have q20 := HZ2.out.cell (cell_box_at (w.alloc (.cells #[.slice A ps.length c, .slice B ns.length d] 38)) (w.heap.size + 1) (by simp) [.slice none 0 0, .slice none 0 0] 38 0 _ rfl); have q21 := HZ2.out.cell (cell_box_at (w.alloc (.cells #[.slice A ps.length c, .slice B ns.length d] 38)) (w.heap.size + 1) (by simp) [.slice none 0 0, .slice none 0 0] 38 1 _ rfl); have qf20 := (HZ2.out.frozenEq (a := ⟨w.heap.size + 1, 0, none⟩) (by simp)).trans (frozen_box_at (w.alloc (.cells #[.slice A ps.length c, .slice B ns.length d] 38)) (w.heap.size + 1) (by simp) #[.slice none 0 0, .slice none 0 0] 38 0); have qf21 := (HZ2.out.frozenEq (a := ⟨w.heap.size + 1, 1, none⟩) (by simp)).trans (frozen_box_at (w.alloc (.cells #[.slice A ps.length c, .slice B ns.length d] 38)) (w.heap.size + 1) (by simp) #[.slice none 0 0, .slice none 0 0] 38 1); have hq2 := lt_of_cell q20; have hy2 := lt_of_cell y20; have e2 : Ext w w2 := ((Ext.refl w).alloc _).trans HX2.out; clear ho2) | (refine step_append_r (enc := Node.enc) (ok := Node.ok) (by rfl) _ _ _ (by rfl) (w.heap.size + 1 + 1) 130 i0 _ 4 32 Tryz.underlying36 hi hI0 hI1 hI2 rfl (by omega) (.slice none 0 0) 0 [] B ns.length d ns ns.length (by simp) (by rfl) (by rfl) (World.ownsRow_nil _ _ _ _) (HS.out _ (by repeat (first | exact Ext.refl _ | assumption | apply Ext.alloc | apply Ext.drewN | apply Ext.drew | (refine Ext.setCell ?_ (by first | (simp; done) | (simp; omega) | omega) _) | (refine Ext.trans ?_ (by assumption))))) Node.size node_one (by unfold maxLen; omega) (by omega) (by first | omega | (simp; omega)) ?_; intro A3 c3 w3 hr3; have hb3 := hr3.ext_nil; have HO3 := Lib.hid hr3.row; have hz3 := hb3.le; (try simp at hz3); have HZ3 := Lib.hid (show Ext ((w.alloc (.cells #[.slice A ps.length c, .slice B ns.length d] 38)).alloc (.cells #[.slice none 0 0, .slice none 0 0] 38)) w3 from (by first | exact ((Ext.refl _).drew).trans hb3 | exact HZ2.out.trans hb3)); have HX3 := Lib.hid (((Ext.refl (w.alloc (.cells #[.slice A ps.length c, .slice B ns.length d] 38))).alloc _).trans HZ3.out); have y30 := HX3.out.cell (cell_box_at w w.heap.size rfl [.slice A ps.length c, .slice B ns.length d] 38 0 _ rfl); have y31 := HX3.out.cell (cell_box_at w w.heap.size rfl [.slice A ps.length c, .slice B ns.length d] 38 1 _ rfl); have q30 := HZ3.out.cell (cell_box_at (w.alloc (.cells #[.slice A ps.length c, .slice B ns.length d] 38)) (w.heap.size + 1) (by simp) [.slice none 0 0, .slice none 0 0] 38 0 _ rfl); have q31 := HZ3.out.cell (cell_box_at (w.alloc (.cells #[.slice A ps.length c, .slice B ns.length d] 38)) (w.heap.size + 1) (by simp) [.slice none 0 0, .slice none 0 0] 38 1 _ rfl); have qf30 := (HZ3.out.frozenEq (a := ⟨w.heap.size + 1, 0, none⟩) (by simp)).trans (frozen_box_at (w.alloc (.cells #[.slice A ps.length c, .slice B ns.length d] 38)) (w.heap.size + 1) (by simp) #[.slice none 0 0, .slice none 0 0] 38 0); have qf31 := (HZ3.out.frozenEq (a := ⟨w.heap.size + 1, 1, none⟩) (by simp)).trans (frozen_box_at (w.alloc (.cells #[.slice A ps.length c, .slice B ns.length d] 38)) (w.heap.size + 1) (by simp) #[.slice none 0 0, .slice none 0 0] 38 1); have hq3 := lt_of_cell q30; have hy3 := lt_of_cell y30; have e3 : Ext w w3 := ((Ext.refl w).alloc _).trans HX3.out; clear hr3))
  all_goals
    simp only [List.nil_append] at HO3
    go_wp2
    exact bodyPost_ret (v := .agg #[.slice A2 ps.length c2, .slice A3 ns.length c3]) (by simp [results, Tryz.results76, go_sem, *]) rfl ⟨A2, c2, A3, c3, rfl, owns_base (own_set (own_set (by first | exact HO2.out | exact owns_ext HO2.out hb3) (by omega)) (by omega)) (by omega), owns_base (own_set (own_set (by first | exact HO3.out | exact owns_ext HO3.out hb2) (by omega)) (by omega)) (by omega), (by repeat (first | exact Ext.refl _ | assumption | apply Ext.alloc | apply Ext.drewN | apply Ext.drew | (refine Ext.setCell ?_ (by first | (simp; done) | (simp; omega) | omega) _) | (refine Ext.trans ?_ (by assumption))))⟩
end Go.Proofs.YtgmlcohffdeplaaGreat
