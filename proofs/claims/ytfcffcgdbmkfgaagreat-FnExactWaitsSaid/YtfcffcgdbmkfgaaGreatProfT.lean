/- Contracts: vectors less vectors, the given way; what a closure takes. -/
import Derived.Test.YtfcffcgdbmkfgaaGreatProfF
namespace Go.Proofs.YtfcffcgdbmkfgaaGreat
open Go.RowKit
set_option linter.unusedVariables false
theorem vecB_iffT {v : Vec} : vecB v = true ↔ (0 ≤ v.A ∧ v.A ≤ 1000000) ∧ (0 ≤ v.B ∧ v.B ≤ 1000000) ∧ (0 ≤ v.C ∧ v.C ≤ 1000000) := by unfold vecB; rw [decide_eq_true_iff]
theorem sub_valid {a b : Vec} (ha : vecB a = true) (hb : vecB b = true) : (vecB a && vecB b && vecB ⟨a.A - b.A, a.B - b.B, a.C - b.C⟩) = fitsB b a ∧ validV a b ⟨a.A - b.A, a.B - b.B, a.C - b.C⟩ = subV a b := by
  have h1 := vecB_iffT.1 ha
  have h2 := vecB_iffT.1 hb
  have e : vecB ⟨a.A - b.A, a.B - b.B, a.C - b.C⟩ = decide (b.A ≤ a.A ∧ b.B ≤ a.B ∧ b.C ≤ a.C) := by
    unfold vecB
    rw [decide_eq_decide]
    simp only []
    omega
  have e2 : (vecB a && vecB b && vecB ⟨a.A - b.A, a.B - b.B, a.C - b.C⟩) = fitsB b a := by
    rw [e]; unfold fitsB; rw [ha, hb]
  refine ⟨e2, ?_⟩
  unfold validV subV
  rw [e2]
theorem sub_bad {a b c : Vec} (h : (vecB a && vecB b) = false) : (vecB a && vecB b && vecB c) = false ∧ validV a b c = ⟨0, 0, 0⟩ ∧ fitsB b a = false ∧ subV a b = ⟨0, 0, 0⟩ := by
  have e : fitsB b a = false := by unfold fitsB; rw [Bool.and_comm (vecB b), h]; rfl
  refine ⟨by rw [h]; rfl, ?_, e, ?_⟩
  · unfold validV; rw [h]; rfl
  · unfold subV; rw [e]; rfl
set_option maxHeartbeats 4000000 in
theorem VecSub_c (a b : Vec) (w : World) : Calls Tryz.prog 115 #[.agg #[.int .i64 a.A, .int .i64 a.B, .int .i64 a.C], .agg #[.int .i64 b.A, .int .i64 b.B, .int .i64 b.C]] w (Ret w (.tuple #[.agg #[.int .i64 (subV a b).A, .int .i64 (subV a b).B, .int .i64 (subV a b).C], .bool (fitsB b a)])) := by
  have hV := Lib.hid (fun (c : Vec) (u : World) => valid_c a b c u)
  rcases Bool.eq_false_or_eq_true (vecB a && vecB b) with h1 | h1
  · rw [Bool.and_eq_true] at h1
    obtain ⟨e1, e2⟩ := sub_valid h1.1 h1.2
    have h2 := vecB_iffT.1 h1.1
    have h3 := vecB_iffT.1 h1.2
    have hC := Lib.hid (fun u => hV.out ⟨a.A - b.A, a.B - b.B, a.C - b.C⟩ u)
    rw [e1, e2] at hC
    have q1 : IntKind.i64.wrap (a.A - b.A) = a.A - b.A := IntWalk.i64_in _ ⟨by omega, by omega⟩
    have q2 : IntKind.i64.wrap (a.B - b.B) = a.B - b.B := IntWalk.i64_in _ ⟨by omega, by omega⟩
    have q3 : IntKind.i64.wrap (a.C - b.C) = a.C - b.C := IntWalk.i64_in _ ⟨by omega, by omega⟩
    clear h1 e1 e2 hV
    generalize subV a b = r at *
    generalize fitsB b a = f at *
    go_enter Tryz.func115, Tryz.ntmps115
    go_wp2_with fail
    refine (hC.out _).mono ?_
    rintro e w1 ⟨rfl, hb1⟩
    obtain ⟨hcr1, hfr1, hz1⟩ := hb1.rules
    (try simp at hz1)
    have hy1_w0 : w.heap.size < w1.heap.size := (by omega)
    have hy1_w1 : w.heap.size + 1 < w1.heap.size := (by omega)
    have hy1_w2 : w.heap.size + 1 + 1 < w1.heap.size := (by omega)
    have q0 := (hb1).cell (cell_box_at ((w.alloc (.cells #[.int .i64 a.A, .int .i64 a.B, .int .i64 a.C] 39)).alloc (.cells #[.int .i64 b.A, .int .i64 b.B, .int .i64 b.C] 39)) (w.heap.size + 1 + 1) (by simp) [.int .i64 0, .int .i64 0, .int .i64 0] 39 0 _ rfl)
    have q1 := (hb1).cell (cell_box_at ((w.alloc (.cells #[.int .i64 a.A, .int .i64 a.B, .int .i64 a.C] 39)).alloc (.cells #[.int .i64 b.A, .int .i64 b.B, .int .i64 b.C] 39)) (w.heap.size + 1 + 1) (by simp) [.int .i64 0, .int .i64 0, .int .i64 0] 39 1 _ rfl)
    have q2 := (hb1).cell (cell_box_at ((w.alloc (.cells #[.int .i64 a.A, .int .i64 a.B, .int .i64 a.C] 39)).alloc (.cells #[.int .i64 b.A, .int .i64 b.B, .int .i64 b.C] 39)) (w.heap.size + 1 + 1) (by simp) [.int .i64 0, .int .i64 0, .int .i64 0] 39 2 _ rfl)
    have qf0 := ((hb1).frozenEq (a := ⟨w.heap.size + 1 + 1, 0, none⟩) (by simp)).trans (frozen_box_at ((w.alloc (.cells #[.int .i64 a.A, .int .i64 a.B, .int .i64 a.C] 39)).alloc (.cells #[.int .i64 b.A, .int .i64 b.B, .int .i64 b.C] 39)) (w.heap.size + 1 + 1) (by simp) #[.int .i64 0, .int .i64 0, .int .i64 0] 39 0)
    have qf1 := ((hb1).frozenEq (a := ⟨w.heap.size + 1 + 1, 1, none⟩) (by simp)).trans (frozen_box_at ((w.alloc (.cells #[.int .i64 a.A, .int .i64 a.B, .int .i64 a.C] 39)).alloc (.cells #[.int .i64 b.A, .int .i64 b.B, .int .i64 b.C] 39)) (w.heap.size + 1 + 1) (by simp) #[.int .i64 0, .int .i64 0, .int .i64 0] 39 1)
    have qf2 := ((hb1).frozenEq (a := ⟨w.heap.size + 1 + 1, 2, none⟩) (by simp)).trans (frozen_box_at ((w.alloc (.cells #[.int .i64 a.A, .int .i64 a.B, .int .i64 a.C] 39)).alloc (.cells #[.int .i64 b.A, .int .i64 b.B, .int .i64 b.C] 39)) (w.heap.size + 1 + 1) (by simp) #[.int .i64 0, .int .i64 0, .int .i64 0] 39 2)
    go_wp2
    exact ret_is (by simp [results, Tryz.results115, go_sem, *]) rfl (by repeat (first | exact Ext.refl _ | assumption | apply Ext.alloc | apply Ext.drewN | apply Ext.drew | (refine Ext.setCell ?_ (by first | (simp; done) | (simp; omega) | omega) _) | (refine Ext.trans ?_ (by assumption))))
  · have hB := Lib.hid (fun (c : Vec) => sub_bad (c := c) h1)
    obtain ⟨_, _, e3, e4⟩ := hB.out ⟨0, 0, 0⟩
    have hC := Lib.hid (fun (c : Vec) (u : World) => show Calls Tryz.prog 99 #[.agg #[.int .i64 a.A, .int .i64 a.B, .int .i64 a.C], .agg #[.int .i64 b.A, .int .i64 b.B, .int .i64 b.C], .agg #[.int .i64 c.A, .int .i64 c.B, .int .i64 c.C]] u (Ret u (.tuple #[.agg #[.int .i64 0, .int .i64 0, .int .i64 0], .bool false])) by
      have := hV.out c u
      rw [(hB.out c).1, (hB.out c).2.1] at this
      exact this)
    rw [e3, e4]
    clear h1 hB e3 e4 hV
    go_enter Tryz.func115, Tryz.ntmps115
    go_wp2_with fail
    refine (hC.out ⟨_, _, _⟩ _).mono ?_
    rintro e w1 ⟨rfl, hb1⟩
    obtain ⟨hcr1, hfr1, hz1⟩ := hb1.rules
    (try simp at hz1)
    have hy1 : w.heap.size < w1.heap.size := by omega
    have hy2 : w.heap.size + 1 < w1.heap.size := by omega
    have hy3 : w.heap.size + 1 + 1 < w1.heap.size := by omega
    have q0 := (hb1).cell (cell_box_at ((w.alloc (.cells #[.int .i64 a.A, .int .i64 a.B, .int .i64 a.C] 39)).alloc (.cells #[.int .i64 b.A, .int .i64 b.B, .int .i64 b.C] 39)) (w.heap.size + 1 + 1) (by simp) [.int .i64 0, .int .i64 0, .int .i64 0] 39 0 _ rfl)
    have q1 := (hb1).cell (cell_box_at ((w.alloc (.cells #[.int .i64 a.A, .int .i64 a.B, .int .i64 a.C] 39)).alloc (.cells #[.int .i64 b.A, .int .i64 b.B, .int .i64 b.C] 39)) (w.heap.size + 1 + 1) (by simp) [.int .i64 0, .int .i64 0, .int .i64 0] 39 1 _ rfl)
    have q2 := (hb1).cell (cell_box_at ((w.alloc (.cells #[.int .i64 a.A, .int .i64 a.B, .int .i64 a.C] 39)).alloc (.cells #[.int .i64 b.A, .int .i64 b.B, .int .i64 b.C] 39)) (w.heap.size + 1 + 1) (by simp) [.int .i64 0, .int .i64 0, .int .i64 0] 39 2 _ rfl)
    have qf0 := ((hb1).frozenEq (a := ⟨w.heap.size + 1 + 1, 0, none⟩) (by simp)).trans (frozen_box_at ((w.alloc (.cells #[.int .i64 a.A, .int .i64 a.B, .int .i64 a.C] 39)).alloc (.cells #[.int .i64 b.A, .int .i64 b.B, .int .i64 b.C] 39)) (w.heap.size + 1 + 1) (by simp) #[.int .i64 0, .int .i64 0, .int .i64 0] 39 0)
    have qf1 := ((hb1).frozenEq (a := ⟨w.heap.size + 1 + 1, 1, none⟩) (by simp)).trans (frozen_box_at ((w.alloc (.cells #[.int .i64 a.A, .int .i64 a.B, .int .i64 a.C] 39)).alloc (.cells #[.int .i64 b.A, .int .i64 b.B, .int .i64 b.C] 39)) (w.heap.size + 1 + 1) (by simp) #[.int .i64 0, .int .i64 0, .int .i64 0] 39 1)
    have qf2 := ((hb1).frozenEq (a := ⟨w.heap.size + 1 + 1, 2, none⟩) (by simp)).trans (frozen_box_at ((w.alloc (.cells #[.int .i64 a.A, .int .i64 a.B, .int .i64 a.C] 39)).alloc (.cells #[.int .i64 b.A, .int .i64 b.B, .int .i64 b.C] 39)) (w.heap.size + 1 + 1) (by simp) #[.int .i64 0, .int .i64 0, .int .i64 0] 39 2)
    go_wp2
    exact ret_is (by simp [results, Tryz.results115, go_sem, *]) rfl (by repeat (first | exact Ext.refl _ | assumption | apply Ext.alloc | apply Ext.drewN | apply Ext.drew | (refine Ext.setCell ?_ (by first | (simp; done) | (simp; omega) | omega) _) | (refine Ext.trans ?_ (by assumption))))
theorem Take1_run (vs : Array Value) (u : World) : Sem.run Tryz.prog (callFunc 114 vs) u = .ok (.enter 114 vs) u := by
  simp [go_sem]
set_option maxHeartbeats 4000000 in
theorem Take1_c (x v : Vec) (b : Nat) (w : World) (hb : b < w.heap.size) (h0 : w.cell? ⟨b, 0, none⟩ = some (.int .i64 v.A)) (h1 : w.cell? ⟨b, 1, none⟩ = some (.int .i64 v.B)) (h2 : w.cell? ⟨b, 2, none⟩ = some (.int .i64 v.C)) : Calls Tryz.prog 114 #[.agg #[.int .i64 x.A, .int .i64 x.B, .int .i64 x.C], .pointer (some ⟨b, 0, none⟩)] w (Ret w (.tuple #[.agg #[.int .i64 (subV x v).A, .int .i64 (subV x v).B, .int .i64 (subV x v).C], .bool (fitsB v x)])) := by
  have hC := Lib.hid (fun u => VecSub_c x v u)
  generalize subV x v = r at *
  generalize fitsB v x = f at *
  go_enter Tryz.func114, Tryz.ntmps114
  go_wp2_with fail
  refine (hC.out _).mono ?_
  rintro e w1 ⟨rfl, hb1⟩
  obtain ⟨hcr1, hfr1, hz1⟩ := hb1.rules
  (try simp at hz1)
  have hy1_w0 : w.heap.size < w1.heap.size := (by omega)
  have hy1_w1 : w.heap.size + 1 < w1.heap.size := (by omega)
  have q0 := (hb1).cell (cell_box_at (w.alloc (.cells #[.int .i64 x.A, .int .i64 x.B, .int .i64 x.C] 39)) (w.heap.size + 1) (by simp) [.int .i64 0, .int .i64 0, .int .i64 0] 39 0 _ rfl)
  have q1 := (hb1).cell (cell_box_at (w.alloc (.cells #[.int .i64 x.A, .int .i64 x.B, .int .i64 x.C] 39)) (w.heap.size + 1) (by simp) [.int .i64 0, .int .i64 0, .int .i64 0] 39 1 _ rfl)
  have q2 := (hb1).cell (cell_box_at (w.alloc (.cells #[.int .i64 x.A, .int .i64 x.B, .int .i64 x.C] 39)) (w.heap.size + 1) (by simp) [.int .i64 0, .int .i64 0, .int .i64 0] 39 2 _ rfl)
  have qf0 := ((hb1).frozenEq (a := ⟨w.heap.size + 1, 0, none⟩) (by simp)).trans (frozen_box_at (w.alloc (.cells #[.int .i64 x.A, .int .i64 x.B, .int .i64 x.C] 39)) (w.heap.size + 1) (by simp) #[.int .i64 0, .int .i64 0, .int .i64 0] 39 0)
  have qf1 := ((hb1).frozenEq (a := ⟨w.heap.size + 1, 1, none⟩) (by simp)).trans (frozen_box_at (w.alloc (.cells #[.int .i64 x.A, .int .i64 x.B, .int .i64 x.C] 39)) (w.heap.size + 1) (by simp) #[.int .i64 0, .int .i64 0, .int .i64 0] 39 1)
  have qf2 := ((hb1).frozenEq (a := ⟨w.heap.size + 1, 2, none⟩) (by simp)).trans (frozen_box_at (w.alloc (.cells #[.int .i64 x.A, .int .i64 x.B, .int .i64 x.C] 39)) (w.heap.size + 1) (by simp) #[.int .i64 0, .int .i64 0, .int .i64 0] 39 2)
  go_wp2
  exact ret_is (by simp [results, Tryz.results114, go_sem, *]) rfl (by repeat (first | exact Ext.refl _ | assumption | apply Ext.alloc | apply Ext.drewN | apply Ext.drew | (refine Ext.setCell ?_ (by first | (simp; done) | (simp; omega) | omega) _) | (refine Ext.trans ?_ (by assumption))))
end Go.Proofs.YtfcffcgdbmkfgaaGreat
