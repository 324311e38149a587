/- Contracts over profiles: the reference's helpers. -/
import Derived.Test.YtbfambeoboiifaaOver2
import Derived.Deep.RegionHeld3
namespace Go.Proofs.Ytbfambeoboiifaa
open Go.RowKit
set_option linter.unusedVariables false
theorem l01Min_c (a b : Int) (w : World) : Calls Try.prog 44 #[.int .i64 a, .int .i64 b] w (Same w (.int .i64 (min b a))) := by
  by_cases h : a < b
  all_goals
    go_enter Try.func44, Try.ntmps44
    go_wp2
    exact same_int rfl rfl rfl (by omega)
/-- A vector and a bool, the vector not told. -/
def RetVB (w : World) (b : Bool) : Ending → World → Prop := fun e w' => ∃ v : Vec, e = .returned (.tuple #[.agg #[.int .i64 v.A, .int .i64 v.B, .int .i64 v.C], .bool b]) ∧ Ext w w'
def RetV (w : World) : Ending → World → Prop := fun e w' => ∃ v : Vec, e = .returned (.agg #[.int .i64 v.A, .int .i64 v.B, .int .i64 v.C]) ∧ Ext w w'
set_option maxHeartbeats 4000000 in
set_option maxRecDepth 10000 in
theorem sVecMin_c (a b : Vec) (w : World) : Calls Try.prog 101 #[.agg #[.int .i64 a.A, .int .i64 a.B, .int .i64 a.C], .agg #[.int .i64 b.A, .int .i64 b.B, .int .i64 b.C]] w (RetV w) := by
  have hA := Lib.hid (fun u : World => sVecOk_c a u)
  have hB := Lib.hid (fun u : World => sVecOk_c b u)
  rcases (Bool.eq_false_or_eq_true (vecB a)).symm with h1 | h1
  · rw [h1] at hA
    go_enter Try.func101, Try.ntmps101
    go_wp2_with fail
    refine (hA.out _).mono ?_
    rintro e w1 ⟨rfl, hb1⟩
    obtain ⟨hcr1, hfr1, hz1⟩ := hb1.rules
    (try simp at hz1)
    have hy1_w0 : w.heap.size < w1.heap.size := (by omega)
    have hy1_w1 : w.heap.size + 1 < w1.heap.size := (by omega)
    have hy1_w2 : w.heap.size + 1 + 1 < w1.heap.size := (by omega)
    have q0 := (hb1).cell (cell_box_at ((w.alloc (.cells #[.int .i64 a.A, .int .i64 a.B, .int .i64 a.C] 42)).alloc (.cells #[.int .i64 b.A, .int .i64 b.B, .int .i64 b.C] 42)) (w.heap.size + 1 + 1) (by simp) [.int .i64 0, .int .i64 0, .int .i64 0] 42 0 _ rfl)
    have q1 := (hb1).cell (cell_box_at ((w.alloc (.cells #[.int .i64 a.A, .int .i64 a.B, .int .i64 a.C] 42)).alloc (.cells #[.int .i64 b.A, .int .i64 b.B, .int .i64 b.C] 42)) (w.heap.size + 1 + 1) (by simp) [.int .i64 0, .int .i64 0, .int .i64 0] 42 1 _ rfl)
    have q2 := (hb1).cell (cell_box_at ((w.alloc (.cells #[.int .i64 a.A, .int .i64 a.B, .int .i64 a.C] 42)).alloc (.cells #[.int .i64 b.A, .int .i64 b.B, .int .i64 b.C] 42)) (w.heap.size + 1 + 1) (by simp) [.int .i64 0, .int .i64 0, .int .i64 0] 42 2 _ rfl)
    have qf0 := ((hb1).frozenEq (a := ⟨w.heap.size + 1 + 1, 0, none⟩) (by simp)).trans (frozen_box_at ((w.alloc (.cells #[.int .i64 a.A, .int .i64 a.B, .int .i64 a.C] 42)).alloc (.cells #[.int .i64 b.A, .int .i64 b.B, .int .i64 b.C] 42)) (w.heap.size + 1 + 1) (by simp) #[.int .i64 0, .int .i64 0, .int .i64 0] 42 0)
    have qf1 := ((hb1).frozenEq (a := ⟨w.heap.size + 1 + 1, 1, none⟩) (by simp)).trans (frozen_box_at ((w.alloc (.cells #[.int .i64 a.A, .int .i64 a.B, .int .i64 a.C] 42)).alloc (.cells #[.int .i64 b.A, .int .i64 b.B, .int .i64 b.C] 42)) (w.heap.size + 1 + 1) (by simp) #[.int .i64 0, .int .i64 0, .int .i64 0] 42 1)
    have qf2 := ((hb1).frozenEq (a := ⟨w.heap.size + 1 + 1, 2, none⟩) (by simp)).trans (frozen_box_at ((w.alloc (.cells #[.int .i64 a.A, .int .i64 a.B, .int .i64 a.C] 42)).alloc (.cells #[.int .i64 b.A, .int .i64 b.B, .int .i64 b.C] 42)) (w.heap.size + 1 + 1) (by simp) #[.int .i64 0, .int .i64 0, .int .i64 0] 42 2)
    go_wp2
    exact bodyPost_ret (by simp [results, Try.results101, go_sem, *]) rfl ⟨⟨0, 0, 0⟩, rfl, (by repeat (first | exact Ext.refl _ | assumption | apply Ext.alloc | apply Ext.drewN | apply Ext.drew | (refine Ext.setCell ?_ (by first | (simp; done) | (simp; omega) | omega) _) | (refine Ext.trans ?_ (by assumption))))⟩
  rcases (Bool.eq_false_or_eq_true (vecB b)).symm with h2 | h2
  · rw [h1] at hA
    rw [h2] at hB
    go_enter Try.func101, Try.ntmps101
    go_wp2_with fail
    refine (hA.out _).mono ?_
    rintro e w1 ⟨rfl, hb1⟩
    obtain ⟨hcr1, hfr1, hz1⟩ := hb1.rules
    (try simp at hz1)
    have hy1_w0 : w.heap.size < w1.heap.size := (by omega)
    have hy1_w1 : w.heap.size + 1 < w1.heap.size := (by omega)
    have hy1_w2 : w.heap.size + 1 + 1 < w1.heap.size := (by omega)
    have q0 := (hb1).cell (cell_box_at ((w.alloc (.cells #[.int .i64 a.A, .int .i64 a.B, .int .i64 a.C] 42)).alloc (.cells #[.int .i64 b.A, .int .i64 b.B, .int .i64 b.C] 42)) (w.heap.size + 1 + 1) (by simp) [.int .i64 0, .int .i64 0, .int .i64 0] 42 0 _ rfl)
    have q1 := (hb1).cell (cell_box_at ((w.alloc (.cells #[.int .i64 a.A, .int .i64 a.B, .int .i64 a.C] 42)).alloc (.cells #[.int .i64 b.A, .int .i64 b.B, .int .i64 b.C] 42)) (w.heap.size + 1 + 1) (by simp) [.int .i64 0, .int .i64 0, .int .i64 0] 42 1 _ rfl)
    have q2 := (hb1).cell (cell_box_at ((w.alloc (.cells #[.int .i64 a.A, .int .i64 a.B, .int .i64 a.C] 42)).alloc (.cells #[.int .i64 b.A, .int .i64 b.B, .int .i64 b.C] 42)) (w.heap.size + 1 + 1) (by simp) [.int .i64 0, .int .i64 0, .int .i64 0] 42 2 _ rfl)
    have qf0 := ((hb1).frozenEq (a := ⟨w.heap.size + 1 + 1, 0, none⟩) (by simp)).trans (frozen_box_at ((w.alloc (.cells #[.int .i64 a.A, .int .i64 a.B, .int .i64 a.C] 42)).alloc (.cells #[.int .i64 b.A, .int .i64 b.B, .int .i64 b.C] 42)) (w.heap.size + 1 + 1) (by simp) #[.int .i64 0, .int .i64 0, .int .i64 0] 42 0)
    have qf1 := ((hb1).frozenEq (a := ⟨w.heap.size + 1 + 1, 1, none⟩) (by simp)).trans (frozen_box_at ((w.alloc (.cells #[.int .i64 a.A, .int .i64 a.B, .int .i64 a.C] 42)).alloc (.cells #[.int .i64 b.A, .int .i64 b.B, .int .i64 b.C] 42)) (w.heap.size + 1 + 1) (by simp) #[.int .i64 0, .int .i64 0, .int .i64 0] 42 1)
    have qf2 := ((hb1).frozenEq (a := ⟨w.heap.size + 1 + 1, 2, none⟩) (by simp)).trans (frozen_box_at ((w.alloc (.cells #[.int .i64 a.A, .int .i64 a.B, .int .i64 a.C] 42)).alloc (.cells #[.int .i64 b.A, .int .i64 b.B, .int .i64 b.C] 42)) (w.heap.size + 1 + 1) (by simp) #[.int .i64 0, .int .i64 0, .int .i64 0] 42 2)
    have r0 := (((Ext.refl _).alloc _).trans hb1).cell (cell_box_at (w.alloc (.cells #[.int .i64 a.A, .int .i64 a.B, .int .i64 a.C] 42)) (w.heap.size + 1) (by simp) [.int .i64 b.A, .int .i64 b.B, .int .i64 b.C] 42 0 _ rfl)
    have r1 := (((Ext.refl _).alloc _).trans hb1).cell (cell_box_at (w.alloc (.cells #[.int .i64 a.A, .int .i64 a.B, .int .i64 a.C] 42)) (w.heap.size + 1) (by simp) [.int .i64 b.A, .int .i64 b.B, .int .i64 b.C] 42 1 _ rfl)
    have r2 := (((Ext.refl _).alloc _).trans hb1).cell (cell_box_at (w.alloc (.cells #[.int .i64 a.A, .int .i64 a.B, .int .i64 a.C] 42)) (w.heap.size + 1) (by simp) [.int .i64 b.A, .int .i64 b.B, .int .i64 b.C] 42 2 _ rfl)
    have rf0 := ((((Ext.refl _).alloc _).trans hb1).frozenEq (a := ⟨w.heap.size + 1, 0, none⟩) (by simp)).trans (frozen_box_at (w.alloc (.cells #[.int .i64 a.A, .int .i64 a.B, .int .i64 a.C] 42)) (w.heap.size + 1) (by simp) #[.int .i64 b.A, .int .i64 b.B, .int .i64 b.C] 42 0)
    have rf1 := ((((Ext.refl _).alloc _).trans hb1).frozenEq (a := ⟨w.heap.size + 1, 1, none⟩) (by simp)).trans (frozen_box_at (w.alloc (.cells #[.int .i64 a.A, .int .i64 a.B, .int .i64 a.C] 42)) (w.heap.size + 1) (by simp) #[.int .i64 b.A, .int .i64 b.B, .int .i64 b.C] 42 1)
    have rf2 := ((((Ext.refl _).alloc _).trans hb1).frozenEq (a := ⟨w.heap.size + 1, 2, none⟩) (by simp)).trans (frozen_box_at (w.alloc (.cells #[.int .i64 a.A, .int .i64 a.B, .int .i64 a.C] 42)) (w.heap.size + 1) (by simp) #[.int .i64 b.A, .int .i64 b.B, .int .i64 b.C] 42 2)
    go_wp2_with fail
    refine (hB.out _).mono ?_
    rintro e w2 ⟨rfl, hb2⟩
    have q0 := (hb1.trans hb2).cell (cell_box_at ((w.alloc (.cells #[.int .i64 a.A, .int .i64 a.B, .int .i64 a.C] 42)).alloc (.cells #[.int .i64 b.A, .int .i64 b.B, .int .i64 b.C] 42)) (w.heap.size + 1 + 1) (by simp) [.int .i64 0, .int .i64 0, .int .i64 0] 42 0 _ rfl)
    have q1 := (hb1.trans hb2).cell (cell_box_at ((w.alloc (.cells #[.int .i64 a.A, .int .i64 a.B, .int .i64 a.C] 42)).alloc (.cells #[.int .i64 b.A, .int .i64 b.B, .int .i64 b.C] 42)) (w.heap.size + 1 + 1) (by simp) [.int .i64 0, .int .i64 0, .int .i64 0] 42 1 _ rfl)
    have q2 := (hb1.trans hb2).cell (cell_box_at ((w.alloc (.cells #[.int .i64 a.A, .int .i64 a.B, .int .i64 a.C] 42)).alloc (.cells #[.int .i64 b.A, .int .i64 b.B, .int .i64 b.C] 42)) (w.heap.size + 1 + 1) (by simp) [.int .i64 0, .int .i64 0, .int .i64 0] 42 2 _ rfl)
    have qf0 := ((hb1.trans hb2).frozenEq (a := ⟨w.heap.size + 1 + 1, 0, none⟩) (by simp)).trans (frozen_box_at ((w.alloc (.cells #[.int .i64 a.A, .int .i64 a.B, .int .i64 a.C] 42)).alloc (.cells #[.int .i64 b.A, .int .i64 b.B, .int .i64 b.C] 42)) (w.heap.size + 1 + 1) (by simp) #[.int .i64 0, .int .i64 0, .int .i64 0] 42 0)
    have qf1 := ((hb1.trans hb2).frozenEq (a := ⟨w.heap.size + 1 + 1, 1, none⟩) (by simp)).trans (frozen_box_at ((w.alloc (.cells #[.int .i64 a.A, .int .i64 a.B, .int .i64 a.C] 42)).alloc (.cells #[.int .i64 b.A, .int .i64 b.B, .int .i64 b.C] 42)) (w.heap.size + 1 + 1) (by simp) #[.int .i64 0, .int .i64 0, .int .i64 0] 42 1)
    have qf2 := ((hb1.trans hb2).frozenEq (a := ⟨w.heap.size + 1 + 1, 2, none⟩) (by simp)).trans (frozen_box_at ((w.alloc (.cells #[.int .i64 a.A, .int .i64 a.B, .int .i64 a.C] 42)).alloc (.cells #[.int .i64 b.A, .int .i64 b.B, .int .i64 b.C] 42)) (w.heap.size + 1 + 1) (by simp) #[.int .i64 0, .int .i64 0, .int .i64 0] 42 2)
    go_wp2
    exact bodyPost_ret (by simp [results, Try.results101, go_sem, *]) rfl ⟨⟨0, 0, 0⟩, rfl, (by repeat (first | exact Ext.refl _ | assumption | apply Ext.alloc | apply Ext.drewN | apply Ext.drew | (refine Ext.setCell ?_ (by first | (simp; done) | (simp; omega) | omega) _) | (refine Ext.trans ?_ (by assumption))))⟩
  rw [h1] at hA
  rw [h2] at hB
  go_enter Try.func101, Try.ntmps101
  go_wp2_with fail
  refine (hA.out _).mono ?_
  rintro e w1 ⟨rfl, hb1⟩
  obtain ⟨hcr1, hfr1, hz1⟩ := hb1.rules
  (try simp at hz1)
  have hy1_w0 : w.heap.size < w1.heap.size := (by omega)
  have hy1_w1 : w.heap.size + 1 < w1.heap.size := (by omega)
  have hy1_w2 : w.heap.size + 1 + 1 < w1.heap.size := (by omega)
  have r0 := (((Ext.refl _).alloc _).trans hb1).cell (cell_box_at (w.alloc (.cells #[.int .i64 a.A, .int .i64 a.B, .int .i64 a.C] 42)) (w.heap.size + 1) (by simp) [.int .i64 b.A, .int .i64 b.B, .int .i64 b.C] 42 0 _ rfl)
  have r1 := (((Ext.refl _).alloc _).trans hb1).cell (cell_box_at (w.alloc (.cells #[.int .i64 a.A, .int .i64 a.B, .int .i64 a.C] 42)) (w.heap.size + 1) (by simp) [.int .i64 b.A, .int .i64 b.B, .int .i64 b.C] 42 1 _ rfl)
  have r2 := (((Ext.refl _).alloc _).trans hb1).cell (cell_box_at (w.alloc (.cells #[.int .i64 a.A, .int .i64 a.B, .int .i64 a.C] 42)) (w.heap.size + 1) (by simp) [.int .i64 b.A, .int .i64 b.B, .int .i64 b.C] 42 2 _ rfl)
  have rf0 := ((((Ext.refl _).alloc _).trans hb1).frozenEq (a := ⟨w.heap.size + 1, 0, none⟩) (by simp)).trans (frozen_box_at (w.alloc (.cells #[.int .i64 a.A, .int .i64 a.B, .int .i64 a.C] 42)) (w.heap.size + 1) (by simp) #[.int .i64 b.A, .int .i64 b.B, .int .i64 b.C] 42 0)
  have rf1 := ((((Ext.refl _).alloc _).trans hb1).frozenEq (a := ⟨w.heap.size + 1, 1, none⟩) (by simp)).trans (frozen_box_at (w.alloc (.cells #[.int .i64 a.A, .int .i64 a.B, .int .i64 a.C] 42)) (w.heap.size + 1) (by simp) #[.int .i64 b.A, .int .i64 b.B, .int .i64 b.C] 42 1)
  have rf2 := ((((Ext.refl _).alloc _).trans hb1).frozenEq (a := ⟨w.heap.size + 1, 2, none⟩) (by simp)).trans (frozen_box_at (w.alloc (.cells #[.int .i64 a.A, .int .i64 a.B, .int .i64 a.C] 42)) (w.heap.size + 1) (by simp) #[.int .i64 b.A, .int .i64 b.B, .int .i64 b.C] 42 2)
  go_wp2_with fail
  refine (hB.out _).mono ?_
  rintro e w2 ⟨rfl, hb2⟩
  obtain ⟨hcr2, hfr2, hz2⟩ := hb2.rules
  (try simp at hz2)
  have hy2_w0 : w.heap.size < w2.heap.size := (by omega)
  have hy2_w1 : w.heap.size + 1 < w2.heap.size := (by omega)
  have hy2_w2 : w.heap.size + 1 + 1 < w2.heap.size := (by omega)
  have p0 := ((((Ext.refl _).alloc _).alloc _).trans (hb1.trans hb2)).cell (cell_box_at w (w.heap.size) (by simp) [.int .i64 a.A, .int .i64 a.B, .int .i64 a.C] 42 0 _ rfl)
  have p1 := ((((Ext.refl _).alloc _).alloc _).trans (hb1.trans hb2)).cell (cell_box_at w (w.heap.size) (by simp) [.int .i64 a.A, .int .i64 a.B, .int .i64 a.C] 42 1 _ rfl)
  have p2 := ((((Ext.refl _).alloc _).alloc _).trans (hb1.trans hb2)).cell (cell_box_at w (w.heap.size) (by simp) [.int .i64 a.A, .int .i64 a.B, .int .i64 a.C] 42 2 _ rfl)
  have pf0 := (((((Ext.refl _).alloc _).alloc _).trans (hb1.trans hb2)).frozenEq (a := ⟨w.heap.size, 0, none⟩) (by simp)).trans (frozen_box_at w (w.heap.size) (by simp) #[.int .i64 a.A, .int .i64 a.B, .int .i64 a.C] 42 0)
  have pf1 := (((((Ext.refl _).alloc _).alloc _).trans (hb1.trans hb2)).frozenEq (a := ⟨w.heap.size, 1, none⟩) (by simp)).trans (frozen_box_at w (w.heap.size) (by simp) #[.int .i64 a.A, .int .i64 a.B, .int .i64 a.C] 42 1)
  have pf2 := (((((Ext.refl _).alloc _).alloc _).trans (hb1.trans hb2)).frozenEq (a := ⟨w.heap.size, 2, none⟩) (by simp)).trans (frozen_box_at w (w.heap.size) (by simp) #[.int .i64 a.A, .int .i64 a.B, .int .i64 a.C] 42 2)
  have r0 := (((Ext.refl _).alloc _).trans (hb1.trans hb2)).cell (cell_box_at (w.alloc (.cells #[.int .i64 a.A, .int .i64 a.B, .int .i64 a.C] 42)) (w.heap.size + 1) (by simp) [.int .i64 b.A, .int .i64 b.B, .int .i64 b.C] 42 0 _ rfl)
  have r1 := (((Ext.refl _).alloc _).trans (hb1.trans hb2)).cell (cell_box_at (w.alloc (.cells #[.int .i64 a.A, .int .i64 a.B, .int .i64 a.C] 42)) (w.heap.size + 1) (by simp) [.int .i64 b.A, .int .i64 b.B, .int .i64 b.C] 42 1 _ rfl)
  have r2 := (((Ext.refl _).alloc _).trans (hb1.trans hb2)).cell (cell_box_at (w.alloc (.cells #[.int .i64 a.A, .int .i64 a.B, .int .i64 a.C] 42)) (w.heap.size + 1) (by simp) [.int .i64 b.A, .int .i64 b.B, .int .i64 b.C] 42 2 _ rfl)
  have rf0 := ((((Ext.refl _).alloc _).trans (hb1.trans hb2)).frozenEq (a := ⟨w.heap.size + 1, 0, none⟩) (by simp)).trans (frozen_box_at (w.alloc (.cells #[.int .i64 a.A, .int .i64 a.B, .int .i64 a.C] 42)) (w.heap.size + 1) (by simp) #[.int .i64 b.A, .int .i64 b.B, .int .i64 b.C] 42 0)
  have rf1 := ((((Ext.refl _).alloc _).trans (hb1.trans hb2)).frozenEq (a := ⟨w.heap.size + 1, 1, none⟩) (by simp)).trans (frozen_box_at (w.alloc (.cells #[.int .i64 a.A, .int .i64 a.B, .int .i64 a.C] 42)) (w.heap.size + 1) (by simp) #[.int .i64 b.A, .int .i64 b.B, .int .i64 b.C] 42 1)
  have rf2 := ((((Ext.refl _).alloc _).trans (hb1.trans hb2)).frozenEq (a := ⟨w.heap.size + 1, 2, none⟩) (by simp)).trans (frozen_box_at (w.alloc (.cells #[.int .i64 a.A, .int .i64 a.B, .int .i64 a.C] 42)) (w.heap.size + 1) (by simp) #[.int .i64 b.A, .int .i64 b.B, .int .i64 b.C] 42 2)
  have q0 := (hb1.trans hb2).cell (cell_box_at ((w.alloc (.cells #[.int .i64 a.A, .int .i64 a.B, .int .i64 a.C] 42)).alloc (.cells #[.int .i64 b.A, .int .i64 b.B, .int .i64 b.C] 42)) (w.heap.size + 1 + 1) (by simp) [.int .i64 0, .int .i64 0, .int .i64 0] 42 0 _ rfl)
  have q1 := (hb1.trans hb2).cell (cell_box_at ((w.alloc (.cells #[.int .i64 a.A, .int .i64 a.B, .int .i64 a.C] 42)).alloc (.cells #[.int .i64 b.A, .int .i64 b.B, .int .i64 b.C] 42)) (w.heap.size + 1 + 1) (by simp) [.int .i64 0, .int .i64 0, .int .i64 0] 42 1 _ rfl)
  have q2 := (hb1.trans hb2).cell (cell_box_at ((w.alloc (.cells #[.int .i64 a.A, .int .i64 a.B, .int .i64 a.C] 42)).alloc (.cells #[.int .i64 b.A, .int .i64 b.B, .int .i64 b.C] 42)) (w.heap.size + 1 + 1) (by simp) [.int .i64 0, .int .i64 0, .int .i64 0] 42 2 _ rfl)
  have qf0 := ((hb1.trans hb2).frozenEq (a := ⟨w.heap.size + 1 + 1, 0, none⟩) (by simp)).trans (frozen_box_at ((w.alloc (.cells #[.int .i64 a.A, .int .i64 a.B, .int .i64 a.C] 42)).alloc (.cells #[.int .i64 b.A, .int .i64 b.B, .int .i64 b.C] 42)) (w.heap.size + 1 + 1) (by simp) #[.int .i64 0, .int .i64 0, .int .i64 0] 42 0)
  have qf1 := ((hb1.trans hb2).frozenEq (a := ⟨w.heap.size + 1 + 1, 1, none⟩) (by simp)).trans (frozen_box_at ((w.alloc (.cells #[.int .i64 a.A, .int .i64 a.B, .int .i64 a.C] 42)).alloc (.cells #[.int .i64 b.A, .int .i64 b.B, .int .i64 b.C] 42)) (w.heap.size + 1 + 1) (by simp) #[.int .i64 0, .int .i64 0, .int .i64 0] 42 1)
  have qf2 := ((hb1.trans hb2).frozenEq (a := ⟨w.heap.size + 1 + 1, 2, none⟩) (by simp)).trans (frozen_box_at ((w.alloc (.cells #[.int .i64 a.A, .int .i64 a.B, .int .i64 a.C] 42)).alloc (.cells #[.int .i64 b.A, .int .i64 b.B, .int .i64 b.C] 42)) (w.heap.size + 1 + 1) (by simp) #[.int .i64 0, .int .i64 0, .int .i64 0] 42 2)
  go_wp2
  have HS := Lib.hid (show (w2.drew.cell? ⟨w.heap.size, 0, none⟩ = some (.int .i64 a.A) ∧ w2.drew.cell? ⟨w.heap.size, 1, none⟩ = some (.int .i64 a.B) ∧ w2.drew.cell? ⟨w.heap.size, 2, none⟩ = some (.int .i64 a.C) ∧ w2.drew.cell? ⟨w.heap.size + 1, 0, none⟩ = some (.int .i64 b.A) ∧ w2.drew.cell? ⟨w.heap.size + 1, 1, none⟩ = some (.int .i64 b.B) ∧ w2.drew.cell? ⟨w.heap.size + 1, 2, none⟩ = some (.int .i64 b.C)) from ⟨p0, p1, p2, r0, r1, r2⟩)
  go_region_held3 (fun u => u.cell? ⟨w.heap.size, 0, none⟩ = some (.int .i64 a.A) ∧ u.cell? ⟨w.heap.size, 1, none⟩ = some (.int .i64 a.B) ∧ u.cell? ⟨w.heap.size, 2, none⟩ = some (.int .i64 a.C) ∧ u.cell? ⟨w.heap.size + 1, 0, none⟩ = some (.int .i64 b.A) ∧ u.cell? ⟨w.heap.size + 1, 1, none⟩ = some (.int .i64 b.B) ∧ u.cell? ⟨w.heap.size + 1, 2, none⟩ = some (.int .i64 b.C)) ((first | (with_reducible exact HS.out) | (refine ⟨?_, ?_, ?_, ?_, ?_, ?_⟩ <;> first | assumption | go_simp))) (first | (go_at_call 44; (with_reducible refine (l01Min_c _ _ _).mono ?_); rintro e w3 ⟨rfl, rfl⟩))
  go_wp2
  exact bodyPost_ret (by simp [results, Try.results101, go_sem, *]) rfl ⟨⟨min b.A a.A, min b.B a.B, min b.C a.C⟩, rfl, (by repeat (first | exact Ext.refl _ | assumption | apply Ext.alloc | apply Ext.drewN | apply Ext.drew | (refine Ext.setCell ?_ (by first | (simp; done) | (simp; omega) | omega) _) | (refine Ext.trans ?_ (by assumption))))⟩
end Go.Proofs.Ytbfambeoboiifaa
