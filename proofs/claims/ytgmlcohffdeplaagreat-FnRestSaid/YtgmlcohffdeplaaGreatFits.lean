/- Contracts over vectors: whether one fits; what is left. -/
import Derived.Test.YtgmlcohffdeplaaGreatSmall
namespace Go.Proofs.YtgmlcohffdeplaaGreat
open Go.RowKit
set_option linter.unusedVariables false
def fitsB (a b : Vec) : Bool := vecB a && vecB b && decide (a.A ≤ b.A ∧ a.B ≤ b.B ∧ a.C ≤ b.C)
def subV (a b : Vec) : Vec := if fitsB b a = true then ⟨a.A - b.A, a.B - b.B, a.C - b.C⟩ else ⟨0, 0, 0⟩
theorem vecB_iff {v : Vec} : vecB v = true ↔ (0 ≤ v.A ∧ v.A ≤ 1000000) ∧ (0 ≤ v.B ∧ v.B ≤ 1000000) ∧ (0 ≤ v.C ∧ v.C ≤ 1000000) := by unfold vecB; rw [decide_eq_true_iff]
theorem fits_iff {a b : Vec} : fitsB a b = true ↔ vecB a = true ∧ vecB b = true ∧ a.A ≤ b.A ∧ a.B ≤ b.B ∧ a.C ≤ b.C := by
  unfold fitsB; simp only [Bool.and_eq_true, decide_eq_true_iff, and_assoc]
set_option maxHeartbeats 1000000 in
theorem sVecFits_c (a b : Vec) (w : World) : Calls Tryz.prog 146 #[.agg #[.int .i64 a.A, .int .i64 a.B, .int .i64 a.C], .agg #[.int .i64 b.A, .int .i64 b.B, .int .i64 b.C]] w (Ret w (.bool (fitsB a b))) := by
  rcases (Bool.eq_false_or_eq_true (vecB a)).symm with h1 | h1
  · have HF := Lib.hid (show fitsB a b = false by unfold fitsB; rw [h1]; rfl)
    go_enter Tryz.func146, Tryz.ntmps146
    go_wp2_with fail
    refine (sVecOk_c a _).mono ?_
    rintro e w1 ⟨rfl, hb1⟩
    obtain ⟨hcr1, hfr1, hz1⟩ := hb1.rules
    (try simp at hz1)
    have hy1_w0 : w.heap.size < w1.heap.size := (by omega)
    have hy1_w1 : w.heap.size + 1 < w1.heap.size := (by omega)
    go_wp2
    exact ret_bool rfl rfl rfl HF.out.symm (by repeat (first | exact Ext.refl _ | assumption | apply Ext.alloc | apply Ext.drewN | apply Ext.drew | (refine Ext.setCell ?_ (by first | (simp; done) | (simp; omega) | omega) _) | (refine Ext.trans ?_ (by assumption))))
  rcases (Bool.eq_false_or_eq_true (vecB b)).symm with h2 | h2
  · have HF := Lib.hid (show fitsB a b = false by unfold fitsB; rw [h1, h2]; rfl)
    go_enter Tryz.func146, Tryz.ntmps146
    go_wp2_with fail
    refine (sVecOk_c a _).mono ?_
    rintro e w1 ⟨rfl, hb1⟩
    obtain ⟨hcr1, hfr1, hz1⟩ := hb1.rules
    (try simp at hz1)
    have hy1_w0 : w.heap.size < w1.heap.size := (by omega)
    have hy1_w1 : w.heap.size + 1 < w1.heap.size := (by omega)
    go_wp2_with fail
    refine (sVecOk_c b _).mono ?_
    rintro e w2 ⟨rfl, hb2⟩
    obtain ⟨hcr2, hfr2, hz2⟩ := hb2.rules
    (try simp at hz2)
    have hy2_w0 : w.heap.size < w2.heap.size := (by omega)
    have hy2_w1 : w.heap.size + 1 < w2.heap.size := (by omega)
    go_wp2
    exact ret_bool rfl rfl rfl HF.out.symm (by repeat (first | exact Ext.refl _ | assumption | apply Ext.alloc | apply Ext.drewN | apply Ext.drew | (refine Ext.setCell ?_ (by first | (simp; done) | (simp; omega) | omega) _) | (refine Ext.trans ?_ (by assumption))))
  · have HF := Lib.hid (show fitsB a b = decide (a.A ≤ b.A ∧ a.B ≤ b.B ∧ a.C ≤ b.C) by unfold fitsB; rw [h1, h2]; rfl)
    go_enter Tryz.func146, Tryz.ntmps146
    go_wp2_with fail
    refine (sVecOk_c a _).mono ?_
    rintro e w1 ⟨rfl, hb1⟩
    obtain ⟨hcr1, hfr1, hz1⟩ := hb1.rules
    (try simp at hz1)
    have hy1_w0 : w.heap.size < w1.heap.size := (by omega)
    have hy1_w1 : w.heap.size + 1 < w1.heap.size := (by omega)
    go_wp2_with fail
    refine (sVecOk_c b _).mono ?_
    rintro e w2 ⟨rfl, hb2⟩
    obtain ⟨hcr2, hfr2, hz2⟩ := hb2.rules
    (try simp at hz2)
    have hy2_w0 : w.heap.size < w2.heap.size := (by omega)
    have hy2_w1 : w.heap.size + 1 < w2.heap.size := (by omega)
    go_wp2
    all_goals (refine ret_bool rfl rfl rfl ?_ (by repeat (first | exact Ext.refl _ | assumption | apply Ext.alloc | apply Ext.drewN | apply Ext.drew | (refine Ext.setCell ?_ (by first | (simp; done) | (simp; omega) | omega) _) | (refine Ext.trans ?_ (by assumption)))); rw [HF.out]; first | (symm; rw [decide_eq_true_iff]; omega) | (symm; rw [decide_eq_false_iff_not]; omega) | (rw [decide_eq_decide]; omega))
end Go.Proofs.YtgmlcohffdeplaaGreat
