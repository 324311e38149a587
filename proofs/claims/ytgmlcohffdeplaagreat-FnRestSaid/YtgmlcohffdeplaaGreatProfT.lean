/- Contracts: vectors less vectors, the given way; what a closure takes. -/
import Derived.Test.YtgmlcohffdeplaaGreatProfF
namespace Go.Proofs.YtgmlcohffdeplaaGreat
open Go.RowKit
set_option linter.unusedVariables false
theorem vecB_iffT {v : Vec} : vecB v = true ↔ (0 ≤ v.A ∧ v.A ≤ 1000000) ∧ (0 ≤ v.B ∧ v.B ≤ 1000000) ∧ (0 ≤ v.C ∧ v.C ≤ 1000000) := by unfold vecB; rw [decide_eq_true_iff]
theorem sub_valid {a b : Vec} (ha : vecB a = true) (hb : vecB b = true) : (vecB a && vecB b && vecB ⟨a.A - b.A, a.B - b.B, a.C - b.C⟩) = fitsB b a ∧ validV a b ⟨a.A - b.A, a.B - b.B, a.C - b.C⟩ = subV a b := by
  have h1 := vecB_iffT.1 ha
  have h2 := vecB_iffT.1 hb
  have e : vecB ⟨a.A - b.A, a.B - b.B, a.C - b.C⟩ = decide (b.A ≤ a.A ∧ b.B ≤ a.B ∧ b.C ≤ a.C) := by
    unfold vecB
    rw [decide_eq_decide]
    simp only []
    omega
  have e2 : (vecB a && vecB b && vecB ⟨a.A - b.A, a.B - b.B, a.C - b.C⟩) = fitsB b a := by
    rw [e]; unfold fitsB; rw [ha, hb]
  refine ⟨e2, ?_⟩
  unfold validV subV
  rw [e2]
theorem sub_bad {a b c : Vec} (h : (vecB a && vecB b) = false) : (vecB a && vecB b && vecB c) = false ∧ validV a b c = ⟨0, 0, 0⟩ ∧ fitsB b a = false ∧ subV a b = ⟨0, 0, 0⟩ := by
  have e : fitsB b a = false := by unfold fitsB; rw [Bool.and_comm (vecB b), h]; rfl
  refine ⟨by rw [h]; rfl, ?_, e, ?_⟩
  · unfold validV; rw [h]; rfl
  · unfold subV; rw [e]; rfl
end Go.Proofs.YtgmlcohffdeplaaGreat
