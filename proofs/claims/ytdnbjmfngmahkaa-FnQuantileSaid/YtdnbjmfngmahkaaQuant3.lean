/- The law on the k-th least of a list, in plain words: for FnQuantile. -/
import Derived.Test.YtdnbjmfngmahkaaQuant
namespace Go.Proofs.Ytdnbjmfngmahkaa
open Go.RowKit
set_option linter.unusedVariables false
theorem quant_at {l : List Int} (hT : timesB l = true) {i : Nat} (hi : i < l.length) : ∃ h : i < (l.mergeSort leI).length, quantI l ((i : Int) + 1) = (l.mergeSort leI)[i] := by
  have hl : (l.mergeSort leI).length = l.length := (sort_perm l).length_eq
  refine ⟨by omega, ?_⟩
  unfold quantI
  rw [if_pos ⟨hT, by unfold withinB; rw [decide_eq_true_iff]; omega⟩, show ((i : Int) + 1 - 1).toNat = i by omega, List.getD_eq_getElem?_getD, List.getElem?_eq_getElem (by omega)]; rfl
theorem quant_mono {l : List Int} (hT : timesB l = true) {i j : Nat} (hij : i ≤ j) (hj : j < l.length) : quantI l ((i : Int) + 1) ≤ quantI l ((j : Int) + 1) := by
  obtain ⟨h1, e1⟩ := quant_at hT (show i < l.length by omega)
  obtain ⟨h2, e2⟩ := quant_at hT hj
  rw [e1, e2]
  rcases Nat.eq_or_lt_of_le hij with rfl | h
  · exact Int.le_refl _
  · exact List.pairwise_iff_getElem.1 (sort_pair l) i j h1 h2 h
theorem sum_low {s : List Int} {a : Int} (h : ∀ x ∈ s, a ≤ x) : s.length * a ≤ s.sum := by
  induction s with
  | nil => simp
  | cons x r ih =>
    have h1 := h x (List.mem_cons_self ..)
    have h2 := ih (fun y hy => h y (List.mem_cons_of_mem _ hy))
    rw [List.length_cons, List.sum_cons, Int.natCast_succ, Int.add_mul, Int.one_mul]; omega
theorem sum_high {s : List Int} {a : Int} (h : ∀ x ∈ s, x ≤ a) : s.sum ≤ s.length * a := by
  induction s with
  | nil => simp
  | cons x r ih =>
    have h1 := h x (List.mem_cons_self ..)
    have h2 := ih (fun y hy => h y (List.mem_cons_of_mem _ hy))
    rw [List.length_cons, List.sum_cons, Int.natCast_succ, Int.add_mul, Int.one_mul]; omega
theorem quant_bounds {l : List Int} (hT : timesB l = true) (h0 : 0 < l.length) : ∀ x ∈ l, quantI l 1 ≤ x ∧ x ≤ quantI l l.length := by
  intro x hx
  obtain ⟨j, hj, e⟩ := List.getElem_of_mem ((sort_perm l).mem_iff.2 hx)
  have hl : (l.mergeSort leI).length = l.length := (sort_perm l).length_eq
  obtain ⟨h2, e2⟩ := quant_at hT (show j < l.length by omega)
  have m1 := quant_mono hT (Nat.zero_le j) (show j < l.length by omega)
  have m2 := quant_mono hT (show j ≤ l.length - 1 by omega) (show l.length - 1 < l.length by omega)
  rw [e2, e] at m1 m2
  rw [show (((l.length - 1 : Nat)) : Int) + 1 = l.length by omega] at m2
  exact ⟨by simpa using m1, m2⟩
theorem quant_mean {l : List Int} (hT : timesB l = true) (h0 : 0 < l.length) : quantI l 1 ≤ meanI l ∧ meanI l ≤ quantI l l.length := by
  have hb := quant_bounds hT h0
  have h1 := sum_low (fun x hx => (hb x hx).1)
  have h2 := sum_high (fun x hx => (hb x hx).2)
  unfold meanI
  rw [if_pos ⟨hT, fun e => by rw [e] at h0; simp at h0⟩]
  have hp : (0 : Int) < l.length := by omega
  constructor
  · rw [Int.le_ediv_iff_mul_le hp, Int.mul_comm]; exact h1
  · exact Int.ediv_le_of_le_mul hp (by rw [Int.mul_comm]; exact h2)
end Go.Proofs.Ytdnbjmfngmahkaa
