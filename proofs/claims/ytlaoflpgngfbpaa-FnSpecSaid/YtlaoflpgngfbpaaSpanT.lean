/- Contracts: a span out of a text, the reference's way. -/
import Derived.Test.YtlaoflpgngfbpaaTwoC
namespace Go.Proofs.Ytlaoflpgngfbpaa
open Go.RowKit
set_option linter.unusedVariables false
theorem owns_box3 (w : World) (a b c : Value) (e : TypeId) : (w.alloc (.cells #[a, b, c] e)).ownsRow w.heap.size e 3 (.slice (some ⟨w.heap.size, 0, none⟩) 1 1) 1 [a, b, c] :=
  World.ownsRow_lit w #[a, b, c] 1 (Nat.le_refl _) (by unfold maxLen; omega) (by simp)
theorem box3_cells {w : World} {base b : Nat} {e : TypeId} {u0 u1 u2 : Value} (h : w.ownsRow base e 3 (.slice (some ⟨b, 0, none⟩) 1 1) 1 [u0, u1, u2]) : w.cell? ⟨b, 0, none⟩ = some u0 ∧ w.cell? ⟨b, 1, none⟩ = some u1 ∧ w.cell? ⟨b, 2, none⟩ = some u2 ∧ w.frozen? ⟨b, 0, none⟩ = false ∧ w.frozen? ⟨b, 1, none⟩ = false ∧ w.frozen? ⟨b, 2, none⟩ = false ∧ b < w.heap.size :=
  ⟨by rw [h.cellAt 0 (by omega)]; rfl, by rw [h.cellAt 1 (by omega)]; rfl, by rw [h.cellAt 2 (by omega)]; rfl, h.frozenAt 0, h.frozenAt 1, h.frozenAt 2, (h.lt b rfl).2⟩
theorem box_far {w : World} {lo n : Nat} {e : TypeId} {sz : Nat} {v : Value} {L : List Value} {g p : Nat} {u : Value} (h : w.ownsRow lo e sz v n L) (hne : v.ownBlock ≠ some g) : (w.setCell ⟨g, p, none⟩ u).ownsRow lo e sz v n L := by
  obtain ⟨h1, h2⟩ := h
  refine ⟨h1, ?_⟩
  rcases h2 with h2 | ⟨b, cap, cur, rfl, hg, hh, r⟩
  · exact .inl h2
  · refine .inr ⟨b, cap, cur, rfl, hg, (Below.heap_setCell _ _ _ _ (fun e => hne ?_)).trans hh, r⟩
    simp only [] at e
    rw [e]; rfl
end Go.Proofs.Ytlaoflpgngfbpaa
