/- Plain: a row of numbers. -/
import Derived.Test.YtdnbjmfngmahkaaDraw4
namespace Go.Proofs.Ytdnbjmfngmahkaa
open Go.RowKit
set_option linter.unusedVariables false
theorem ints_of {L : List Value} (hL : ∀ u ∈ L, ∃ x, u = .int .i64 x ∧ In64 x) : ∃ xs : List Int, xs.flatMap encInt = L ∧ xs.length = L.length ∧ ∀ y ∈ xs, In64 y := by
  induction L with
  | nil => exact ⟨[], rfl, rfl, fun y hy => by cases hy⟩
  | cons u r ih =>
    obtain ⟨x, rfl, hx⟩ := hL u (List.mem_cons_self ..)
    obtain ⟨xs, h1, h2, h3⟩ := ih (fun v hv => hL v (List.mem_cons_of_mem _ hv))
    refine ⟨x :: xs, by rw [List.flatMap_cons, h1]; rfl, by simp [h2], fun y hy => ?_⟩
    rcases List.mem_cons.1 hy with rfl | hy
    · exact hx
    · exact h3 y hy
theorem made_ints (n : Nat) : ∀ u ∈ (madeCells (Value.int .i64 0).cells n).toList, u = .int .i64 0 := by
  intro u hu
  simp [madeCells, Value.cells] at hu
  obtain ⟨a, _, h⟩ := hu
  rw [Nat.mod_one] at h
  exact h.symm
theorem made_set {n j : Nat} {x : Int} (hx : In64 x) : ∀ u ∈ ((madeCells (Value.int .i64 0).cells n).toList).set j (.int .i64 x), ∃ y, u = .int .i64 y ∧ In64 y := by
  intro u hu
  rcases List.mem_or_eq_of_mem_set hu with h | h
  · exact ⟨0, made_ints n u h, by unfold In64; omega⟩
  · exact ⟨x, h, hx⟩
end Go.Proofs.Ytdnbjmfngmahkaa
