/- Lists whose neighbours are in order: plain. -/
import Derived.Test.YtgmlcohffdeplaaGreatBase
namespace Go.Proofs.YtgmlcohffdeplaaGreat
open Go.RowKit
def chainGo {α : Type} (ok : α → Bool) (lt : α → α → Bool) : Option α → List α → Bool
  | _, [] => true
  | none, d :: r => ok d && chainGo ok lt (some d) r
  | some q, d :: r => ok d && lt q d && chainGo ok lt (some d) r
def prevOf {α : Type} (l : List α) (k : Nat) : Option α := if k = 0 then none else l[k - 1]?
theorem prevOf_zero {α : Type} (l : List α) : prevOf l 0 = none := rfl
theorem prevOf_succ {α : Type} {l : List α} {k : Nat} {x : α} (h : l[k]? = some x) : prevOf l (k + 1) = some x := by simp [prevOf, h]
theorem chain_first {α : Type} {ok : α → Bool} {lt : α → α → Bool} {l : List α} {k : Nat} (h : k = 0) (d : α) (r : List α) : chainGo ok lt (prevOf l k) (d :: r) = (ok d && chainGo ok lt (some d) r) := by subst h; rfl
theorem chain_lt {α : Type} {ok : α → Bool} {lt : α → α → Bool} {l : List α} {k : Nat} {q d : α} (h : prevOf l k = some q) (hl : lt q d = true) (r : List α) : chainGo ok lt (prevOf l k) (d :: r) = (ok d && chainGo ok lt (some d) r) := by rw [h]; simp [chainGo, hl]
theorem chain_ge {α : Type} {ok : α → Bool} {lt : α → α → Bool} {l : List α} {k : Nat} {q d : α} (h : prevOf l k = some q) (hl : lt q d = false) (r : List α) : chainGo ok lt (prevOf l k) (d :: r) = false := by rw [h]; simp [chainGo, hl]
theorem chain_bad {α : Type} {ok : α → Bool} {lt : α → α → Bool} {d : α} (p : Option α) (h : ok d = false) (r : List α) : chainGo ok lt p (d :: r) = false := by cases p <;> simp [chainGo, h]
theorem chain_end {α : Type} {ok : α → Bool} {lt : α → α → Bool} (p : Option α) : chainGo ok lt p [] = true := by cases p <;> rfl
theorem chain_all {α : Type} {ok : α → Bool} {lt : α → α → Bool} (l : List α) : ∀ p : Option α, chainGo ok lt p l = true → ∀ x ∈ l, ok x = true := by
  induction l with
  | nil => intro p _ x hx; cases hx
  | cons a r ih =>
    intro p h x hx
    have h' : ok a = true ∧ chainGo ok lt (some a) r = true := by
      cases p <;> simp [chainGo] at h
      · exact h
      · exact ⟨h.1.1, h.2⟩
    rcases List.mem_cons.1 hx with rfl | hx
    · exact h'.1
    · exact ih _ h'.2 x hx
end Go.Proofs.YtgmlcohffdeplaaGreat
