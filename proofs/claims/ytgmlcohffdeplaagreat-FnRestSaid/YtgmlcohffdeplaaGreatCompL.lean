/- What is left of a rising list without what comes twice: plain words. -/
import Derived.Test.YtgmlcohffdeplaaGreatArea
import Derived.Lib.SlicesCompact
namespace Go.Proofs.YtgmlcohffdeplaaGreat
open Go.RowKit
set_option linter.unusedVariables false
theorem comp_inv (zs : List Int) (hs : zs.Pairwise (· ≤ ·)) : ∀ m, m ≤ zs.length → (Lib.compactUpTo zs.toArray m).Pairwise (· < ·) ∧ ∀ y, y ∈ Lib.compactUpTo zs.toArray m ↔ ∃ j, j < m ∧ zs[j]? = some y := by
  intro m
  induction m with
  | zero => intro _; exact ⟨by simp [Lib.compactUpTo], fun y => by simp [Lib.compactUpTo]⟩
  | succ m ih =>
    intro hm
    obtain ⟨h1, h2⟩ := ih (by omega)
    have hl : m < zs.length := by omega
    have e0 : zs.toArray[m]! = zs[m] := by simp [hl]
    rw [Lib.compactUpTo_succ, e0]
    have hle : ∀ i j (hi : i < zs.length) (hj : j < zs.length), i ≤ j → zs[i] ≤ zs[j] := fun i j hi hj hij => by
      rcases Nat.lt_or_ge i j with h | h
      · exact List.pairwise_iff_getElem.1 hs i j hi hj h
      · have : i = j := by omega
        subst this; exact Int.le_refl _
    by_cases hk : Lib.keeps zs.toArray m = true
    · rw [if_pos hk]
      have hlt : ∀ y ∈ Lib.compactUpTo zs.toArray m, y < zs[m] := fun y hy => by
        obtain ⟨j, hj, hy⟩ := (h2 y).1 hy
        obtain ⟨hj2, rfl⟩ := List.getElem?_eq_some_iff.1 hy
        have hm0 : m ≠ 0 := by omega
        have hne : zs[m] ≠ zs[m - 1] := by
          intro e
          unfold Lib.keeps at hk
          simp [hm0, hl, show m - 1 < zs.length by omega, e] at hk
        have a1 := hle j (m - 1) hj2 (by omega) (by omega)
        have a2 := hle (m - 1) m (by omega) hl (by omega)
        omega
      refine ⟨?_, fun y => ?_⟩
      · rw [List.pairwise_append]
        exact ⟨h1, List.pairwise_singleton _ _, fun y hy z hz => by rw [List.mem_singleton.1 hz]; exact hlt y hy⟩
      · rw [List.mem_append, h2 y, List.mem_singleton]
        constructor
        · rintro (⟨j, hj, hy⟩ | rfl)
          · exact ⟨j, by omega, hy⟩
          · exact ⟨m, by omega, List.getElem?_eq_getElem hl⟩
        · rintro ⟨j, hj, hy⟩
          rcases Nat.lt_or_ge j m with hjm | hjm
          · exact .inl ⟨j, hjm, hy⟩
          · have : j = m := by omega
            subst this
            rw [List.getElem?_eq_getElem hl] at hy
            injection hy with hy
            exact .inr hy.symm
    · rw [if_neg hk, List.append_nil]
      refine ⟨h1, fun y => ?_⟩
      rw [h2 y]
      constructor
      · rintro ⟨j, hj, hy⟩; exact ⟨j, by omega, hy⟩
      · rintro ⟨j, hj, hy⟩
        rcases Nat.lt_or_ge j m with hjm | hjm
        · exact ⟨j, hjm, hy⟩
        · have : j = m := by omega
          subst this
          have hj0 : j ≠ 0 := fun e => by subst e; exact hk (by simp [Lib.keeps])
          have he : zs[j] = zs[j - 1] := by
            by_cases e : zs[j] = zs[j - 1]
            · exact e
            · exfalso; apply hk
              unfold Lib.keeps
              simp [hj0, hl, show j - 1 < zs.length by omega, e]
          rw [List.getElem?_eq_getElem hl, he] at hy
          exact ⟨j - 1, by omega, by rw [List.getElem?_eq_getElem (by omega)]; exact hy⟩
theorem strict_unique : ∀ {a b : List Int}, a.Pairwise (· < ·) → b.Pairwise (· < ·) → (∀ y, y ∈ a ↔ y ∈ b) → a = b := by
  intro a
  induction a with
  | nil =>
    intro b _ _ h
    cases b with
    | nil => rfl
    | cons x r => exact absurd ((h x).2 (List.mem_cons_self ..)) (by simp)
  | cons x r ih =>
    intro b ha hb h
    cases b with
    | nil => exact absurd ((h x).1 (List.mem_cons_self ..)) (by simp)
    | cons y q =>
      obtain ⟨a1, a2⟩ := List.pairwise_cons.1 ha
      obtain ⟨b1, b2⟩ := List.pairwise_cons.1 hb
      have hxy : x = y := by
        rcases List.mem_cons.1 ((h x).1 (List.mem_cons_self ..)) with e | e
        · exact e
        · rcases List.mem_cons.1 ((h y).2 (List.mem_cons_self ..)) with e2 | e2
          · exact e2.symm
          · have := b1 x e; have := a1 y e2; omega
      subst hxy
      congr 1
      refine ih a2 b2 (fun z => ?_)
      constructor
      · intro hz
        rcases List.mem_cons.1 ((h z).1 (List.mem_cons_of_mem _ hz)) with e | e
        · subst e; have := a1 z hz; omega
        · exact e
      · intro hz
        rcases List.mem_cons.1 ((h z).2 (List.mem_cons_of_mem _ hz)) with e | e
        · subst e; have := b1 z hz; omega
        · exact e
def leT (x y : Int) : Bool := decide (x ≤ y)
theorem sorted_le (l : List Int) : (l.mergeSort leT).Pairwise (· ≤ ·) := by
  have := List.pairwise_mergeSort (le := leT) (fun a b c h1 h2 => by unfold leT at *; simp at *; omega) (fun a b => by unfold leT; simp; omega) l
  exact this.imp (fun h => by unfold leT at h; simpa using h)
theorem times_comp {l : List Pt} (fr to : Int) (h : l.Pairwise (fun a b => a.At < b.At)) : Lib.compact ((fr :: to :: l.map Pt.At).mergeSort leT) = timesL l fr to := by
  have hi := comp_inv _ (sorted_le (fr :: to :: l.map Pt.At)) _ (Nat.le_refl _)
  refine strict_unique hi.1 (timesL_sorted fr to h) (fun y => ?_)
  unfold Lib.compact
  rw [hi.2 y, timesL_mem]
  have hm : (∃ j, j < ((fr :: to :: l.map Pt.At).mergeSort leT).length ∧ ((fr :: to :: l.map Pt.At).mergeSort leT)[j]? = some y) ↔ y ∈ (fr :: to :: l.map Pt.At).mergeSort leT := by
    rw [List.mem_iff_getElem?]
    constructor
    · rintro ⟨j, _, h⟩; exact ⟨j, h⟩
    · rintro ⟨j, h⟩; exact ⟨j, (List.getElem?_eq_some_iff.1 h).1, h⟩
  rw [hm, List.mem_mergeSort, List.mem_cons, List.mem_cons, List.mem_map]
  constructor
  · rintro (rfl | rfl | h)
    · exact .inr (.inl rfl)
    · exact .inl rfl
    · exact .inr (.inr h)
  · rintro (rfl | rfl | h)
    · exact .inr (.inl rfl)
    · exact .inl rfl
    · exact .inr (.inr h)
end Go.Proofs.YtgmlcohffdeplaaGreat
