/- Waves, told one after the other: each behind what it waits for. Plain words. -/
import Derived.Test.YtgnbjnlcikpknaaWaveLaw
namespace Go.Proofs.Ytgnbjnlcikpknaa
open Go.RowKit
set_option linter.unusedVariables false
/-- One round of the law: none of the wave waits for one that isn't told. -/
def badD (x ids told : List Int) (d : Dep) : Bool := x.contains d.Id && ids.contains d.For && !told.contains d.For
def goodW (l : List Dep) (ids : List Int) : List Int → List (List Int) → Prop
  | told, [] => told.length = ids.length
  | told, x :: r => (∀ d ∈ l, badD x ids told d = false) ∧ goodW l ids (told ++ x) r
theorem goodW_of (l : List Dep) (ids : List Int) : ∀ (k : Nat) (told : List Int) (ys : List (List Int)), told.length + (leftOf ids told).length = ids.length → wavesF l k (leftOf ids told) = some ys → goodW l ids told ys := by
  intro k
  induction k with
  | zero =>
    intro told ys hs h
    cases hl : leftOf ids told with
    | nil => rw [hl] at h hs; simp [wavesF] at h; subst h; simpa [goodW] using hs
    | cons a r => rw [hl] at h; simp [wavesF] at h
  | succ k ih =>
    intro told ys hs h
    rcases Nat.eq_zero_or_pos (leftOf ids told).length with h0 | h0
    · have e : leftOf ids told = [] := List.eq_nil_of_length_eq_zero h0
      rw [e, wavesF_nil] at h; injection h with h; subst h
      simp only [goodW]; omega
    · rw [wavesF_some h0] at h
      by_cases hw : ((leftOf ids told).filter (freeW l (leftOf ids told))).length = 0
      · rw [if_pos hw] at h; cases h
      · rw [if_neg hw, ← left_next, ← wave_eq] at h
        cases hr : wavesF l k (leftOf ids (told ++ ids.filter (okW l ids told))) with
        | none => rw [hr] at h; cases h
        | some zs =>
          rw [hr] at h
          injection h with h; subst h
          have hsp := filter_split_len (freeW l (leftOf ids told)) (leftOf ids told)
          refine ⟨fun d hd => ?_, ih _ _ ?_ hr⟩
          · unfold badD
            by_cases hx : (ids.filter (okW l ids told)).contains d.Id = true
            · rw [List.contains_iff_mem, List.mem_filter] at hx
              have hk := hx.2
              unfold okW at hk
              rw [Bool.and_eq_true, List.all_eq_true] at hk
              have := hk.2 d hd
              simp only [beq_self_eq_true, Bool.true_and, Bool.not_eq_true'] at this
              rw [Bool.and_assoc, this, Bool.and_false]
            · rw [Bool.eq_false_iff.2 hx]; rfl
          · rw [List.length_append, wave_eq, ← wave_eq, left_next, wave_eq]; omega
theorem goodW_start {l : List Dep} {ids : List Int} (h : (wavesR l ids).2 = true) : goodW l ids [] (wavesR l ids).1 := by
  unfold wavesR at h ⊢
  split at h
  · rename_i hb
    rw [if_pos hb]
    split at h
    · rename_i ys hy
      exact goodW_of l ids ids.length [] ys (by rw [left_all]; simp) (by rw [left_all]; exact hy)
    · cases h
  · cases h
theorem wavesR_no {l : List Dep} {ids : List Int} (h : (wavesR l ids).2 = false) : (wavesR l ids).1 = [] := by
  unfold wavesR at h ⊢
  split at h
  · rename_i hb
    rw [if_pos hb]
    split at h
    · cases h
    · rfl
  · rename_i hb
    rw [if_neg hb]
end Go.Proofs.Ytgnbjnlcikpknaa
