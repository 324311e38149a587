/- Who may hold one more: what holds then. Plain; no program. -/
import Derived.Test.YtbfambeoboiifaaMayHold
import Derived.Test.YtbfambeoboiifaaHeldBy
namespace Go.Proofs.Ytbfambeoboiifaa
open Go.RowKit
set_option linter.unusedVariables false
theorem holds_snoc {x : Hold} : ∀ (l pre : List Hold), holdsGo pre (l ++ [x]) = true → (pre ++ l).any (sameId x) = false := by
  intro l
  induction l with
  | nil =>
    intro pre h
    rw [List.nil_append, holdsGo] at h
    simp only [Bool.and_eq_true, Bool.not_eq_true'] at h
    rw [List.append_nil]; exact h.1.2
  | cons a r ih =>
    intro pre h
    rw [List.cons_append, holdsGo] at h
    simp only [Bool.and_eq_true] at h
    have := ih (pre ++ [a]) h.2
    rwa [List.append_assoc, List.singleton_append] at this
theorem back_self {q : List Quota} {l : List Hold} {x : Hold} (h : withinL q (l ++ [x]) = true) : holdOutL (l ++ [x]) x.Job.Id = l := by
  unfold withinL at h
  simp only [Bool.and_eq_true] at h
  have hb := h.1.2
  unfold holdOutL
  rw [if_pos hb]
  unfold holdsB at hb
  rw [Bool.and_eq_true] at hb
  have hs := holds_snoc l [] hb.1
  rw [List.nil_append] at hs
  rw [List.filter_append]
  have h1 : l.filter (notId x.Job.Id) = l := List.filter_eq_self.2 (fun y hy => by
    have := List.any_eq_false.1 hs y hy
    unfold sameId at this
    unfold notId
    simpa using this)
  rw [h1]
  simp [notId]
theorem heldGo_ge (name : ByteArray) : ∀ (l : List Hold) (j0 n0 : Int) (s0 : Vec) (j n : Int) (s : Vec), l.foldl (heldStep name) (some (j0, n0, s0)) = some (j, n, s) → j0 ≤ j := by
  intro l
  induction l with
  | nil => intro j0 n0 s0 j n s h; simp at h; omega
  | cons a r ih =>
    intro j0 n0 s0 j n s h
    have hn : ∀ r : List Hold, r.foldl (heldStep name) none = none := by
      intro r
      induction r with
      | nil => rfl
      | cons b r ih2 => rw [List.foldl_cons]; exact ih2
    rw [List.foldl_cons, heldStep] at h
    split at h
    · split at h
      · have := ih _ _ _ _ _ _ h; omega
      · rw [hn] at h; cases h
    · exact ih _ _ _ _ _ _ h
theorem held_pos {l : List Hold} {x : Hold} (h : heldB (l ++ [x]) x.Name = true) : 0 < heldJ (l ++ [x]) x.Name := by
  unfold heldB at h
  unfold heldJ
  unfold heldL at *
  split at h
  · rw [List.foldl_append] at *
    rcases hr : l.foldl (heldStep x.Name) (some (0, 0, Vec.zero)) with _ | ⟨j, n, s⟩
    · (try rw [hr] at h); simp [heldStep] at h
    · have := heldGo_ge x.Name l 0 0 Vec.zero j n s hr
      rename_i hB
      rw [if_pos hB]
      (try rw [hr] at h)
      simp only [List.foldl_cons, List.foldl_nil, heldStep, beq_self_eq_true, if_true] at h ⊢
      by_cases hc : (timesOkB x.Job.Need x.Job.Nodes && addOkB s (timesV x.Job.Need x.Job.Nodes)) = true
      · rw [if_pos hc]; simp only []; omega
      · rw [if_neg hc] at h; simp at h
  · simp at h
end Go.Proofs.Ytbfambeoboiifaa
