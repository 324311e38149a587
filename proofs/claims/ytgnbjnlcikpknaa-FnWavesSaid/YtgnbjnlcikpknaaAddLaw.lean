/- A dependency is added: laid into its place in the list. Plain; no program. -/
import Derived.Test.YtgnbjnlcikpknaaRound2
namespace Go.Proofs.Ytgnbjnlcikpknaa
open Go.RowKit
set_option linter.unusedVariables false
def insD (d : Dep) : List Dep → List Dep
  | [] => [d]
  | x :: r => if depLtB d x = true then d :: x :: r else x :: insD d r
def sameD (d x : Dep) : Bool := x.Id == d.Id && x.For == d.For
def depsAddC (l : List Dep) (d : Dep) : Int := if (depsB l && depOkB d) = true then (if l.any (sameD d) = true then 2 else if l.length = 100 then 3 else if roundB (insD d l) = true then 4 else 0) else 1
def depsAddL (l : List Dep) (d : Dep) : List Dep := if depsAddC l d = 0 then insD d l else []
theorem insD_len (d : Dep) (l : List Dep) : (insD d l).length = l.length + 1 := by
  induction l with
  | nil => rfl
  | cons x r ih => rw [insD]; split <;> simp [ih]
theorem insD_mem {d : Dep} {l : List Dep} : ∀ x ∈ insD d l, x = d ∨ x ∈ l := by
  induction l with
  | nil => intro x hx; rw [insD] at hx; exact .inl (List.mem_singleton.1 hx)
  | cons a r ih =>
    intro x hx
    rw [insD] at hx
    split at hx
    · rcases List.mem_cons.1 hx with h | h
      · exact .inl h
      · exact .inr h
    · rcases List.mem_cons.1 hx with h | h
      · exact .inr (by rw [h]; exact List.mem_cons_self ..)
      · rcases ih x h with h | h
        · exact .inl h
        · exact .inr (List.mem_cons_of_mem _ h)
theorem insD_perm (d : Dep) (l : List Dep) : (insD d l).Perm (d :: l) := by
  induction l with
  | nil => exact List.Perm.refl _
  | cons x r ih =>
    rw [insD]
    split
    · exact List.Perm.refl _
    · exact (ih.cons x).trans (List.Perm.swap ..)
theorem depLt_trans {a b c : Dep} (h1 : depLtB a b = true) (h2 : depLtB b c = true) : depLtB a c = true := by
  unfold depLtB at *; rw [decide_eq_true_iff] at *; omega
theorem depLt_asymm {a b : Dep} (h1 : depLtB a b = true) : depLtB b a = false := by
  unfold depLtB at *; rw [decide_eq_true_iff] at h1; rw [decide_eq_false_iff_not]; omega
theorem depLt_anti {a b : Dep} (h1 : depLtB a b = false) (h2 : depLtB b a = false) : a = b := by
  unfold depLtB at *; rw [decide_eq_false_iff_not] at *
  obtain ⟨a1, a2⟩ := a; obtain ⟨b1, b2⟩ := b
  simp only [Dep.mk.injEq] at *; omega
theorem depLt_ntrans {a b c : Dep} (h1 : depLtB a b = false) (h2 : depLtB b c = false) : depLtB a c = false := by
  unfold depLtB at *; rw [decide_eq_false_iff_not] at *; omega
theorem deps_pair : ∀ (l : List Dep) (p : Option Dep), depsGo p l = true → (∀ q, p = some q → ∀ x ∈ l, depLtB q x = true) ∧ l.Pairwise (fun a b => depLtB a b = true) ∧ ∀ x ∈ l, depOkB x = true := by
  intro l
  induction l with
  | nil => intro p _; exact ⟨fun _ _ x hx => (by cases hx), List.Pairwise.nil, fun x hx => (by cases hx)⟩
  | cons d r ih =>
    intro p h
    have key : depOkB d = true ∧ depsGo (some d) r = true ∧ ∀ q, p = some q → depLtB q d = true := by
      cases p with
      | none => rw [depsGo_none, Bool.and_eq_true] at h; exact ⟨h.1, h.2, fun q hq => (by cases hq)⟩
      | some q => rw [depsGo_some, Bool.and_eq_true, Bool.and_eq_true] at h; exact ⟨h.1.1, h.2, fun q' hq => by injection hq with hq; rw [← hq]; exact h.1.2⟩
    obtain ⟨k1, k2, k3⟩ := key
    obtain ⟨i1, i2, i3⟩ := ih _ k2
    refine ⟨fun q hq x hx => ?_, List.pairwise_cons.2 ⟨i1 d rfl, i2⟩, fun x hx => ?_⟩
    · rcases List.mem_cons.1 hx with rfl | hx
      · exact k3 q hq
      · exact depLt_trans (k3 q hq) (i1 d rfl x hx)
    · rcases List.mem_cons.1 hx with rfl | hx
      · exact k1
      · exact i3 x hx
theorem insD_pair {d : Dep} {l : List Dep} (h : l.Pairwise (fun a b => depLtB b a = false)) : (insD d l).Pairwise (fun a b => depLtB b a = false) := by
  induction l with
  | nil => rw [insD]; exact List.pairwise_singleton _ _
  | cons x r ih =>
    obtain ⟨h1, h2⟩ := List.pairwise_cons.1 h
    rw [insD]
    split
    · rename_i hlt
      refine List.pairwise_cons.2 ⟨fun y hy => ?_, h⟩
      rcases List.mem_cons.1 hy with rfl | hy
      · exact depLt_asymm hlt
      · exact depLt_ntrans (h1 y hy) (depLt_asymm hlt)
    · rename_i hlt
      refine List.pairwise_cons.2 ⟨fun y hy => ?_, ih h2⟩
      rcases insD_mem y hy with rfl | hy
      · exact Bool.eq_false_iff.2 hlt
      · exact h1 y hy
theorem sorted_uniq : ∀ (m n : List Dep), m.Perm n → m.Pairwise (fun a b => depLtB b a = false) → n.Pairwise (fun a b => depLtB b a = false) → m = n := by
  intro m
  induction m with
  | nil => intro n h _ _; exact (List.nil_perm.1 h).symm
  | cons a m ih =>
    intro n h h1 h2
    cases n with
    | nil => exact absurd h.length_eq (by simp)
    | cons b n =>
      obtain ⟨h3, h4⟩ := List.pairwise_cons.1 h1
      obtain ⟨h5, h6⟩ := List.pairwise_cons.1 h2
      have e : a = b := by
        rcases List.mem_cons.1 (h.mem_iff.1 (List.mem_cons_self ..) : a ∈ b :: n) with e | ha
        · exact e
        rcases List.mem_cons.1 (h.mem_iff.2 (List.mem_cons_self ..) : b ∈ a :: m) with e | hb
        · exact e.symm
        exact depLt_anti (h5 a ha) (h3 b hb)
      subst e
      rw [ih n ((List.perm_cons a).1 h) h4 h6]
theorem sorted_ins {l m : List Dep} {d : Dep} (h : depsB l = true) (hp : m.Perm (l ++ [d])) (hs : m.Pairwise (fun a b => depLtB b a = false)) : m = insD d l := by
  unfold depsB at h
  rw [Bool.and_eq_true] at h
  obtain ⟨_, h2, _⟩ := deps_pair l none h.1
  refine sorted_uniq m _ (hp.trans ((List.perm_append_comm (l₁ := l) (l₂ := [d])).trans (insD_perm d l).symm)) hs (insD_pair (h2.imp fun h => depLt_asymm h))
theorem deps_all {l : List Dep} (h : depsB l = true) : ∀ x ∈ l, depOkB x = true := by
  unfold depsB at h; rw [Bool.and_eq_true] at h
  exact (deps_pair l none h.1).2.2
-- the spec's way
def stepD (d : Dep) (s : List Dep × Bool) (x : Dep) : List Dep × Bool := if (!s.2 && depLtB d x) = true then (s.1 ++ [d] ++ [x], true) else (s.1 ++ [x], s.2)
def finD (d : Dep) (s : List Dep × Bool) : List Dep := if s.2 = true then s.1 else s.1 ++ [d]
theorem step_done (d : Dep) : ∀ (l acc : List Dep), l.foldl (stepD d) (acc, true) = (acc ++ l, true) := by
  intro l
  induction l with
  | nil => intro acc; simp
  | cons x r ih => intro acc; rw [List.foldl_cons, show stepD d (acc, true) x = (acc ++ [x], true) from rfl, ih]; simp
theorem step_ins (d : Dep) : ∀ (l acc : List Dep), finD d (l.foldl (stepD d) (acc, false)) = acc ++ insD d l := by
  intro l
  induction l with
  | nil => intro acc; rfl
  | cons x r ih =>
    intro acc
    rw [List.foldl_cons, insD]
    by_cases h : depLtB d x = true
    · rw [if_pos h, show stepD d (acc, false) x = (acc ++ [d] ++ [x], true) by unfold stepD; simp [h], step_done, finD, if_pos rfl]; simp
    · rw [if_neg h, show stepD d (acc, false) x = (acc ++ [x], false) by unfold stepD; simp [h], ih]; simp
theorem insD_fold (d : Dep) (l : List Dep) : insD d l = finD d (l.foldl (stepD d) ([], false)) := by rw [step_ins]; rfl
theorem step_len (d : Dep) : ∀ (l : List Dep) (s : List Dep × Bool), (l.foldl (stepD d) s).1.length ≤ s.1.length + l.length + 1 := by
  intro l s
  obtain ⟨acc, b⟩ := s
  cases b with
  | true => rw [step_done]; simp
  | false =>
    have h := congrArg List.length (step_ins d l acc)
    unfold finD at h
    simp only [List.length_append, insD_len] at h ⊢
    split at h
    · omega
    · simp at h; omega
theorem depsAddC_len {l : List Dep} (d : Dep) : (depsAddL l d).length ≤ l.length + 1 := by
  unfold depsAddL; split
  · rw [insD_len]; omega
  · simp
theorem depsAddL_len (l : List Dep) (d : Dep) : (depsAddL l d).length ≤ 1048576 := by
  unfold depsAddL
  split
  · rename_i h
    rw [insD_len]
    unfold depsAddC at h
    split at h
    · rename_i h1
      rw [Bool.and_eq_true] at h1
      have := h1.1
      unfold depsB at this
      rw [Bool.and_eq_true, decide_eq_true_iff] at this
      omega
    · omega
  · simp
end Go.Proofs.Ytgnbjnlcikpknaa
