/- What holds of a list to which a dependency was added. Plain; no program. -/
import Derived.Test.YtgnbjnlcikpknaaAddSpec
namespace Go.Proofs.Ytgnbjnlcikpknaa
open Go.RowKit
set_option linter.unusedVariables false
theorem depLt_total {a b : Dep} (h : depLtB a b = false) (hn : sameD a b = false) : depLtB b a = true := by
  rcases (Bool.eq_false_or_eq_true (depLtB b a)) with h2 | h2
  · exact h2
  · have e := depLt_anti h h2
    subst e
    unfold sameD at hn
    simp at hn
theorem insD_strict {d : Dep} {l : List Dep} (h : l.Pairwise (fun a b => depLtB a b = true)) (hn : ∀ x ∈ l, sameD d x = false) : (insD d l).Pairwise (fun a b => depLtB a b = true) := by
  induction l with
  | nil => rw [insD]; exact List.pairwise_singleton _ _
  | cons x r ih =>
    obtain ⟨h1, h2⟩ := List.pairwise_cons.1 h
    rw [insD]
    split
    · rename_i hlt
      refine List.pairwise_cons.2 ⟨fun y hy => ?_, h⟩
      rcases List.mem_cons.1 hy with rfl | hy
      · exact hlt
      · exact depLt_trans hlt (h1 y hy)
    · rename_i hlt
      refine List.pairwise_cons.2 ⟨fun y hy => ?_, ih h2 (fun z hz => hn z (List.mem_cons_of_mem _ hz))⟩
      rcases insD_mem y hy with rfl | hy
      · exact depLt_total (Bool.eq_false_iff.2 hlt) (hn x (List.mem_cons_self ..))
      · exact h1 y hy
theorem deps_of_pair : ∀ (l : List Dep), l.Pairwise (fun a b => depLtB a b = true) → (∀ x ∈ l, depOkB x = true) → ∀ p : Option Dep, (∀ q, p = some q → ∀ x ∈ l, depLtB q x = true) → depsGo p l = true := by
  intro l
  induction l with
  | nil => intro _ _ p _; cases p <;> rfl
  | cons d r ih =>
    intro h ho p hp
    obtain ⟨h1, h2⟩ := List.pairwise_cons.1 h
    have hr := ih h2 (fun x hx => ho x (List.mem_cons_of_mem _ hx)) (some d) (fun q hq x hx => by injection hq with hq; rw [← hq]; exact h1 x hx)
    cases p with
    | none => rw [depsGo_none, ho d (List.mem_cons_self ..), hr]; rfl
    | some q => rw [depsGo_some, ho d (List.mem_cons_self ..), hp q rfl d (List.mem_cons_self ..), hr]; rfl
theorem insD_self (d : Dep) (l : List Dep) : d ∈ insD d l := (insD_perm d l).mem_iff.2 (List.mem_cons_self ..)
theorem add_zero_inv {l : List Dep} {d : Dep} (h : depsAddC l d = 0) : depsAddL l d = insD d l ∧ depsB (insD d l) = true ∧ roundB (insD d l) = false := by
  refine ⟨by unfold depsAddL; rw [if_pos h], ?_⟩
  unfold depsAddC at h
  split at h
  · rename_i h1
    rw [Bool.and_eq_true] at h1
    split at h
    · omega
    rename_i h2
    split at h
    · omega
    rename_i h3
    split at h
    · omega
    rename_i h4
    refine ⟨?_, Bool.eq_false_iff.2 h4⟩
    have hb := h1.1
    unfold depsB at hb
    rw [Bool.and_eq_true, decide_eq_true_iff] at hb
    obtain ⟨_, k2, k3⟩ := deps_pair l none hb.1
    unfold depsB
    rw [Bool.and_eq_true, decide_eq_true_iff, insD_len]
    refine ⟨deps_of_pair _ (insD_strict k2 (fun x hx => ?_)) (fun x hx => ?_) none (fun q hq => by cases hq), by omega⟩
    · exact Bool.eq_false_iff.2 (fun e => h2 (List.any_eq_true.2 ⟨x, hx, e⟩))
    · rcases insD_mem x hx with rfl | hx
      · exact h1.2
      · exact k3 x hx
  · omega
theorem add_free {l : List Dep} {d : Dep} : freeB (insD d l) d.Id [] = false := by
  unfold freeB
  rw [Bool.and_eq_false_iff]
  refine .inr (Bool.eq_false_iff.2 (fun e => ?_))
  have := List.all_eq_true.1 e d (insD_self d l)
  unfold okF at this
  simp at this
theorem add_freed {l : List Dep} {d : Dep} (h : depsB (insD d l) = true) (id : Int) : freeB (insD d l) id ((insD d l).map Dep.For) = true := by
  unfold freeB
  rw [h, Bool.true_and, List.all_eq_true]
  intro x hx
  unfold okF
  have : ((insD d l).map Dep.For).contains x.For = true := List.contains_iff_mem.2 (List.mem_map.2 ⟨x, hx, rfl⟩)
  rw [this]; simp
theorem add_done {l : List Dep} {d : Dep} : (depsDoneL (insD d l) d.For).length < (insD d l).length := by
  unfold depsDoneL
  split
  · refine Nat.lt_of_le_of_ne (List.length_filter_le _ _) (fun e => ?_)
    have e2 := List.filter_sublist.eq_of_length e
    have := insD_self d l
    rw [← e2] at this
    have := (List.mem_filter.1 this).2
    simp at this
  · rw [insD_len]; simp
end Go.Proofs.Ytgnbjnlcikpknaa
