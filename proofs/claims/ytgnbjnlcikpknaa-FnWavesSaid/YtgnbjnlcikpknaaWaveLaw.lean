/- Waves: two ways of telling them are one. Plain words. -/
import Derived.Test.YtgnbjnlcikpknaaDeps
namespace Go.Proofs.Ytgnbjnlcikpknaa
open Go.RowKit
set_option linter.unusedVariables false
/-- Whom n doesn't wait for any more. -/
def freeW (l : List Dep) (left : List Int) (n : Int) : Bool := !(l.any (fun d => d.Id == n && left.contains d.For))
def wavesF (l : List Dep) : Nat → List Int → Option (List (List Int))
  | _, [] => some []
  | 0, _ :: _ => none
  | k + 1, a :: r => if ((a :: r).filter (freeW l (a :: r))).length = 0 then none else (wavesF l k ((a :: r).filter (fun n => !freeW l (a :: r) n))).map (fun ys => (a :: r).filter (freeW l (a :: r)) :: ys)
theorem wavesF_nil (l : List Dep) (k : Nat) : wavesF l k [] = some [] := by cases k <;> rfl
theorem wavesF_some {l : List Dep} {k : Nat} {left : List Int} (h : 0 < left.length) : wavesF l (k + 1) left = if (left.filter (freeW l left)).length = 0 then none else (wavesF l k (left.filter (fun n => !freeW l left n))).map (fun ys => left.filter (freeW l left) :: ys) := by
  cases left with
  | nil => simp at h
  | cons a r => rfl
def idsGo (B : List Int) : List Int → Bool
  | [] => true
  | n :: r => decide (1 ≤ n ∧ n ≤ 999) && !B.contains n && idsGo (B ++ [n]) r
def idsB (ids : List Int) : Bool := decide (ids.length ≤ 999) && idsGo [] ids
noncomputable def wavesR (l : List Dep) (ids : List Int) : List (List Int) × Bool :=
  if (depsB l && idsB ids) = true then
    match wavesF l ids.length ids with
    | some ys => (ys, true)
    | none => ([], false)
  else ([], false)
theorem wavesR_bad {l : List Dep} {ids : List Int} (h : (depsB l && idsB ids) = false) : wavesR l ids = ([], false) := by unfold wavesR; rw [h]; rfl
theorem wavesR_some {l : List Dep} {ids : List Int} {ys : List (List Int)} (h : (depsB l && idsB ids) = true) (h2 : wavesF l ids.length ids = some ys) : wavesR l ids = (ys, true) := by unfold wavesR; rw [h, h2]; rfl
theorem wavesR_none {l : List Dep} {ids : List Int} (h : (depsB l && idsB ids) = true) (h2 : wavesF l ids.length ids = none) : wavesR l ids = ([], false) := by unfold wavesR; rw [h, h2]; rfl
/-- Where the telling stands: acc is told, left is left, and k are the steps that may still come. -/
def stands (l : List Dep) (ids : List Int) (acc : List (List Int)) (left : List Int) (k : Nat) : Prop := wavesF l ids.length ids = (wavesF l k left).map (fun ys => acc ++ ys) ∧ left.length ≤ k
theorem stands_start (l : List Dep) (ids : List Int) : stands l ids [] ids ids.length := ⟨by cases wavesF l ids.length ids <;> rfl, Nat.le_refl _⟩
theorem filter_split_len {α : Type} (p : α → Bool) (l : List α) : (l.filter p).length + (l.filter (fun n => !p n)).length = l.length := by
  induction l with
  | nil => rfl
  | cons a r ih =>
    rw [List.filter_cons, List.filter_cons]
    rcases Bool.eq_false_or_eq_true (p a) with h | h <;> simp [h] <;> omega
theorem stands_end {l : List Dep} {ids : List Int} {acc : List (List Int)} {left : List Int} {k : Nat} (h : stands l ids acc left k) (h0 : left.length = 0) : wavesF l ids.length ids = some acc := by
  obtain ⟨h1, _⟩ := h
  have : left = [] := List.eq_nil_of_length_eq_zero h0
  subst this
  rw [h1, wavesF_nil]; simp
theorem stands_none {l : List Dep} {ids : List Int} {acc : List (List Int)} {left : List Int} {k : Nat} (h : stands l ids acc left k) (h0 : 0 < left.length) (hw : (left.filter (freeW l left)).length = 0) : wavesF l ids.length ids = none := by
  obtain ⟨h1, h2⟩ := h
  obtain ⟨k, rfl⟩ : ∃ j, k = j + 1 := ⟨k - 1, by omega⟩
  rw [h1, wavesF_some h0, if_pos hw]; rfl
theorem stands_next {l : List Dep} {ids : List Int} {acc : List (List Int)} {left : List Int} {k : Nat} (h : stands l ids acc left k) (h0 : 0 < left.length) (hw : ¬ (left.filter (freeW l left)).length = 0) : stands l ids (acc ++ [left.filter (freeW l left)]) (left.filter (fun n => !freeW l left n)) (k - 1) := by
  obtain ⟨h1, h2⟩ := h
  obtain ⟨k, rfl⟩ : ∃ j, k = j + 1 := ⟨k - 1, by omega⟩
  have h3 := filter_split_len (freeW l left) left
  refine ⟨?_, by omega⟩
  rw [h1, wavesF_some h0, if_neg hw, Nat.add_sub_cancel]
  cases wavesF l k (left.filter (fun n => !freeW l left n)) <;> simp
/-! ### the reference's way: what is told, not what is left -/
def okW (l : List Dep) (ids told : List Int) (n : Int) : Bool := !told.contains n && l.all (fun d => !((d.Id == n && ids.contains d.For) && !told.contains d.For))
def leftOf (ids told : List Int) : List Int := ids.filter (fun n => !told.contains n)
theorem left_contains (ids told : List Int) (x : Int) : (leftOf ids told).contains x = (ids.contains x && !told.contains x) := by
  rw [Bool.eq_iff_iff, List.contains_iff_mem]
  unfold leftOf
  rw [List.mem_filter, Bool.and_eq_true, List.contains_iff_mem]
theorem okW_eq (l : List Dep) (ids told : List Int) (n : Int) : okW l ids told n = (freeW l (leftOf ids told) n && !told.contains n) := by
  unfold okW freeW
  rw [Bool.and_comm]
  congr 1
  rw [List.not_any_eq_all_not]
  congr 1
  funext d
  rw [left_contains]
  cases d.Id == n <;> cases ids.contains d.For <;> cases told.contains d.For <;> rfl
theorem wave_eq (l : List Dep) (ids told : List Int) : ids.filter (okW l ids told) = (leftOf ids told).filter (freeW l (leftOf ids told)) := by
  have e : okW l ids told = fun n => freeW l (leftOf ids told) n && !told.contains n := by funext n; exact okW_eq l ids told n
  rw [e]
  conv => rhs; rw [leftOf, List.filter_filter]
  rfl
theorem left_next (l : List Dep) (ids told : List Int) : leftOf ids (told ++ ids.filter (okW l ids told)) = (leftOf ids told).filter (fun n => !freeW l (leftOf ids told) n) := by
  rw [wave_eq]
  have e : (leftOf ids told).filter (fun n => !freeW l (leftOf ids told) n) = ids.filter (fun n => !freeW l (leftOf ids told) n && !told.contains n) := by
    conv => lhs; rw [show leftOf ids told = ids.filter (fun n => !told.contains n) from rfl]
    rw [List.filter_filter]; rfl
  rw [e]
  show ids.filter _ = ids.filter _
  apply List.filter_congr
  intro n hn
  have h1 : ((leftOf ids told).filter (freeW l (leftOf ids told))).contains n = (!told.contains n && freeW l (leftOf ids told) n) := by
    rw [Bool.eq_iff_iff, List.contains_iff_mem, List.mem_filter, Bool.and_eq_true]
    unfold leftOf
    rw [List.mem_filter]
    exact ⟨fun h => ⟨h.1.2, h.2⟩, fun h => ⟨⟨hn, h.1⟩, h.2⟩⟩
  have h2 : (told ++ (leftOf ids told).filter (freeW l (leftOf ids told))).contains n = (told.contains n || ((leftOf ids told).filter (freeW l (leftOf ids told))).contains n) := by
    rw [Bool.eq_iff_iff, List.contains_iff_mem, List.mem_append, Bool.or_eq_true, List.contains_iff_mem, List.contains_iff_mem]
  rw [h2, h1]
  cases told.contains n <;> cases freeW l (leftOf ids told) n <;> rfl
theorem left_all (ids : List Int) : leftOf ids [] = ids := by unfold leftOf; simp
end Go.Proofs.Ytgnbjnlcikpknaa
