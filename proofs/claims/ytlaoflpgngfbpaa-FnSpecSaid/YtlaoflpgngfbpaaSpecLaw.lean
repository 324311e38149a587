/- What is written of an array is read again; its numbers ascend: plain words. -/
import Derived.Test.YtlaoflpgngfbpaaPartsL2
import Derived.Test.YtlaoflpgngfbpaaIds
import Derived.Test.YtlaoflpgngfbpaaMayRun
import Derived.Test.YtlaoflpgngfbpaaExpand
namespace Go.Proofs.Ytlaoflpgngfbpaa
open Go.RowKit
set_option linter.unusedVariables false
theorem digGo_app : ∀ (l m : List UInt8) (n : Int), digGo (l ++ m) n = (digGo l n).bind (digGo m) := by
  intro l
  induction l with
  | nil => intro m n; rfl
  | cons c r ih =>
    intro m n
    rw [List.cons_append, digGo, digGo]
    split
    · exact ih m _
    · rfl
theorem dig_val (d : Nat) (h : d < 10) : (48 + UInt8.ofNat d).toNat = 48 + d := by
  have : ∀ d : Fin 10, (48 + UInt8.ofNat d.val).toNat = 48 + d.val := by decide
  exact this ⟨d, h⟩
theorem digGo_one (d : Nat) (h : d < 10) (n : Int) : digGo [48 + UInt8.ofNat d] n = some (10 * n + d) := by
  rw [digGo, if_pos (dig_of d h), dig_val d h, digGo]
  congr 1
  omega
theorem digGo_num : ∀ (f k : Nat), k ≤ f → digGo (numF f k []) 0 = some (k : Int) := by
  intro f
  induction f with
  | zero =>
    intro k hk
    have : k = 0 := by omega
    subst this
    exact digGo_one 0 (by omega) 0
  | succ f ih =>
    intro k hk
    rw [numF]
    split
    · rename_i h
      rw [digGo_one k h 0]; congr 1; omega
    · rename_i h
      rw [numF_app, digGo_app, ih (k / 10) (by omega)]
      show digGo [48 + UInt8.ofNat (k % 10)] ((k / 10 : Nat) : Int) = _
      rw [digGo_one _ (Nat.mod_lt _ (by decide))]
      congr 1
      omega
theorem textN_num (k : Nat) (h : k ≤ 1000000000) : textN (numText k) = ((k : Int), true) := by
  have h1 := numText_size k h
  have h2 : 1 ≤ (numText k).size := by
    rw [← toL_len]
    have := nl_ne k
    rcases Nat.eq_zero_or_pos (toL (numText k)).length with h0 | h0
    · exact absurd (List.eq_nil_of_length_eq_zero h0) this
    · exact h0
  rw [textN_some ⟨h2, h1⟩ (digGo_num k k (Nat.le_refl _))]
  rw [if_pos]
  unfold numZ timeB
  rw [if_pos (by rw [decide_eq_true_iff]; omega)]
  rfl
theorem textN_i {n : Int} (h0 : 0 ≤ n) (h : n ≤ 1000000000) : (textN (ofL (nl n.toNat))).1 = n := by
  show (textN (numText n.toNat)).1 = n
  rw [textN_num _ (by omega)]
  show (n.toNat : Int) = n
  omega
theorem two_of {s : ByteArray} {b : UInt8} {other p q : ByteArray} (h : partsS s b = [p, q]) : twoS s b other = (p, q) := by unfold twoS; rw [h]
theorem two_of1 {s : ByteArray} {b : UInt8} {other p : ByteArray} (h : partsS s b = [p]) : twoS s b other = (s, other) := by unfold twoS; rw [h]
theorem span_back {x : Span} (h : spanOkB x = true) : spanI (ofL (itemL x)) = x := by
  obtain ⟨⟨a1, a2⟩, ⟨a3, a4⟩, ⟨a5, a6⟩, a7⟩ := spanOk_iff.1 h
  have e1 : (twoS (ofL (itemL x)) 58 oneT).1 = ofL (headL x) ∧ (textN (twoS (ofL (itemL x)) 58 oneT).2).1 = x.Step := by
    by_cases hs : x.Step = 1
    · have hi : itemL x = headL x := by unfold itemL; rw [if_pos hs]
      have hp : partsS (ofL (itemL x)) 58 = [ofL (headL x)] := by unfold partsS; rw [toL_ofL, hi, partsL_no (head_no (by decide) (by decide))]; rfl
      rw [two_of1 hp, hi]
      exact ⟨rfl, by rw [hs]; exact textN_one⟩
    · have hi : itemL x = headL x ++ 58 :: nl x.Step.toNat := by unfold itemL; rw [if_neg hs]
      have hp : partsS (ofL (itemL x)) 58 = [ofL (headL x), ofL (nl x.Step.toNat)] := by unfold partsS; rw [toL_ofL, hi, partsL_cut (head_no (by decide) (by decide)), partsL_no (nl_no (by decide))]; rfl
      rw [two_of hp]
      exact ⟨rfl, textN_i (by omega) (by omega)⟩
  have e2 : (textN (twoS (ofL (headL x)) 45 (ofL (headL x))).1).1 = x.Lo ∧ (textN (twoS (ofL (headL x)) 45 (ofL (headL x))).2).1 = x.Hi := by
    by_cases hs : x.Lo = x.Hi
    · have hi : headL x = nl x.Lo.toNat := by unfold headL; rw [if_pos hs]
      have hp : partsS (ofL (headL x)) 45 = [ofL (nl x.Lo.toNat)] := by unfold partsS; rw [toL_ofL, hi, partsL_no (nl_no (by decide))]; rfl
      rw [two_of1 hp, hi]
      exact ⟨textN_i (by omega) (by omega), by rw [← hs]; exact textN_i (by omega) (by omega)⟩
    · have hi : headL x = nl x.Lo.toNat ++ 45 :: nl x.Hi.toNat := by unfold headL; rw [if_neg hs]
      have hp : partsS (ofL (headL x)) 45 = [ofL (nl x.Lo.toNat), ofL (nl x.Hi.toNat)] := by unfold partsS; rw [toL_ofL, hi, partsL_cut (nl_no (by decide)), partsL_no (nl_no (by decide))]; rfl
      rw [two_of hp]
      exact ⟨textN_i (by omega) (by omega), textN_i (by omega) (by omega)⟩
  unfold spanI
  rw [e1.1, e1.2, e2.1, e2.2]
theorem spec_back {l : List Span} {m : Int} (h : specB l m = true) : specI (specText l m) = (⟨l, m⟩, true) := by
  obtain ⟨hall, _, _, m0, m1⟩ := specB_all h
  have hne := specText_ne h
  obtain ⟨x, r, rfl⟩ := spec_len h
  have e1 : (twoS (specText (x :: r) m) 37 zeroT).1 = ofL (joinL x r) ∧ (textN (twoS (specText (x :: r) m) 37 zeroT).2).1 = m := by
    have hl := specText_l h
    by_cases hm : 0 < m
    · rw [if_pos hm] at hl
      have hp : partsS (specText (x :: r) m) 37 = [ofL (joinL x r), ofL (nl m.toNat)] := by unfold partsS; rw [hl, partsL_cut (join_no (by decide) (by decide) (by decide) (by decide) x r), partsL_no (nl_no (by decide))]; rfl
      rw [two_of hp]
      exact ⟨rfl, textN_i (by omega) (by omega)⟩
    · rw [if_neg hm] at hl
      have hp : partsS (specText (x :: r) m) 37 = [ofL (joinL x r)] := by unfold partsS; rw [hl, partsL_no (join_no (by decide) (by decide) (by decide) (by decide) x r)]; rfl
      rw [two_of1 hp]
      refine ⟨?_, ?_⟩
      · show specText (x :: r) m = _
        rw [← hl]; rfl
      · show (textN zeroT).1 = m
        rw [textN_zero]; omega
  have hS : spansI (specText (x :: r) m) = x :: r := by
    unfold spansI
    rw [e1.1]
    unfold partsS
    rw [toL_ofL, join_parts, ← List.map_cons (f := itemL), List.map_map, List.map_map]
    have : ∀ y ∈ x :: r, (spanI ∘ ofL ∘ itemL) y = y := fun y hy => span_back (hall y hy)
    conv => rhs; rw [← List.map_id (x :: r)]
    exact List.map_congr_left this
  have hM : mostI (specText (x :: r) m) = m := e1.2
  unfold specI
  rw [hS, hM, if_pos ⟨hne, rfl⟩]
theorem spec_bad {l : List Span} {m : Int} (h : specB l m = false) : specI (specText l m) = (⟨[], 0⟩, false) := by
  rw [specText_bad h]
  unfold specI
  rw [if_neg (fun e => e.1 rfl)]
/-! ### numbers ascend -/
theorem idsX_bd {x : Span} (h : spanOkB x = true) : ∀ y ∈ idsX x, x.Lo ≤ y ∧ y ≤ x.Hi := by
  intro y hy
  unfold idsX at hy
  obtain ⟨j, hj, rfl⟩ := List.mem_map.1 hy
  obtain ⟨_, _, ⟨a5, _⟩, _⟩ := spanOk_iff.1 h
  refine ⟨?_, (step_le h j).2 (List.mem_range.1 hj)⟩
  have : 0 ≤ (j : Int) * x.Step := Int.mul_nonneg (by omega) (by omega)
  omega
theorem idsX_asc {x : Span} (h : spanOkB x = true) : (idsX x).Pairwise (· < ·) := by
  obtain ⟨_, _, ⟨a5, _⟩, _⟩ := spanOk_iff.1 h
  unfold idsX
  rw [List.pairwise_map]
  refine List.Pairwise.imp (fun {a b} hab => ?_) List.pairwise_lt_range
  have e : ((b : Int) - a) * x.Step = b * x.Step - a * x.Step := Int.sub_mul _ _ _
  have : 0 < ((b : Int) - a) * x.Step := Int.mul_pos (by omega) (by omega)
  omega
theorem chain_asc : ∀ (l : List Span) (p : Option Span), chainGo spanOkB spanLt p l = true → (∀ q, p = some q → ∀ y ∈ allIds l, q.Hi < y) ∧ (allIds l).Pairwise (· < ·) := by
  intro l
  induction l with
  | nil => intro p _; exact ⟨fun q _ y hy => (by cases hy), List.Pairwise.nil⟩
  | cons a r ih =>
    intro p h
    have h' : spanOkB a = true ∧ chainGo spanOkB spanLt (some a) r = true ∧ (∀ q, p = some q → q.Hi < a.Lo) := by
      cases p with
      | none => simp [chainGo] at h; exact ⟨h.1, h.2, fun q e => by cases e⟩
      | some q =>
        simp [chainGo] at h
        refine ⟨h.1.1, h.2, fun q' e => ?_⟩
        injection e with e
        subst e
        have h3 := h.1.2
        unfold spanLt at h3
        simp at h3
        exact h3
    obtain ⟨h1, h2, h3⟩ := h'
    obtain ⟨i1, i2⟩ := ih (some a) h2
    obtain ⟨_, ⟨a3, _⟩, _, _⟩ := spanOk_iff.1 h1
    have e : allIds (a :: r) = idsX a ++ allIds r := by unfold allIds; rw [List.flatMap_cons]
    rw [e]
    refine ⟨fun q hq y hy => ?_, ?_⟩
    · have := h3 q hq
      rcases List.mem_append.1 hy with hy | hy
      · have := (idsX_bd h1 y hy).1; omega
      · have := i1 a rfl y hy; omega
    · rw [List.pairwise_append]
      refine ⟨idsX_asc h1, i2, fun y hy z hz => ?_⟩
      have := (idsX_bd h1 y hy).2
      have := i1 a rfl z hz
      omega
theorem spec_asc {l : List Span} {m : Int} (h : specB l m = true) : (specIdsL l m).Pairwise (· < ·) := by
  unfold specIdsL
  rw [if_pos h]
  unfold specB at h
  simp only [Bool.and_eq_true] at h
  exact (chain_asc l none h.1.2).2
theorem asc_next {l : List Int} (h : l.Pairwise (· < ·)) {k : Nat} {a b : Int} (ha : l[k]? = some a) (hb : l[k + 1]? = some b) : a < b := by
  obtain ⟨h1, rfl⟩ := List.getElem?_eq_some_iff.1 ha
  obtain ⟨h2, rfl⟩ := List.getElem?_eq_some_iff.1 hb
  exact List.pairwise_iff_getElem.1 h k (k + 1) h1 h2 (by omega)
theorem spec_ids_ne {l : List Span} {m : Int} (h : specB l m = true) : 0 < (specIdsL l m).length := by
  obtain ⟨hall, _⟩ := specB_all h
  obtain ⟨x, r, rfl⟩ := spec_len h
  unfold specIdsL
  rw [if_pos h]
  have e : allIds (x :: r) = idsX x ++ allIds r := by unfold allIds; rw [List.flatMap_cons]
  have h1 := hall x (List.mem_cons_self ..)
  obtain ⟨_, ⟨a3, _⟩, ⟨a5, _⟩, _⟩ := spanOk_iff.1 h1
  have : 0 < cntN x := (step_le h1 0).1 (by simp; omega)
  rw [e, List.length_append, idsX_len]; omega
theorem spec_runs {l : List Span} {m : Int} (h : specB l m = true) {id : Int} (hi : (specIdsL l m)[0]? = some id) : mayRunB l m [] id = true := by
  obtain ⟨_, _, _, m0, _⟩ := specB_all h
  unfold mayRunB
  have h1 : (specIdsL l m).contains id = true := by rw [List.contains_iff_mem]; exact List.mem_of_getElem? hi
  have h2 : cntRun (specIdsL l m) [] = 0 := by unfold cntRun; simp
  rw [h1, h2]
  by_cases hm : m = 0
  · subst hm; rfl
  · have : decide (((0 : Nat) : Int) < m) = true := by rw [decide_eq_true_iff]; omega
    rw [this]; simp
end Go.Proofs.Ytlaoflpgngfbpaa
