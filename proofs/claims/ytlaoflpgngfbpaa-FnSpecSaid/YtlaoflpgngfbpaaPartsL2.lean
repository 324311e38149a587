/- What is written of an array is cut where it was joined: plain words. -/
import Derived.Test.YtlaoflpgngfbpaaPartsL
namespace Go.Proofs.Ytlaoflpgngfbpaa
open Go.RowKit
set_option linter.unusedVariables false
theorem dig_of (d : Nat) (h : d < 10) : digB (48 + UInt8.ofNat d) = true := by
  have : ∀ d : Fin 10, digB (48 + UInt8.ofNat d.val) = true := by decide
  exact this ⟨d, h⟩
theorem numF_dig : ∀ (f k : Nat) (acc : List UInt8), k ≤ f → (∀ c ∈ acc, digB c = true) → ∀ c ∈ numF f k acc, digB c = true := by
  intro f
  induction f with
  | zero =>
    intro k acc hk ha c hc
    have : k = 0 := by omega
    subst this
    rcases List.mem_cons.1 hc with rfl | hc
    · exact dig_of 0 (by omega)
    · exact ha c hc
  | succ f ih =>
    intro k acc hk ha c hc
    rw [numF] at hc
    split at hc
    · rename_i h10
      rcases List.mem_cons.1 hc with rfl | hc
      · exact dig_of k h10
      · exact ha c hc
    · refine ih _ _ (by omega) (fun c' hc' => ?_) c hc
      rcases List.mem_cons.1 hc' with rfl | hc'
      · exact dig_of _ (Nat.mod_lt _ (by decide))
      · exact ha c' hc'
def nl (k : Nat) : List UInt8 := toL (numText k)
theorem nl_dig (k : Nat) : ∀ c ∈ nl k, digB c = true := by
  intro c hc
  exact numF_dig k k [] (Nat.le_refl _) (fun c hc => by cases hc) c hc
theorem nl_no {k : Nat} {b : UInt8} (h : digB b = false) : b ∉ nl k := fun hc => by rw [nl_dig k b hc] at h; cases h
theorem nl_ne (k : Nat) : nl k ≠ [] := by
  have : ∀ (f k : Nat) (acc : List UInt8), numF f k acc ≠ [] := by
    intro f
    induction f with
    | zero => intro k acc; simp [numF]
    | succ f ih => intro k acc; rw [numF]; split
                   · simp
                   · exact ih _ _
  exact this k k []
def headL (x : Span) : List UInt8 := if x.Lo = x.Hi then nl x.Lo.toNat else nl x.Lo.toNat ++ 45 :: nl x.Hi.toNat
def itemL (x : Span) : List UInt8 := if x.Step = 1 then headL x else headL x ++ 58 :: nl x.Step.toNat
theorem head_no {x : Span} {b : UInt8} (h : digB b = false) (h5 : b ≠ 45) : b ∉ headL x := by
  unfold headL
  split
  · exact nl_no h
  · intro hm
    rcases List.mem_append.1 hm with hm | hm
    · exact nl_no h hm
    · rcases List.mem_cons.1 hm with hm | hm
      · exact h5 hm
      · exact nl_no h hm
theorem item_no {x : Span} {b : UInt8} (h : digB b = false) (h5 : b ≠ 45) (h8 : b ≠ 58) : b ∉ itemL x := by
  unfold itemL
  split
  · exact head_no h h5
  · intro hm
    rcases List.mem_append.1 hm with hm | hm
    · exact head_no h h5 hm
    · rcases List.mem_cons.1 hm with hm | hm
      · exact h8 hm
      · exact nl_no h hm
theorem toL_ch (c : UInt8) : toL (chB c) = [c] := rfl
theorem addSpan_l (f : Bool) (out : ByteArray) (x : Span) : toL (addSpan f out x) = toL out ++ ((if f = true then [] else [44]) ++ itemL x) := by
  rw [addSpan_def]
  unfold itemL headL nl
  cases f <;> by_cases h1 : x.Step = 1 <;> by_cases h2 : x.Lo = x.Hi <;> simp [h1, h2, toL_app, toL_ch]
theorem textGo_l : ∀ (l : List Span) (k : Nat) (out : ByteArray), toL (textGo (k + 1) out l) = toL out ++ l.flatMap (fun x => 44 :: itemL x) := by
  intro l
  induction l with
  | nil => intro k out; simp [textGo]
  | cons x r ih =>
    intro k out
    rw [textGo, ih, addSpan_l, List.flatMap_cons]
    simp
def joinL (x : Span) (r : List Span) : List UInt8 := itemL x ++ r.flatMap (fun x => 44 :: itemL x)
theorem textGo_join (x : Span) (r : List Span) : toL (textGo 0 ByteArray.empty (x :: r)) = joinL x r := by
  rw [textGo, textGo_l, addSpan_l, show toL ByteArray.empty = [] from rfl]
  simp [joinL]
theorem specText_l {x : Span} {r : List Span} {m : Int} (h : specB (x :: r) m = true) : toL (specText (x :: r) m) = if 0 < m then joinL x r ++ 37 :: nl m.toNat else joinL x r := by
  unfold specText
  rw [if_pos h]
  split
  · rw [toL_app, toL_app, textGo_join, toL_ch]; simp [nl]
  · exact textGo_join x r
theorem join_no {b : UInt8} (h : digB b = false) (h4 : b ≠ 44) (h5 : b ≠ 45) (h8 : b ≠ 58) (x : Span) (r : List Span) : b ∉ joinL x r := by
  intro hm
  rcases List.mem_append.1 hm with hm | hm
  · exact item_no h h5 h8 hm
  · obtain ⟨y, _, hm⟩ := List.mem_flatMap.1 hm
    rcases List.mem_cons.1 hm with hm | hm
    · exact h4 hm
    · exact item_no h h5 h8 hm
theorem join_parts : ∀ (r : List Span) (x : Span), partsL 44 (joinL x r) = itemL x :: r.map itemL := by
  intro r
  induction r with
  | nil => intro x; unfold joinL; rw [List.flatMap_nil, List.append_nil]; exact partsL_no (item_no (by decide) (by decide) (by decide))
  | cons y q ih =>
    intro x
    unfold joinL
    rw [List.flatMap_cons, List.cons_append, partsL_cut (item_no (by decide) (by decide) (by decide))]
    rw [show itemL y ++ q.flatMap (fun x => 44 :: itemL x) = joinL y q from rfl, ih]
    rfl
theorem item_nice (x : Span) : (partsS (ofL (itemL x)) 58).length ≤ 2 ∧ (partsS (hd (partsS (ofL (itemL x)) 58)) 45).length ≤ 2 := by
  have hh : hd (partsS (ofL (itemL x)) 58) = ofL (headL x) ∧ (partsS (ofL (itemL x)) 58).length ≤ 2 := by
    unfold partsS itemL
    rw [toL_ofL]
    split
    · rw [partsL_no (head_no (by decide) (by decide))]; exact ⟨rfl, by simp⟩
    · rw [partsL_cut (head_no (by decide) (by decide)), partsL_no (nl_no (by decide))]; exact ⟨rfl, by simp⟩
  refine ⟨hh.2, ?_⟩
  rw [hh.1]
  unfold partsS headL
  rw [toL_ofL]
  split
  · rw [partsL_no (nl_no (by decide))]; simp
  · rw [partsL_cut (nl_no (by decide)), partsL_no (nl_no (by decide))]; simp
theorem spec_len {l : List Span} {m : Int} (h : specB l m = true) : ∃ x r, l = x :: r := by
  unfold specB withinB at h
  simp only [Bool.and_eq_true, decide_eq_true_iff] at h
  cases l with
  | nil => simp at h
  | cons x r => exact ⟨x, r, rfl⟩
theorem spec_nice {l : List Span} {m : Int} (h : specB l m = true) : Nice (specText l m) := by
  obtain ⟨x, r, rfl⟩ := spec_len h
  have hp : partsS (specText (x :: r) m) 37 = if 0 < m then [ofL (joinL x r), ofL (nl m.toNat)] else [ofL (joinL x r)] := by
    unfold partsS
    rw [specText_l h]
    split
    · rw [partsL_cut (join_no (by decide) (by decide) (by decide) (by decide) x r), partsL_no (nl_no (by decide))]; rfl
    · rw [partsL_no (join_no (by decide) (by decide) (by decide) (by decide) x r)]; rfl
  have hh : hd (partsS (specText (x :: r) m) 37) = ofL (joinL x r) := by rw [hp]; split <;> rfl
  refine ⟨by rw [hp]; split <;> simp, fun t ht => ?_⟩
  rw [hh] at ht
  unfold partsS at ht
  rw [toL_ofL, join_parts] at ht
  rw [← List.map_cons (f := itemL)] at ht
  obtain ⟨t2, ht2, rfl⟩ := List.mem_map.1 ht
  obtain ⟨y, _, rfl⟩ := List.mem_map.1 ht2
  exact item_nice y
theorem specText_ne {l : List Span} {m : Int} (h : specB l m = true) : (specText l m).size ≠ 0 := by
  obtain ⟨x, r, rfl⟩ := spec_len h
  rw [← toL_len, specText_l h]
  have : (itemL x).length ≠ 0 := by
    unfold itemL headL
    have := nl_ne x.Lo.toNat
    have h2 : (nl x.Lo.toNat).length ≠ 0 := fun e => this (List.eq_nil_of_length_eq_zero e)
    split <;> split <;> simp <;> first | exact this | omega
  unfold joinL
  split <;> simp <;> intro e <;> rw [e] at this <;> simp at this
theorem specText_bad {l : List Span} {m : Int} (h : specB l m = false) : specText l m = ByteArray.empty := by unfold specText; rw [h]; rfl
/-- Both ways of reading tell the same. -/
theorem spec_same (s : ByteArray) : specS s = specI s := by
  have key : ∀ (l : List Span) (m : Int), s.size ≠ 0 → specText l m = s → specB l m = true := fun l m h0 e => by
    rcases Bool.eq_false_or_eq_true (specB l m) with h | h
    · exact h
    · rw [specText_bad h] at e; subst e; exact absurd rfl h0
  by_cases hN : Nice s
  · obtain ⟨e1, e2⟩ := nice_same hN
    unfold specS specI
    rw [e1, e2]
    by_cases h0 : s.size ≠ 0
    · by_cases ht : specText (spansS s) (mostS s) = s
      · rw [if_pos ⟨key _ _ h0 ht, ht⟩, if_pos ⟨h0, ht⟩]
      · rw [if_neg (fun h => ht h.2), if_neg (fun h => ht h.2)]
    · rw [if_neg (fun h => h0 (fun e => specText_ne h.1 (by rw [h.2]; exact e))), if_neg (fun h => h0 h.1)]
  · have n1 : ∀ (l : List Span) (m : Int), specB l m = true → specText l m ≠ s := fun l m h e => hN (e ▸ spec_nice h)
    unfold specS specI
    rw [if_neg (fun h => n1 _ _ h.1 h.2), if_neg (fun h => n1 _ _ (key _ _ h.1 h.2) h.2)]
end Go.Proofs.Ytlaoflpgngfbpaa
