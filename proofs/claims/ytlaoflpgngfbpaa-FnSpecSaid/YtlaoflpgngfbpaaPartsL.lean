/- Texts cut at a byte, and numbers read out of texts: plain words. -/
import Derived.Test.YtlaoflpgngfbpaaSpecText
namespace Go.Proofs.Ytlaoflpgngfbpaa
open Go.RowKit
set_option linter.unusedVariables false
def toL (s : ByteArray) : List UInt8 := s.data.toList
def ofL (l : List UInt8) : ByteArray := ⟨l.toArray⟩
theorem toL_ofL (l : List UInt8) : toL (ofL l) = l := rfl
theorem ofL_toL (s : ByteArray) : ofL (toL s) = s := rfl
theorem toL_inj {a b : ByteArray} (h : toL a = toL b) : a = b := by rw [← ofL_toL a, h, ofL_toL]
theorem toL_app (a b : ByteArray) : toL (a ++ b) = toL a ++ toL b := by unfold toL; rw [ByteArray.data_append, Array.toList_append]
theorem toL_len (s : ByteArray) : (toL s).length = s.size := by unfold toL; rw [Array.length_toList]; rfl
def partsL (b : UInt8) : List UInt8 → List (List UInt8)
  | [] => [[]]
  | c :: r => if c = b then [] :: partsL b r else match partsL b r with
    | [] => [[c]]
    | h :: t => (c :: h) :: t
theorem partsL_no {b : UInt8} : ∀ {A : List UInt8}, b ∉ A → partsL b A = [A] := by
  intro A
  induction A with
  | nil => intro _; rfl
  | cons c r ih =>
    intro h
    rw [partsL, if_neg (fun e => h (by rw [e]; exact List.mem_cons_self)), ih (fun hm => h (List.mem_cons_of_mem _ hm))]
theorem partsL_cut {b : UInt8} : ∀ {A : List UInt8}, b ∉ A → ∀ B, partsL b (A ++ b :: B) = A :: partsL b B := by
  intro A
  induction A with
  | nil => intro _ B; rw [List.nil_append, partsL, if_pos rfl]
  | cons c r ih =>
    intro h B
    rw [List.cons_append, partsL, if_neg (fun e => h (by rw [e]; exact List.mem_cons_self)), ih (fun hm => h (List.mem_cons_of_mem _ hm))]
theorem partsL_ne (b : UInt8) (l : List UInt8) : partsL b l ≠ [] := by
  cases l with
  | nil => simp [partsL]
  | cons c r =>
    rw [partsL]
    split
    · simp
    · split <;> simp
theorem partsL_one {b : UInt8} : ∀ {l h : List UInt8}, partsL b l = [h] → h = l := by
  intro l
  induction l with
  | nil => intro h e; simp [partsL] at e; exact e
  | cons c r ih =>
    intro h e
    rw [partsL] at e
    split at e
    · have := partsL_ne b r
      injection e with _ e2
      exact absurd e2 this
    · split at e
      · rename_i hn; exact absurd hn (partsL_ne b r)
      · rename_i h2 t2 hh
        injection e with e1 e2
        subst e1 e2
        rw [ih hh]
theorem partsL_len (b : UInt8) (l : List UInt8) : 0 < (partsL b l).length := by
  cases h : partsL b l with
  | nil => exact absurd h (partsL_ne b l)
  | cons _ _ => simp
theorem partsL_le (b : UInt8) : ∀ l : List UInt8, (partsL b l).length ≤ l.length + 1 := by
  intro l
  induction l with
  | nil => simp [partsL]
  | cons c r ih =>
    rw [partsL]
    split
    · simp; omega
    · split
      · simp
      · rename_i h t hh; rw [hh] at ih; simp at ih ⊢; omega
theorem partsL_size (b : UInt8) : ∀ l : List UInt8, ∀ t ∈ partsL b l, t.length ≤ l.length := by
  intro l
  induction l with
  | nil => intro t ht; simp [partsL] at ht; subst ht; simp
  | cons c r ih =>
    intro t ht
    rw [partsL] at ht
    split at ht
    · rcases List.mem_cons.1 ht with rfl | ht
      · simp
      · have := ih t ht; simp; omega
    · split at ht
      · rw [List.mem_singleton.1 ht]; simp
      · rename_i h q hh
        rcases List.mem_cons.1 ht with rfl | ht
        · have := ih h (by rw [hh]; exact List.mem_cons_self); simp; omega
        · have := ih t (by rw [hh]; exact List.mem_cons_of_mem _ ht); simp; omega
def partsS (s : ByteArray) (b : UInt8) : List ByteArray := (partsL b (toL s)).map ofL
theorem partsS_len (s : ByteArray) (b : UInt8) : 0 < (partsS s b).length ∧ (partsS s b).length ≤ s.size + 1 := by
  unfold partsS; rw [List.length_map]
  exact ⟨partsL_len _ _, by have := partsL_le b (toL s); rw [toL_len] at this; exact this⟩
theorem partsS_size (s : ByteArray) (b : UInt8) : ∀ t ∈ partsS s b, t.size ≤ s.size := by
  intro t ht
  unfold partsS at ht
  obtain ⟨l, hl, rfl⟩ := List.mem_map.1 ht
  have := partsL_size b _ l hl
  rw [toL_len] at this
  rw [← toL_len, toL_ofL]; exact this
theorem partsS_one {s h : ByteArray} {b : UInt8} (e : partsS s b = [h]) : h = s := by
  unfold partsS at e
  cases hp : partsL b (toL s) with
  | nil => exact absurd hp (partsL_ne _ _)
  | cons a r =>
    rw [hp] at e
    cases r with
    | nil =>
      injection e with e1 _
      subst e1
      rw [partsL_one hp, ofL_toL]
    | cons c q => simp at e
/-! ### numbers -/
def digB (c : UInt8) : Bool := decide (48 ≤ c.toNat ∧ c.toNat ≤ 57)
def digGo : List UInt8 → Int → Option Int
  | [], n => some n
  | c :: r, n => if digB c = true then digGo r (10 * n + ((c.toNat : Int) - 48)) else none
def numZ (n : Int) : ByteArray := if timeB n = true then numText n.toNat else ByteArray.empty
def textN (s : ByteArray) : Int × Bool :=
  if 1 ≤ s.size ∧ s.size ≤ 10 then
    match digGo (toL s) 0 with
    | none => (0, false)
    | some n => if numZ n = s then (n, true) else (0, false)
  else (0, false)
theorem textN_bad {s : ByteArray} (h : ¬ (1 ≤ s.size ∧ s.size ≤ 10)) : textN s = (0, false) := by unfold textN; rw [if_neg h]
theorem textN_none {s : ByteArray} (h : digGo (toL s) 0 = none) : textN s = (0, false) := by unfold textN; rw [h]; split <;> rfl
theorem textN_some {s : ByteArray} {n : Int} (hs : 1 ≤ s.size ∧ s.size ≤ 10) (h : digGo (toL s) 0 = some n) : textN s = if numZ n = s then (n, true) else (0, false) := by unfold textN; rw [if_pos hs, h]
theorem digGo_bound : ∀ (l : List UInt8) (n : Int) (k : Nat), 0 ≤ n → n < 10 ^ k → ∀ m, digGo l n = some m → 0 ≤ m ∧ m < 10 ^ (k + l.length) := by
  intro l
  induction l with
  | nil => intro n k h0 h1 m h; simp [digGo] at h; subst h; exact ⟨h0, by simpa using h1⟩
  | cons c r ih =>
    intro n k h0 h1 m h
    rw [digGo] at h
    split at h
    · rename_i hd
      unfold digB at hd
      rw [decide_eq_true_iff] at hd
      have := ih _ (k + 1) (by omega) (by rw [Int.pow_succ]; omega) m h
      rw [List.length_cons, show k + (r.length + 1) = k + 1 + r.length by omega]; exact this
    · cases h
theorem textN_bound (s : ByteArray) : 0 ≤ (textN s).1 ∧ (textN s).1 ≤ 9999999999 := by
  unfold textN
  split
  · rename_i hs
    split
    · simp
    · rename_i n hn
      have := digGo_bound (toL s) 0 0 (by omega) (by decide) n hn
      rw [toL_len] at this
      have h2 : (10 : Int) ^ (0 + s.size) ≤ 10 ^ 10 := by
        have h3 : (10 : Nat) ^ (0 + s.size) ≤ 10 ^ 10 := Nat.pow_le_pow_right (by decide) (by omega)
        exact_mod_cast h3
      have h4 : (10 : Int) ^ 10 = 10000000000 := by decide
      split <;> simp <;> omega
  · simp
/-! ### arrays out of texts -/
def twoS (s : ByteArray) (b : UInt8) (other : ByteArray) : ByteArray × ByteArray :=
  match partsS s b with
  | [_] => (s, other)
  | [p, q] => (p, q)
  | _ => (ByteArray.empty, ByteArray.empty)
def zeroT : ByteArray := ⟨#[48]⟩
def oneT : ByteArray := ⟨#[49]⟩
def spanI (t : ByteArray) : Span :=
  ⟨(textN (twoS (twoS t 58 oneT).1 45 (twoS t 58 oneT).1).1).1, (textN (twoS (twoS t 58 oneT).1 45 (twoS t 58 oneT).1).2).1, (textN (twoS t 58 oneT).2).1⟩
def hd (l : List ByteArray) : ByteArray := l.headD ByteArray.empty
def snd (l : List ByteArray) : ByteArray := (l.tail).headD ByteArray.empty
def spanS (t : ByteArray) : Span :=
  ⟨(textN (hd (partsS (hd (partsS t 58)) 45))).1,
   if (partsS (hd (partsS t 58)) 45).length = 2 then (textN (snd (partsS (hd (partsS t 58)) 45))).1 else (textN (hd (partsS (hd (partsS t 58)) 45))).1,
   if (partsS t 58).length = 2 then (textN (snd (partsS t 58))).1 else 1⟩
def mostI (s : ByteArray) : Int := (textN (twoS s 37 zeroT).2).1
def mostS (s : ByteArray) : Int := if (partsS s 37).length = 2 then (textN (snd (partsS s 37))).1 else 0
def spansI (s : ByteArray) : List Span := (partsS (twoS s 37 zeroT).1 44).map spanI
def spansS (s : ByteArray) : List Span := (partsS (hd (partsS s 37)) 44).map spanS
def specI (s : ByteArray) : Spec × Bool := if s.size ≠ 0 ∧ specText (spansI s) (mostI s) = s then (⟨spansI s, mostI s⟩, true) else (⟨[], 0⟩, false)
def specS (s : ByteArray) : Spec × Bool := if specB (spansS s) (mostS s) = true ∧ specText (spansS s) (mostS s) = s then (⟨spansS s, mostS s⟩, true) else (⟨[], 0⟩, false)
theorem textN_zero : (textN zeroT).1 = 0 := by decide
theorem textN_one : (textN oneT).1 = 1 := by decide
theorem two_same {s : ByteArray} {b : UInt8} (h : (partsS s b).length ≤ 2) (other : ByteArray) :
    ((partsS s b).length = 2 ∧ twoS s b other = (hd (partsS s b), snd (partsS s b))) ∨ ((partsS s b).length = 1 ∧ hd (partsS s b) = s ∧ twoS s b other = (s, other)) := by
  have h0 := (partsS_len s b).1
  cases hp : partsS s b with
  | nil => rw [hp] at h0; simp at h0
  | cons a r =>
    cases r with
    | nil => right; exact ⟨rfl, partsS_one hp, by unfold twoS; rw [hp]⟩
    | cons c q =>
      cases q with
      | nil => left; exact ⟨rfl, by unfold twoS; rw [hp]; rfl⟩
      | cons d q => rw [hp] at h; simp at h
theorem span_same {t : ByteArray} (h1 : (partsS t 58).length ≤ 2) (h2 : (partsS (hd (partsS t 58)) 45).length ≤ 2) : spanI t = spanS t := by
  have e1 : (twoS t 58 oneT).1 = hd (partsS t 58) := by
    rcases two_same h1 oneT with ⟨_, e⟩ | ⟨_, e', e⟩ <;> rw [e]
    exact e'.symm
  have e2 : (textN (twoS t 58 oneT).2).1 = if (partsS t 58).length = 2 then (textN (snd (partsS t 58))).1 else 1 := by
    rcases two_same h1 oneT with ⟨l, e⟩ | ⟨l, e', e⟩ <;> rw [e, l]
    · rfl
    · exact textN_one
  unfold spanI spanS
  rw [e2, e1]
  rcases two_same h2 (hd (partsS t 58)) with ⟨l, e⟩ | ⟨l, e', e⟩
  · rw [e, l]; rfl
  · rw [e, l, e']; rfl
def Nice (s : ByteArray) : Prop := (partsS s 37).length ≤ 2 ∧ ∀ t ∈ partsS (hd (partsS s 37)) 44, (partsS t 58).length ≤ 2 ∧ (partsS (hd (partsS t 58)) 45).length ≤ 2
theorem nice_same {s : ByteArray} (h : Nice s) : spansI s = spansS s ∧ mostI s = mostS s := by
  obtain ⟨h1, h2⟩ := h
  have e1 : (twoS s 37 zeroT).1 = hd (partsS s 37) := by
    rcases two_same h1 zeroT with ⟨_, e⟩ | ⟨_, e', e⟩ <;> rw [e]
    exact e'.symm
  constructor
  · unfold spansI spansS
    rw [e1]
    exact List.map_congr_left (fun t ht => span_same (h2 t ht).1 (h2 t ht).2)
  · unfold mostI mostS
    rcases two_same h1 zeroT with ⟨l, e⟩ | ⟨l, e', e⟩ <;> rw [e, l]
    · rfl
    · exact textN_zero
end Go.Proofs.Ytlaoflpgngfbpaa
