/- What is free over a time: plain. -/
import Derived.Test.YtgmlcohffdeplaaGreatSmall
import Derived.Test.YtgmlcohffdeplaaGreatChain
namespace Go.Proofs.YtgmlcohffdeplaaGreat
open Go.RowKit
set_option linter.unusedVariables false
def ptB (x : Pt) : Bool := timeB x.At && vecB x.Free
def ptLt (a b : Pt) : Bool := decide (a.At < b.At) && !decide (a.Free.A = b.Free.A ∧ a.Free.B = b.Free.B ∧ a.Free.C = b.Free.C)
def profB (l : List Pt) : Bool := decide (1 ≤ l.length ∧ l.length ≤ 200) && decide ((l.head?.map Pt.At) = some 0) && chainGo ptB ptLt none l
def stepF (t : Int) (v : Vec) (x : Pt) : Vec := if x.At ≤ t then x.Free else v
def freeAt (l : List Pt) (t : Int) : Vec := l.foldl (stepF t) ⟨0, 0, 0⟩
theorem chain_pair {l : List Pt} : ∀ p : Option Pt, chainGo ptB ptLt p l = true → l.Pairwise (fun a b => a.At < b.At) ∧ ∀ q, p = some q → ∀ x ∈ l, q.At < x.At := by
  induction l with
  | nil => intro p _; exact ⟨List.Pairwise.nil, fun q _ x hx => by cases hx⟩
  | cons a r ih =>
    intro p h
    have h' : chainGo ptB ptLt (some a) r = true ∧ ∀ q, p = some q → q.At < a.At := by
      cases p with
      | none => simp [chainGo] at h; exact ⟨h.2, fun q e => by cases e⟩
      | some q =>
        simp [chainGo] at h
        refine ⟨h.2, fun q' e => ?_⟩
        injection e with e; subst e
        have := h.1.2
        unfold ptLt at this
        simp only [Bool.and_eq_true, decide_eq_true_iff] at this
        exact this.1
    obtain ⟨h1, h2⟩ := ih _ h'.1
    refine ⟨List.Pairwise.cons (fun x hx => h2 a rfl x hx) h1, fun q e x hx => ?_⟩
    rcases List.mem_cons.1 hx with rfl | hx
    · exact h'.2 q e
    · have := h'.2 q e; have := h2 a rfl x hx; omega
theorem profB_parts {l : List Pt} (h : profB l = true) : 1 ≤ l.length ∧ l.length ≤ 200 ∧ (∃ x r, l = x :: r ∧ x.At = 0) ∧ l.Pairwise (fun a b => a.At < b.At) ∧ ∀ x ∈ l, ptB x = true := by
  unfold profB at h
  simp only [Bool.and_eq_true, decide_eq_true_iff] at h
  refine ⟨h.1.1.1, h.1.1.2, ?_, (chain_pair none h.2).1, chain_all l none h.2⟩
  cases l with
  | nil => simp at h
  | cons x r => exact ⟨x, r, rfl, by simpa using h.1.2⟩
theorem ptB_parts {x : Pt} (h : ptB x = true) : (0 ≤ x.At ∧ x.At ≤ 1000000000) ∧ (0 ≤ x.Free.A ∧ x.Free.A ≤ 1000000) ∧ (0 ≤ x.Free.B ∧ x.Free.B ≤ 1000000) ∧ (0 ≤ x.Free.C ∧ x.Free.C ≤ 1000000) := by
  unfold ptB timeB vecB at h
  simp only [Bool.and_eq_true, decide_eq_true_iff] at h
  exact ⟨h.1, h.2.1, h.2.2.1, h.2.2.2⟩
theorem fold_skip {t : Int} (r : List Pt) (h : ∀ x ∈ r, t < x.At) : ∀ v, r.foldl (stepF t) v = v := by
  induction r with
  | nil => intro v; rfl
  | cons a r ih =>
    intro v
    have h1 := h a (List.mem_cons_self ..)
    rw [List.foldl_cons, ih (fun x hx => h x (List.mem_cons_of_mem _ hx))]
    unfold stepF; rw [if_neg (by omega)]
theorem freeAt_at {l : List Pt} {k : Nat} {x : Pt} {t : Int} (hs : l.Pairwise (fun a b => a.At < b.At)) (hx : l[k]? = some x) (h1 : x.At ≤ t) (h2 : ∀ y, l[k + 1]? = some y → t < y.At) : freeAt l t = x.Free := by
  unfold freeAt
  rw [split_at hx, List.foldl_append, List.foldl_cons]
  rw [fold_skip]
  · unfold stepF; rw [if_pos h1]
  · intro y hy
    obtain ⟨j, hj, rfl⟩ := List.getElem_of_mem hy
    rw [List.getElem_drop]
    have hl : k + 1 + j < l.length := by rw [List.length_drop] at hj; omega
    have h3 := h2 _ (List.getElem?_eq_getElem (show k + 1 < l.length by omega))
    rcases Nat.eq_zero_or_pos j with rfl | h0
    · exact h3
    · have := List.pairwise_iff_getElem.1 hs (k + 1) (k + 1 + j) (by omega) hl (by omega)
      omega
theorem freeAt_congr {l : List Pt} {t t' : Int} (h : ∀ x ∈ l, (x.At ≤ t' ↔ x.At ≤ t)) : freeAt l t' = freeAt l t := by
  unfold freeAt
  generalize (⟨0, 0, 0⟩ : Vec) = v
  induction l generalizing v with
  | nil => rfl
  | cons a r ih =>
    have h1 := h a (List.mem_cons_self ..)
    rw [List.foldl_cons, List.foldl_cons, ih (fun x hx => h x (List.mem_cons_of_mem _ hx))]
    congr 1
    unfold stepF
    by_cases h2 : a.At ≤ t
    · rw [if_pos h2, if_pos (h1.2 h2)]
    · rw [if_neg h2, if_neg (fun h3 => h2 (h1.1 h3))]
def vecR (v : Vec) : Prop := (0 ≤ v.A ∧ v.A ≤ 1000000) ∧ (0 ≤ v.B ∧ v.B ≤ 1000000) ∧ (0 ≤ v.C ∧ v.C ≤ 1000000)
theorem freeAt_in {l : List Pt} (h : ∀ x ∈ l, ptB x = true) (t : Int) : vecR (freeAt l t) := by
  unfold freeAt
  have h0 : vecR ⟨0, 0, 0⟩ := by unfold vecR; simp
  generalize (⟨0, 0, 0⟩ : Vec) = v at h0
  induction l generalizing v with
  | nil => exact h0
  | cons a r ih =>
    rw [List.foldl_cons]
    refine ih (fun x hx => h x (List.mem_cons_of_mem _ hx)) _ ?_
    unfold stepF; split
    · exact (ptB_parts (h a (List.mem_cons_self ..))).2
    · exact h0
/-! sums -/
def sumN (f : Nat → Int) : Nat → Int
  | 0 => 0
  | n + 1 => sumN f n + f n
theorem sumN_add (f : Nat → Int) (m : Nat) : ∀ n, sumN f (m + n) = sumN f m + sumN (fun i => f (m + i)) n := by
  intro n
  induction n with
  | zero => simp [sumN]
  | succ n ih => rw [← Nat.add_assoc, sumN, ih, sumN]; omega
theorem sumN_const {f : Nat → Int} {v : Int} : ∀ n : Nat, (∀ i, i < n → f i = v) → sumN f n = n * v := by
  intro n
  induction n with
  | zero => intro _; simp [sumN]
  | succ n ih =>
    intro h
    rw [sumN, ih (fun i hi => h i (by omega)), h n (by omega), Int.natCast_succ, Int.add_mul, Int.one_mul]
theorem sumN_bound {f : Nat → Int} {M : Int} : ∀ n : Nat, (∀ i, 0 ≤ f i ∧ f i ≤ M) → 0 ≤ sumN f n ∧ sumN f n ≤ n * M := by
  intro n h
  induction n with
  | zero => simp [sumN]
  | succ n ih => rw [sumN, Int.natCast_succ, Int.add_mul, Int.one_mul]; have := h n; omega
def area (c : Vec → Int) (l : List Pt) (a b : Int) : Int := sumN (fun i => c (freeAt l (a + i))) (b - a).toNat
theorem area_self (c : Vec → Int) (l : List Pt) (a : Int) : area c l a a = 0 := by unfold area; rw [show (a - a).toNat = 0 by omega]; rfl
theorem area_split {c : Vec → Int} {l : List Pt} {a m b : Int} (h1 : a ≤ m) (h2 : m ≤ b) : area c l a b = area c l a m + area c l m b := by
  unfold area
  rw [show (b - a).toNat = (m - a).toNat + (b - m).toNat by omega, sumN_add]
  congr 2
  funext i
  rw [show a + ((((m - a).toNat + i : Nat)) : Int) = m + i by omega]
theorem area_const {c : Vec → Int} {l : List Pt} {a b : Int} {v : Vec} (hab : a ≤ b) (h : ∀ t, a ≤ t → t < b → freeAt l t = v) : area c l a b = (b - a) * c v := by
  unfold area
  rw [sumN_const (v := c v) _ (fun i hi => by rw [h _ (by omega) (by omega)])]
  rw [show (((b - a).toNat : Nat) : Int) = b - a by omega]
theorem area_bound {c : Vec → Int} {l : List Pt} {a b : Int} (hab : a ≤ b) (h : ∀ t, 0 ≤ c (freeAt l t) ∧ c (freeAt l t) ≤ 1000000) : 0 ≤ area c l a b ∧ area c l a b ≤ (b - a) * 1000000 := by
  have := sumN_bound (f := fun i => c (freeAt l (a + i))) (b - a).toNat (fun i => h _)
  unfold area
  rw [show (((b - a).toNat : Nat) : Int) = b - a by omega] at this
  exact this
/-! pieces -/
def bndT (ts : List Int) (to : Int) (k : Nat) : Int := match ts[k]? with | some t => min to t | none => to
def cutT (ts : List Int) (fr to : Int) (k : Nat) : Int := max fr (bndT ts to k)
theorem cutT_le {ts : List Int} {fr to : Int} {k : Nat} (h : fr < to) : fr ≤ cutT ts fr to k ∧ cutT ts fr to k ≤ to := by
  unfold cutT bndT
  cases ts[k]? <;> simp only [] <;> omega
theorem cutT_step {ts : List Int} {fr to t : Int} {k : Nat} (hs : ts.Pairwise (· < ·)) (hk : ts[k]? = some t) (h : fr < to) :
    (bndT ts to (k + 1) - max fr t > 0 → cutT ts fr to k = max fr t ∧ cutT ts fr to (k + 1) = bndT ts to (k + 1)) ∧ (¬ bndT ts to (k + 1) - max fr t > 0 → cutT ts fr to (k + 1) = cutT ts fr to k) := by
  have hlt : ∀ u, ts[k + 1]? = some u → t < u := by
    intro u hu
    obtain ⟨h1, rfl⟩ := List.getElem?_eq_some_iff.1 hk
    obtain ⟨h2, rfl⟩ := List.getElem?_eq_some_iff.1 hu
    exact List.pairwise_iff_getElem.1 hs k (k + 1) h1 h2 (by omega)
  unfold cutT bndT
  rw [hk]
  cases hu : ts[k + 1]? with
  | none => simp only []; omega
  | some u => have := hlt u hu; simp only []; omega
theorem ats_sorted {l : List Pt} (h : l.Pairwise (fun a b => a.At < b.At)) : (l.map Pt.At).Pairwise (· < ·) := List.Pairwise.map _ (fun _ _ h => h) h
/-- The given program's step. -/
theorem area_step {c : Vec → Int} {l : List Pt} {fr to : Int} {k : Nat} {x : Pt} (hs : l.Pairwise (fun a b => a.At < b.At)) (hx : l[k]? = some x) (h : fr < to) :
    (bndT (l.map Pt.At) to (k + 1) - max fr x.At > 0 → area c l fr (cutT (l.map Pt.At) fr to (k + 1)) = area c l fr (cutT (l.map Pt.At) fr to k) + (bndT (l.map Pt.At) to (k + 1) - max fr x.At) * c x.Free) ∧
    (¬ bndT (l.map Pt.At) to (k + 1) - max fr x.At > 0 → area c l fr (cutT (l.map Pt.At) fr to (k + 1)) = area c l fr (cutT (l.map Pt.At) fr to k)) := by
  have hk : (l.map Pt.At)[k]? = some x.At := by simp [hx]
  obtain ⟨h1, h2⟩ := cutT_step (ats_sorted hs) hk h
  refine ⟨fun hp => ?_, fun hp => by rw [h2 hp]⟩
  obtain ⟨e1, e2⟩ := h1 hp
  have hle : fr ≤ max fr x.At := by omega
  rw [area_split (m := cutT (l.map Pt.At) fr to k) (by rw [e1]; omega) (by rw [e1, e2]; omega), e1, e2, area_const (a := max fr x.At) (v := x.Free) (by omega)]
  intro t ht1 ht2
  refine freeAt_at hs hx (by omega) (fun y hy => ?_)
  have : bndT (l.map Pt.At) to (k + 1) = min to y.At := by unfold bndT; simp [hy]
  omega
theorem sorted_gap {ts : List Int} {k : Nat} {t u : Int} (hs : ts.Pairwise (· < ·)) (hk : ts[k]? = some t) (hu : ts[k + 1]? = some u) {y : Int} (hy : y ∈ ts) : y ≤ t ∨ u ≤ y := by
  obtain ⟨h1, rfl⟩ := List.getElem?_eq_some_iff.1 hk
  obtain ⟨h2, rfl⟩ := List.getElem?_eq_some_iff.1 hu
  obtain ⟨j, hj, rfl⟩ := List.getElem_of_mem hy
  rcases Nat.lt_trichotomy j k with h | rfl | h
  · have := List.pairwise_iff_getElem.1 hs j k hj h1 h; omega
  · omega
  · rcases Nat.eq_or_lt_of_le (show k + 1 ≤ j by omega) with rfl | h3
    · omega
    · have := List.pairwise_iff_getElem.1 hs (k + 1) j h2 hj h3; omega
theorem sorted_next {ts : List Int} {k : Nat} {t b : Int} (hs : ts.Pairwise (· < ·)) (hk : ts[k]? = some t) (hb : b ∈ ts) (h : t < b) : ∃ u, ts[k + 1]? = some u ∧ t < u ∧ u ≤ b := by
  obtain ⟨h1, rfl⟩ := List.getElem?_eq_some_iff.1 hk
  obtain ⟨j, hj, rfl⟩ := List.getElem_of_mem hb
  have hkj : k < j := by
    rcases Nat.lt_trichotomy j k with h' | rfl | h'
    · have := List.pairwise_iff_getElem.1 hs j k hj h1 h'; omega
    · omega
    · exact h'
  refine ⟨ts[k + 1]'(by omega), List.getElem?_eq_getElem (by omega), List.pairwise_iff_getElem.1 hs k (k + 1) h1 (by omega) (by omega), ?_⟩
  rcases Nat.eq_or_lt_of_le (show k + 1 ≤ j by omega) with rfl | h3
  · omega
  · have := List.pairwise_iff_getElem.1 hs (k + 1) j (by omega) hj h3; omega
/-- The reference's step. -/
theorem area_stepT {c : Vec → Int} {l : List Pt} {ts : List Int} {fr to : Int} {k : Nat} {t : Int} (hs : ts.Pairwise (· < ·)) (hin : ∀ x ∈ l, x.At ∈ ts) (hto : to ∈ ts) (hk : ts[k]? = some t) (h1 : fr ≤ t) (h2 : t < to) :
    ∃ u, ts[k + 1]? = some u ∧ t < u ∧ u ≤ to ∧ cutT ts fr to k = t ∧ cutT ts fr to (k + 1) = u ∧ area c l fr (cutT ts fr to (k + 1)) = area c l fr (cutT ts fr to k) + (u - t) * c (freeAt l t) ∧ ∀ t', t ≤ t' → t' < u → freeAt l t' = freeAt l t := by
  obtain ⟨u, hu, hlt, hle⟩ := sorted_next hs hk hto h2
  have e1 : cutT ts fr to k = t := by unfold cutT bndT; rw [hk]; simp only []; omega
  have e2 : cutT ts fr to (k + 1) = u := by unfold cutT bndT; rw [hu]; simp only []; omega
  have hc : ∀ t', t ≤ t' → t' < u → freeAt l t' = freeAt l t := by
    intro t' h3 h4
    refine freeAt_congr (fun x hx => ?_)
    rcases sorted_gap hs hk hu (hin x hx) with h5 | h5 <;> constructor <;> intro <;> omega
  refine ⟨u, hu, hlt, hle, e1, e2, ?_, hc⟩
  rw [e1, e2, area_split (m := t) h1 (by omega), area_const (a := t) (v := freeAt l t) (by omega) hc]
theorem cutT_skip {ts : List Int} {fr to : Int} {k : Nat} {t : Int} (hs : ts.Pairwise (· < ·)) (hfr : fr ∈ ts) (hk : ts[k]? = some t) (h : fr < to) (hn : t < fr ∨ to ≤ t) : cutT ts fr to (k + 1) = cutT ts fr to k := by
  rcases hn with hn | hn
  · obtain ⟨u, hu, h1, h2⟩ := sorted_next hs hk hfr hn
    unfold cutT bndT; rw [hk, hu]; simp only []; omega
  · have hlt : ∀ u, ts[k + 1]? = some u → t < u := by
      intro u hu
      obtain ⟨h1, rfl⟩ := List.getElem?_eq_some_iff.1 hk
      obtain ⟨h2, rfl⟩ := List.getElem?_eq_some_iff.1 hu
      exact List.pairwise_iff_getElem.1 hs k (k + 1) h1 h2 (by omega)
    unfold cutT bndT; rw [hk]
    cases hu : ts[k + 1]? with
    | none => simp only []; omega
    | some u => have := hlt u hu; simp only []; omega
theorem cutT_first {ts : List Int} {fr to : Int} (hs : ts.Pairwise (· < ·)) (hfr : fr ∈ ts) (h : fr < to) : cutT ts fr to 0 = fr := by
  obtain ⟨j, hj, rfl⟩ := List.getElem_of_mem hfr
  have h0 : ts[0]? = some (ts[0]'(by omega)) := List.getElem?_eq_getElem (by omega)
  have : ts[0]'(by omega) ≤ ts[j] := by
    rcases Nat.eq_zero_or_pos j with rfl | hp
    · omega
    · have := List.pairwise_iff_getElem.1 hs 0 j (by omega) hj hp; omega
  unfold cutT bndT; rw [h0]; simp only []; omega
theorem cutT_end {ts : List Int} {fr to : Int} (h : fr < to) : cutT ts fr to ts.length = to := by
  unfold cutT bndT; rw [List.getElem?_eq_none (Nat.le_refl _)]; simp only []; omega
/-! times put in -/
def insGo (t : Int) : Bool → List Int → List Int
  | d, [] => if d = true then [] else [t]
  | d, x :: r => (if d = false ∧ t ≤ x then [t] else []) ++ (if x = t then [] else [x]) ++ insGo t (d || decide (t ≤ x)) r
theorem insGo_true (t : Int) : ∀ r, insGo t true r = r.filter (fun x => x ≠ t) := by
  intro r
  induction r with
  | nil => rfl
  | cons a r ih =>
    rw [insGo, if_neg (by simp), Bool.true_or, ih, List.filter_cons]
    by_cases h : a = t <;> simp [h]
theorem insGo_mem (t : Int) : ∀ (r : List Int) (y : Int), y ∈ insGo t false r ↔ y = t ∨ y ∈ r := by
  intro r
  induction r with
  | nil => intro y; simp [insGo]
  | cons a r ih =>
    intro y
    rw [insGo]
    by_cases h : t ≤ a
    · rw [if_pos ⟨rfl, h⟩, show (false || decide (t ≤ a)) = true by simpa using h, insGo_true]
      by_cases h2 : a = t
      · rw [if_pos h2]; subst h2; simp; by_cases hy : y = a <;> simp [hy]
      · rw [if_neg h2]; simp
        by_cases hy : y = t
        · simp [hy]
        · simp [hy]
    · rw [if_neg (by simp; omega), show (false || decide (t ≤ a)) = false by simpa using h, if_neg (by omega)]
      simp [ih]; constructor
      · rintro (h | h | h) <;> simp [h]
      · rintro (h | h | h) <;> simp [h]
theorem insGo_sorted (t : Int) : ∀ r : List Int, r.Pairwise (· < ·) → (insGo t false r).Pairwise (· < ·) := by
  intro r
  induction r with
  | nil => intro _; simp [insGo]
  | cons a r ih =>
    intro h
    rw [List.pairwise_cons] at h
    rw [insGo]
    by_cases h1 : t ≤ a
    · rw [if_pos ⟨rfl, h1⟩, show (false || decide (t ≤ a)) = true by simpa using h1, insGo_true]
      by_cases h2 : a = t
      · rw [if_pos h2]; subst h2
        simp only [List.append_nil, List.cons_append, List.nil_append]
        exact List.pairwise_cons.2 ⟨fun x hx => h.1 x ((List.mem_filter.1 hx).1), h.2.filter _⟩
      · rw [if_neg h2]
        simp only [List.cons_append, List.nil_append]
        refine List.pairwise_cons.2 ⟨fun x hx => ?_, List.pairwise_cons.2 ⟨fun x hx => h.1 x ((List.mem_filter.1 hx).1), h.2.filter _⟩⟩
        rcases List.mem_cons.1 hx with rfl | hx
        · omega
        · have := h.1 x ((List.mem_filter.1 hx).1); omega
    · rw [if_neg (by simp; omega), show (false || decide (t ≤ a)) = false by simpa using h1, if_neg (by omega)]
      simp only [List.cons_append, List.nil_append]
      refine List.pairwise_cons.2 ⟨fun x hx => ?_, ih h.2⟩
      rcases (insGo_mem t r x).1 hx with rfl | hx
      · omega
      · exact h.1 x hx
theorem insGo_len (t : Int) : ∀ (r : List Int) (d : Bool), (insGo t d r).length ≤ r.length + 1 := by
  intro r
  induction r with
  | nil => intro d; cases d <;> simp [insGo]
  | cons a r ih =>
    intro d
    cases d with
    | true => rw [insGo_true]; exact Nat.le_trans (List.length_filter_le _ _) (by omega)
    | false =>
      rw [insGo]
      by_cases h1 : t ≤ a
      · rw [show (false || decide (t ≤ a)) = true by simpa using h1, insGo_true, if_pos ⟨rfl, h1⟩]
        have h3 := List.length_filter_le (fun x => decide (x ≠ t)) r
        by_cases h2 : a = t
        · rw [if_pos h2]; simp only [List.append_nil, List.length_append, List.length_cons, List.length_nil] at *; omega
        · rw [if_neg h2]; simp only [List.length_append, List.length_cons, List.length_nil] at *; omega
      · rw [show (false || decide (t ≤ a)) = false by simpa using h1, if_neg (by simp; omega), if_neg (by omega)]
        have := ih false
        simp only [List.nil_append, List.length_append, List.length_cons, List.length_nil]; omega
def timesL (l : List Pt) (fr to : Int) : List Int := insGo to false (insGo fr false (l.map Pt.At))
theorem timesL_len (l : List Pt) (fr to : Int) : (timesL l fr to).length ≤ l.length + 2 := by
  unfold timesL
  have := insGo_len to (insGo fr false (l.map Pt.At)) false
  have := insGo_len fr (l.map Pt.At) false
  rw [List.length_map] at this; omega
theorem timesL_sorted {l : List Pt} (fr to : Int) (h : l.Pairwise (fun a b => a.At < b.At)) : (timesL l fr to).Pairwise (· < ·) := insGo_sorted _ _ (insGo_sorted _ _ (ats_sorted h))
theorem timesL_mem {l : List Pt} {fr to y : Int} : y ∈ timesL l fr to ↔ y = to ∨ y = fr ∨ ∃ x ∈ l, x.At = y := by
  unfold timesL; rw [insGo_mem, insGo_mem]; simp
/-! fits everywhere -/
theorem find_piece {ts : List Int} : ∀ {t : Int}, (∃ a r, ts = a :: r ∧ a ≤ t) → ∃ (k : Nat) (a : Int), ts[k]? = some a ∧ a ≤ t ∧ ∀ u, ts[k + 1]? = some u → t < u := by
  induction ts with
  | nil => rintro t ⟨a, r, e, _⟩; cases e
  | cons a r ih =>
    rintro t ⟨a', r', e, h⟩
    injection e with e1 e2; subst e1 e2
    cases r with
    | nil => exact ⟨0, a, rfl, h, fun u hu => by simp at hu⟩
    | cons b r =>
      by_cases hb : b ≤ t
      · obtain ⟨k, x, h1, h2, h3⟩ := ih ⟨b, r, rfl, hb⟩
        exact ⟨k + 1, x, by simpa using h1, h2, fun u hu => h3 u (by simpa using hu)⟩
      · exact ⟨0, a, rfl, h, fun u hu => by simp at hu; omega⟩
end Go.Proofs.YtgmlcohffdeplaaGreat
