/- Trees of switches, told by parents: the leaves are equally far from the top just where the levels say so. Plain, no program. -/
import Derived.Test.YtgmlcohffdeplaaGreatBase
namespace Go.Proofs.YtgmlcohffdeplaaGreat
open Go.RowKit
def parN (ps : List Int) (s : Nat) : Nat := (ps.getD s 0).toNat
/-- each parent comes ahead. -/
def upGo : List Int → Nat → Bool
  | [], _ => true
  | p :: r, k => decide (0 ≤ p ∧ p < k) && upGo r (k + 1)
def leafB (ps : List Int) (s : Int) : Bool := !(ps.drop 1).contains s
def dep (ps : List Int) (s : Nat) : Nat := if s = 0 then 0 else if parN ps s < s then 1 + dep ps (parN ps s) else 0
termination_by s
def deepGo (ps : List Int) : Nat → Nat → Int → Bool
  | 0, _, _ => true
  | r + 1, s, d => if leafB ps s = true then (if 0 ≤ d ∧ (dep ps s : Int) ≠ d then false else deepGo ps r (s + 1) (dep ps s)) else deepGo ps r (s + 1) d
def kidsGo : List Int → Nat → Int → List Int
  | [], _, _ => []
  | p :: r, k, s => if (p == s) = true then (k : Int) :: kidsGo r (k + 1) s else kidsGo r (k + 1) s
def kidsL (ps : List Int) (s : Int) : List Int := kidsGo (ps.drop 1) 1 s
def levGo : List Int → Bool → Int → Int
  | [], _, l => l + 1
  | n :: r, first, l => if n < 0 ∨ (first = false ∧ n ≠ l) then -1 else levGo r false n
def levF (ps : List Int) : Nat → Int → Int
  | 0, _ => 0
  | f + 1, s => levGo ((kidsL ps s).map (levF ps f)) true (-1)

theorem upGo_at (l : List Int) : ∀ k : Nat, upGo l k = true → ∀ (j : Nat) (p : Int), l[j]? = some p → 0 ≤ p ∧ p < (k + j : Nat) := by
  induction l with
  | nil => intro k _ j p h; simp at h
  | cons a r ih =>
    intro k h j p hj
    rw [upGo, Bool.and_eq_true, decide_eq_true_iff] at h
    cases j with
    | zero => simp at hj; subst hj; simpa using h.1
    | succ j =>
      have := ih (k + 1) h.2 j p (by simpa using hj)
      rw [show k + 1 + j = k + (j + 1) by omega] at this; exact this
theorem par_lt {ps : List Int} (h : upGo (ps.drop 1) 1 = true) {s : Nat} (h1 : 1 ≤ s) (hs : s < ps.length) : ps[s] = (parN ps s : Int) ∧ parN ps s < s := by
  have := upGo_at _ _ h (s - 1) ps[s] (by rw [List.getElem?_drop, show 1 + (s - 1) = s by omega]; exact List.getElem?_eq_getElem hs)
  unfold parN
  rw [List.getD_eq_getElem?_getD, List.getElem?_eq_getElem hs]
  simp only [Option.getD_some]
  omega
theorem kids_mem (l : List Int) (s : Int) : ∀ k : Nat, ∀ c, c ∈ kidsGo l k s ↔ ∃ j, c = ((k + j : Nat) : Int) ∧ l[j]? = some s := by
  induction l with
  | nil => intro k c; simp [kidsGo]
  | cons a r ih =>
    intro k c
    have hr : (c ∈ kidsGo r (k + 1) s) ↔ ∃ j, c = ((k + (j + 1) : Nat) : Int) ∧ (a :: r)[j + 1]? = some s := by
      rw [ih]; simp only [List.getElem?_cons_succ, show ∀ j, k + 1 + j = k + (j + 1) from fun j => by omega]
    rw [kidsGo]
    by_cases e : (a == s) = true
    · rw [if_pos e, List.mem_cons, hr]
      rw [beq_iff_eq] at e
      constructor
      · rintro (rfl | ⟨j, h1, h2⟩)
        · exact ⟨0, rfl, by simp [e]⟩
        · exact ⟨j + 1, h1, h2⟩
      · rintro ⟨j, h1, h2⟩
        cases j with
        | zero => exact .inl h1
        | succ j => exact .inr ⟨j, h1, h2⟩
    · rw [if_neg e, hr]
      rw [beq_iff_eq] at e
      constructor
      · rintro ⟨j, h1, h2⟩; exact ⟨j + 1, h1, h2⟩
      · rintro ⟨j, h1, h2⟩
        cases j with
        | zero => simp at h2; exact absurd h2 e
        | succ j => exact ⟨j, h1, h2⟩
theorem kidsL_mem {ps : List Int} {s c : Int} : c ∈ kidsL ps s ↔ ∃ k : Nat, c = (k : Int) ∧ 1 ≤ k ∧ ps[k]? = some s := by
  unfold kidsL
  rw [kids_mem]
  constructor
  · rintro ⟨j, h1, h2⟩; rw [List.getElem?_drop] at h2; exact ⟨1 + j, h1, by omega, h2⟩
  · rintro ⟨k, h1, h2, h3⟩; exact ⟨k - 1, by rw [h1]; congr 1; omega, by rw [List.getElem?_drop, show 1 + (k - 1) = k by omega]; exact h3⟩
theorem kids_nil {ps : List Int} {s : Int} : (kidsL ps s).isEmpty = leafB ps s := by
  unfold leafB
  rw [Bool.eq_iff_iff, List.isEmpty_iff, Bool.not_eq_true', ← Bool.not_eq_true, List.contains_iff_mem]
  constructor
  · intro h hm
    obtain ⟨j, hj⟩ := List.mem_iff_getElem?.1 hm
    rw [List.getElem?_drop] at hj
    have : ((1 + j : Nat) : Int) ∈ kidsL ps s := kidsL_mem.2 ⟨1 + j, rfl, by omega, hj⟩
    rw [h] at this; cases this
  · intro h
    apply List.eq_nil_iff_forall_not_mem.2
    intro c hc
    obtain ⟨k, _, h1, h2⟩ := kidsL_mem.1 hc
    exact h (List.mem_iff_getElem?.2 ⟨k - 1, by rw [List.getElem?_drop, show 1 + (k - 1) = k by omega]; exact h2⟩)
/-- x is s or below it. -/
inductive Und (ps : List Int) (s : Nat) : Nat → Prop
  | refl : Und ps s s
  | step (x : Nat) : 1 ≤ x → x < ps.length → Und ps s (parN ps x) → Und ps s x
theorem Und.trans {ps : List Int} {a b x : Nat} (h : Und ps a b) (k : Und ps b x) : Und ps a x := by
  induction k with
  | refl => exact h
  | step x h1 h2 _ ih => exact .step x h1 h2 ih
theorem und_kid {ps : List Int} {s x : Nat} (h : Und ps s x) : x = s ∨ ∃ k, 1 ≤ k ∧ k < ps.length ∧ parN ps k = s ∧ Und ps k x := by
  induction h with
  | refl => exact .inl rfl
  | step x h1 h2 _ ih =>
    rcases ih with ih | ⟨k, h3, h4, h5, h6⟩
    · exact .inr ⟨x, h1, h2, ih, .refl⟩
    · exact .inr ⟨k, h3, h4, h5, .step x h1 h2 h6⟩
theorem und_top {ps : List Int} (h : upGo (ps.drop 1) 1 = true) : ∀ x, x < ps.length → Und ps 0 x := by
  intro x
  induction x using Nat.strongRecOn with
  | ind x ih =>
    intro hx
    rcases Nat.eq_zero_or_pos x with rfl | h0
    · exact .refl
    · have := (par_lt h h0 hx).2
      exact .step x h0 hx (ih _ this (by omega))
theorem dep_kid {ps : List Int} (h : upGo (ps.drop 1) 1 = true) {k : Nat} (h1 : 1 ≤ k) (hk : k < ps.length) : dep ps k = 1 + dep ps (parN ps k) := by
  rw [dep, if_neg (by omega), if_pos (par_lt h h1 hk).2]
theorem levGo_false (L : List Int) : ∀ l : Int, 0 ≤ l → (0 ≤ levGo L false l ∧ levGo L false l = l + 1 ∧ ∀ n ∈ L, n = l) ∨ (levGo L false l < 0 ∧ ((∃ n ∈ L, n < 0) ∨ ∃ n ∈ L, 0 ≤ n ∧ n ≠ l)) := by
  induction L with
  | nil => intro l hl; left; rw [levGo]; exact ⟨by omega, rfl, fun n hn => by cases hn⟩
  | cons a r ih =>
    intro l hl
    rw [levGo]
    by_cases h : a < 0 ∨ (false = false ∧ a ≠ l)
    · rw [if_pos h]; right
      refine ⟨by omega, ?_⟩
      rcases h with h | ⟨_, h⟩
      · exact .inl ⟨a, List.mem_cons_self .., h⟩
      · rcases Int.lt_or_le a 0 with h2 | h2
        · exact .inl ⟨a, List.mem_cons_self .., h2⟩
        · exact .inr ⟨a, List.mem_cons_self .., h2, h⟩
    · rw [if_neg h]
      have ha : a = l := by
        by_cases e : a = l
        · exact e
        · exact absurd (.inr ⟨rfl, e⟩) h
      subst ha
      rcases ih a hl with ⟨h1, h2, h3⟩ | ⟨h1, h2⟩
      · left; refine ⟨h1, h2, fun n hn => ?_⟩
        rcases List.mem_cons.1 hn with rfl | hn
        · rfl
        · exact h3 n hn
      · right; refine ⟨h1, ?_⟩
        rcases h2 with ⟨n, hn, h2⟩ | ⟨n, hn, h2, h3⟩
        · exact .inl ⟨n, List.mem_cons_of_mem _ hn, h2⟩
        · exact .inr ⟨n, List.mem_cons_of_mem _ hn, h2, h3⟩
theorem levGo_true (L : List Int) : (L = [] ∧ levGo L true (-1) = 0) ∨ (∃ v, 0 ≤ v ∧ v ∈ L ∧ levGo L true (-1) = v + 1 ∧ ∀ n ∈ L, n = v) ∨ (levGo L true (-1) < 0 ∧ ((∃ n ∈ L, n < 0) ∨ ∃ a ∈ L, ∃ b ∈ L, 0 ≤ a ∧ 0 ≤ b ∧ a ≠ b)) := by
  cases L with
  | nil => exact .inl ⟨rfl, rfl⟩
  | cons a r =>
    right
    rw [levGo]
    by_cases h : a < 0
    · right; rw [if_pos (.inl h)]; exact ⟨by omega, .inl ⟨a, List.mem_cons_self .., h⟩⟩
    · rw [if_neg (by rintro (h1 | ⟨h1, _⟩); exact h h1; cases h1)]
      rcases levGo_false r a (by omega) with ⟨h1, h2, h3⟩ | ⟨h1, h2⟩
      · left
        refine ⟨a, by omega, List.mem_cons_self .., h2, fun n hn => ?_⟩
        rcases List.mem_cons.1 hn with rfl | hn
        · rfl
        · exact h3 n hn
      · right; refine ⟨h1, ?_⟩
        rcases h2 with ⟨n, hn, h2⟩ | ⟨n, hn, h2, h3⟩
        · exact .inl ⟨n, List.mem_cons_of_mem _ hn, h2⟩
        · exact .inr ⟨n, List.mem_cons_of_mem _ hn, a, List.mem_cons_self .., h2, by omega, h3⟩
def SameFar (ps : List Int) (s : Nat) : Prop := ∀ x y, x < ps.length → y < ps.length → leafB ps x = true → leafB ps y = true → Und ps s x → Und ps s y → dep ps x = dep ps y
theorem lev_spec {ps : List Int} (h : upGo (ps.drop 1) 1 = true) : ∀ f s, s < ps.length → ps.length - s ≤ f →
    (0 ≤ levF ps f s ∧ (∀ x, x < ps.length → leafB ps x = true → Und ps s x → (dep ps x : Int) = dep ps s + levF ps f s) ∧ ∃ x, x < ps.length ∧ leafB ps x = true ∧ Und ps s x)
    ∨ (levF ps f s < 0 ∧ ∃ x y, x < ps.length ∧ y < ps.length ∧ leafB ps x = true ∧ leafB ps y = true ∧ Und ps s x ∧ Und ps s y ∧ dep ps x ≠ dep ps y) := by
  intro f
  induction f with
  | zero => intro s hs hf; omega
  | succ f ih =>
    intro s hs hf
    have kid : ∀ c, c ∈ kidsL ps s → ∃ k : Nat, c = (k : Int) ∧ 1 ≤ k ∧ k < ps.length ∧ parN ps k = s ∧ s < k := by
      intro c hc
      obtain ⟨k, h1, h2, h3⟩ := kidsL_mem.1 hc
      obtain ⟨h4, h5⟩ := List.getElem?_eq_some_iff.1 h3
      obtain ⟨h6, h7⟩ := par_lt h h2 h4
      have e : parN ps k = s := by rw [h5] at h6; omega
      exact ⟨k, h1, h2, h4, e, by omega⟩
    have kid' : ∀ k : Nat, 1 ≤ k → k < ps.length → parN ps k = s → (k : Int) ∈ kidsL ps s := by
      intro k h1 h2 h3
      refine kidsL_mem.2 ⟨k, rfl, h1, ?_⟩
      rw [List.getElem?_eq_getElem h2, (par_lt h h1 h2).1, h3]
    have up : ∀ k x, 1 ≤ k → k < ps.length → parN ps k = s → Und ps k x → Und ps s x := fun k x h1 h2 h3 hx => (Und.step k h1 h2 (by rw [h3]; exact .refl)).trans hx
    rw [levF]
    rcases levGo_true ((kidsL ps s).map (levF ps f)) with ⟨h1, h2⟩ | ⟨v, h1, h2, h3, h4⟩ | ⟨h1, h2⟩
    · left
      rw [h2]
      have hk : kidsL ps s = [] := List.map_eq_nil_iff.1 h1
      have hl : leafB ps s = true := by rw [← kids_nil, hk]; rfl
      refine ⟨by omega, fun x hx hlx hu => ?_, s, hs, hl, .refl⟩
      rcases und_kid hu with rfl | ⟨k, h3, h4, h5, _⟩
      · omega
      · have := kid' k h3 h4 h5; rw [hk] at this; cases this
    · left
      rw [h3]
      refine ⟨by omega, fun x hx hlx hu => ?_, ?_⟩
      · rcases und_kid hu with rfl | ⟨k, h5, h6, h7, h8⟩
        · have : (kidsL ps x).isEmpty = true := by rw [kids_nil]; exact hlx
          rw [List.isEmpty_iff.1 this] at h2; cases h2
        · have hm := h4 _ (List.mem_map.2 ⟨_, kid' k h5 h6 h7, rfl⟩)
          obtain ⟨_, _, _, _, _, hks⟩ := kid k (kid' k h5 h6 h7)
          rcases ih k h6 (by omega) with ⟨i1, i2, _⟩ | ⟨i1, _⟩
          · have := i2 x hx hlx h8
            rw [hm] at this
            rw [this, dep_kid h h5 h6, h7]; omega
          · omega
      · obtain ⟨c, hc, hv⟩ := List.mem_map.1 h2
        obtain ⟨k, rfl, h5, h6, h7, h8⟩ := kid c hc
        rcases ih k h6 (by omega) with ⟨_, _, x, i1, i2, i3⟩ | ⟨i1, _⟩
        · exact ⟨x, i1, i2, up k x h5 h6 h7 i3⟩
        · omega
    · right
      refine ⟨h1, ?_⟩
      rcases h2 with ⟨n, hn, h2⟩ | ⟨a, ha, b, hb, h2, h3, h4⟩
      · obtain ⟨c, hc, hv⟩ := List.mem_map.1 hn
        obtain ⟨k, rfl, h5, h6, h7, h8⟩ := kid c hc
        rcases ih k h6 (by omega) with ⟨i1, _⟩ | ⟨_, x, y, i1, i2, i3, i4, i5, i6, i7⟩
        · omega
        · exact ⟨x, y, i1, i2, i3, i4, up k x h5 h6 h7 i5, up k y h5 h6 h7 i6, i7⟩
      · obtain ⟨c, hc, hv⟩ := List.mem_map.1 ha
        obtain ⟨d, hd, hw⟩ := List.mem_map.1 hb
        obtain ⟨k, rfl, h5, h6, h7, h8⟩ := kid c hc
        obtain ⟨m, rfl, g5, g6, g7, g8⟩ := kid d hd
        rcases ih k h6 (by omega) with ⟨_, i2, x, i3, i4, i5⟩ | ⟨i1, _⟩
        · rcases ih m g6 (by omega) with ⟨_, j2, y, j3, j4, j5⟩ | ⟨j1, _⟩
          · refine ⟨x, y, i3, j3, i4, j4, up k x h5 h6 h7 i5, up m y g5 g6 g7 j5, ?_⟩
            have e1 := i2 x i3 i4 i5
            have e2 := j2 y j3 j4 j5
            have d1 := dep_kid h h5 h6
            have d2 := dep_kid h g5 g6
            rw [h7] at d1; rw [g7] at d2
            omega
          · omega
        · omega
theorem deep_nn (ps : List Int) : ∀ r s (d : Int), 0 ≤ d → (deepGo ps r s d = true ↔ ∀ x, s ≤ x → x < s + r → leafB ps x = true → (dep ps x : Int) = d) := by
  intro r
  induction r with
  | zero => intro s d _; rw [deepGo]; exact ⟨fun _ x h1 h2 => by omega, fun _ => rfl⟩
  | succ r ih =>
    intro s d hd
    rw [deepGo]
    by_cases hl : leafB ps s = true
    · rw [if_pos hl]
      by_cases he : (dep ps s : Int) = d
      · rw [if_neg (by rintro ⟨_, h⟩; exact h he), ih _ _ (by omega)]
        constructor
        · intro h x h1 h2 h3
          rcases Nat.eq_or_lt_of_le h1 with rfl | h1
          · exact he
          · rw [h x h1 (by omega) h3]; exact he
        · intro h x h1 h2 h3
          rw [h x (by omega) (by omega) h3]; exact he.symm
      · rw [if_pos ⟨hd, he⟩]
        exact ⟨(fun h => by cases h), fun h => absurd (h s (Nat.le_refl _) (by omega) hl) he⟩
    · rw [if_neg hl, ih _ _ hd]
      constructor
      · intro h x h1 h2 h3
        rcases Nat.eq_or_lt_of_le h1 with rfl | h1
        · exact absurd h3 hl
        · exact h x h1 (by omega) h3
      · intro h x h1 h2 h3; exact h x (by omega) (by omega) h3
theorem deep_neg (ps : List Int) : ∀ r s, (deepGo ps r s (-1) = true ↔ ∀ x y, s ≤ x → x < s + r → s ≤ y → y < s + r → leafB ps x = true → leafB ps y = true → dep ps x = dep ps y) := by
  intro r
  induction r with
  | zero => intro s; rw [deepGo]; exact ⟨fun _ x y h1 h2 => by omega, fun _ => rfl⟩
  | succ r ih =>
    intro s
    rw [deepGo]
    by_cases hl : leafB ps s = true
    · rw [if_pos hl, if_neg (by rintro ⟨h, _⟩; omega), deep_nn _ _ _ _ (by omega)]
      constructor
      · intro h
        have key : ∀ x, s ≤ x → x < s + (r + 1) → leafB ps x = true → dep ps x = dep ps s := fun x h1 h2 h3 => by
          rcases Nat.eq_or_lt_of_le h1 with rfl | h1
          · rfl
          · have := h x h1 (by omega) h3; omega
        intro x y h1 h2 h3 h4 h5 h6
        rw [key x h1 h2 h5, key y h3 h4 h6]
      · intro h x h1 h2 h3
        have := h x s (by omega) (by omega) (by omega) (by omega) h3 hl; omega
    · rw [if_neg hl, ih]
      constructor
      · intro h x y h1 h2 h3 h4 h5 h6
        rcases Nat.eq_or_lt_of_le h1 with rfl | h1
        · exact absurd h5 hl
        · rcases Nat.eq_or_lt_of_le h3 with rfl | h3
          · exact absurd h6 hl
          · exact h x y h1 (by omega) h3 (by omega) h5 h6
      · intro h x y h1 h2 h3 h4 h5 h6; exact h x y (by omega) (by omega) (by omega) (by omega) h5 h6
/-- The leaves are equally far just where the level of the top is told. -/
theorem deep_lev {ps : List Int} (h : upGo (ps.drop 1) 1 = true) (h0 : 0 < ps.length) {f : Nat} (hf : ps.length ≤ f) : deepGo ps ps.length 0 (-1) = decide (0 ≤ levF ps f 0) := by
  rw [Bool.eq_iff_iff, deep_neg, decide_eq_true_iff]
  have hs := lev_spec h f 0 h0 (by omega)
  constructor
  · intro hd
    rcases hs with ⟨h1, _⟩ | ⟨_, x, y, h1, h2, h3, h4, _, _, h5⟩
    · exact h1
    · exact absurd (hd x y (Nat.zero_le _) (by omega) (Nat.zero_le _) (by omega) h3 h4) h5
  · intro hl x y _ h1 _ h2 h3 h4
    rcases hs with ⟨_, h5, _⟩ | ⟨h5, _⟩
    · have e1 := h5 x (by omega) h3 (und_top h x (by omega))
      have e2 := h5 y (by omega) h4 (und_top h y (by omega))
      omega
    · have : levF ps f ((0 : Nat) : Int) = levF ps f 0 := rfl
      omega
end Go.Proofs.YtgmlcohffdeplaaGreat
