/- The laws on ranks and on charging, in plain words: for FnRanks and FnCharge. -/
import Derived.Test.YtbfambeoboiifaaRank2
namespace Go.Proofs.Ytbfambeoboiifaa
open Go.RowKit
set_option linter.unusedVariables false
theorem bl_irrefl (a : List UInt8) : Op.bytesLess a a = false := by
  induction a with
  | nil => rfl
  | cons x r ih => simp [Op.bytesLess, ih]
theorem bl_trans : ∀ a b c : List UInt8, Op.bytesLess a b = true → Op.bytesLess b c = true → Op.bytesLess a c = true
  | _, _, [], _, h => by simp [Op.bytesLess] at h
  | _, [], _ :: _, h, _ => by simp [Op.bytesLess] at h
  | [], _ :: _, _ :: _, _, _ => by simp [Op.bytesLess]
  | a :: x, b :: y, c :: z, h, k => by
    simp only [Op.bytesLess, Bool.or_eq_true, decide_eq_true_eq, Bool.and_eq_true, beq_iff_eq] at h k ⊢
    rcases h with h | ⟨rfl, h⟩
    · rcases k with k | ⟨rfl, k⟩
      · exact .inl (UInt8.lt_trans h k)
      · exact .inl h
    · rcases k with k | ⟨rfl, k⟩
      · exact .inl k
      · exact .inr ⟨rfl, bl_trans x y z h k⟩
theorem bl_tri : ∀ a b : List UInt8, Op.bytesLess a b = true ∨ a = b ∨ Op.bytesLess b a = true
  | [], [] => .inr (.inl rfl)
  | [], _ :: _ => .inl rfl
  | _ :: _, [] => .inr (.inr rfl)
  | a :: x, b :: y => by
    simp only [Op.bytesLess, Bool.or_eq_true, decide_eq_true_eq, Bool.and_eq_true, beq_iff_eq, List.cons.injEq]
    have ht : a < b ∨ a = b ∨ b < a := by
      rw [UInt8.lt_iff_toNat_lt, UInt8.lt_iff_toNat_lt, ← UInt8.toNat_inj]; omega
    rcases ht with h | rfl | h
    · exact .inl (.inl h)
    · rcases bl_tri x y with h | rfl | h
      · exact .inl (.inr ⟨rfl, h⟩)
      · exact .inr (.inl ⟨rfl, rfl⟩)
      · exact .inr (.inr (.inr ⟨rfl, h⟩))
    · exact .inr (.inr (.inl h))
theorem cross {xU xS aU aS bU bS : Int} (h1 : xU * aS ≤ aU * xS) (h2 : aU * bS ≤ bU * aS) (hx : 0 < xS) (ha : 0 < aS) (hb : 0 < bS) :
    xU * bS < bU * xS ∨ (xU * bS = bU * xS ∧ xU * aS = aU * xS ∧ aU * bS = bU * aS) := by
  have e1 := Int.mul_le_mul_of_nonneg_right h1 (Int.le_of_lt hb)
  have e2 := Int.mul_le_mul_of_nonneg_right h2 (Int.le_of_lt hx)
  rw [Int.mul_right_comm xU aS bS, Int.mul_right_comm aU xS bS] at e1
  rw [Int.mul_right_comm bU aS xS] at e2
  rcases Int.lt_trichotomy (xU * bS) (bU * xS) with h | h | h
  · exact .inl h
  · right
    have e3 : bU * xS * aS = xU * bS * aS := by rw [h]
    refine ⟨h, ?_, ?_⟩
    · apply Int.eq_of_mul_eq_mul_right (show bS ≠ 0 by omega)
      rw [Int.mul_right_comm xU aS bS, Int.mul_right_comm aU xS bS]; omega
    · apply Int.eq_of_mul_eq_mul_right (show xS ≠ 0 by omega)
      rw [Int.mul_right_comm bU aS xS]; omega
  · have e3 := Int.mul_lt_mul_of_pos_right h ha
    omega
theorem ahead_trans {x a b : Account} (hx : 0 < x.Share) (ha : 0 < a.Share) (hb : 0 < b.Share) (h : aheadB x a = true) (k : aheadB a b = true) : aheadB x b = true := by
  unfold aheadB at h k ⊢
  simp only [Bool.or_eq_true, decide_eq_true_eq, Bool.and_eq_true, beq_iff_eq] at h k ⊢
  have h1 : x.Used * a.Share ≤ a.Used * x.Share := by rcases h with h | ⟨h, _⟩ <;> omega
  have h2 : a.Used * b.Share ≤ b.Used * a.Share := by rcases k with k | ⟨k, _⟩ <;> omega
  rcases cross h1 h2 hx ha hb with g | ⟨g, g1, g2⟩
  · exact .inl g
  · rcases h with h | ⟨_, h⟩
    · omega
    · rcases k with k | ⟨_, k⟩
      · omega
      · exact .inr ⟨g, bl_trans _ _ _ h k⟩
theorem ahead_irrefl (a : Account) : aheadB a a = false := by simp [aheadB, bl_irrefl]
theorem ahead_total {a b : Account} (h : a.Name.toList ≠ b.Name.toList) : aheadB a b = true ∨ aheadB b a = true := by
  unfold aheadB
  simp only [Bool.or_eq_true, decide_eq_true_eq, Bool.and_eq_true, beq_iff_eq]
  rcases Int.lt_trichotomy (a.Used * b.Share) (b.Used * a.Share) with g | g | g
  · exact .inl (.inl g)
  · rcases bl_tri a.Name.toList b.Name.toList with t | t | t
    · exact .inl (.inr ⟨g, t⟩)
    · exact absurd t h
    · exact .inr (.inr ⟨g.symm, t⟩)
  · exact .inr (.inl g)
theorem countP_lt' {α : Type} {p q : α → Bool} {l : List α} {a : α} (h : ∀ x ∈ l, p x = true → q x = true) (ha : a ∈ l) (hp : p a = false) (hq : q a = true) : l.countP p < l.countP q := by
  induction l with
  | nil => cases ha
  | cons y r ih =>
    have hr := List.countP_mono_left (p := p) (q := q) (l := r) (fun x hx => h x (List.mem_cons_of_mem _ hx))
    rw [List.countP_cons, List.countP_cons]
    rcases List.mem_cons.1 ha with rfl | ha
    · rw [hp, hq]; simp; omega
    · have := ih (fun x hx => h x (List.mem_cons_of_mem _ hx)) ha
      have hy := h y (List.mem_cons_self ..)
      by_cases e : p y = true
      · rw [e, hy e]; simp; omega
      · rw [if_neg e]; split <;> omega
theorem rank_less {l : List Account} (hg : ∀ x ∈ l, 0 < x.Share) {a b : Account} (ha : a ∈ l) (hb : b ∈ l) (h : aheadB a b = true) : rankN l a < rankN l b :=
  countP_lt' (fun x hx hxa => ahead_trans (hg x hx) (hg a ha) (hg b hb) hxa h) ha (ahead_irrefl a) h
theorem rank_low {l : List Account} {a : Account} (ha : a ∈ l) : rankN l a < l.length := by
  have := countP_lt' (p := (aheadB · a)) (q := fun _ => true) (l := l) (a := a) (fun _ _ _ => rfl) ha (ahead_irrefl a) rfl
  simpa [rankN] using this
theorem chain_pair {α : Type} {ok : α → Bool} {lt : α → α → Bool} (ht : ∀ a b c, lt a b = true → lt b c = true → lt a c = true) (l : List α) : ∀ p, chainGo ok lt p l = true → (∀ q, p = some q → ∀ x ∈ l, lt q x = true) ∧ l.Pairwise (fun a b => lt a b = true) := by
  induction l with
  | nil => intro p _; exact ⟨fun q _ x hx => (by cases hx), List.Pairwise.nil⟩
  | cons a r ih =>
    intro p h
    have hr : chainGo ok lt (some a) r = true ∧ ∀ q, p = some q → lt q a = true := by
      cases p with
      | none => simp [chainGo] at h; exact ⟨h.2, fun q hq => by cases hq⟩
      | some q0 => simp [chainGo] at h; exact ⟨h.2, fun q hq => by injection hq with hq; rw [← hq]; exact h.1.2⟩
    obtain ⟨h1, h2⟩ := ih _ hr.1
    refine ⟨fun q hq x hx => ?_, List.pairwise_cons.2 ⟨fun x hx => h1 a rfl x hx, h2⟩⟩
    rcases List.mem_cons.1 hx with rfl | hx
    · exact hr.2 q hq
    · exact ht _ _ _ (hr.2 q hq) (h1 a rfl x hx)
theorem accts_names {l : List Account} (h : acctsB l = true) {i j : Nat} (hij : i < j) {a b : Account} (ha : l[i]? = some a) (hb : l[j]? = some b) : a.Name.toList ≠ b.Name.toList := by
  unfold acctsB at h
  rw [Bool.and_eq_true] at h
  have ht : ∀ a b c : Account, nameLtB a.Name b.Name = true → nameLtB b.Name c.Name = true → nameLtB a.Name c.Name = true := fun a b c h1 h2 => by
    unfold nameLtB at *; exact bl_trans _ _ _ h1 h2
  have hp := (chain_pair ht l none h.1).2
  obtain ⟨h1, rfl⟩ := List.getElem?_eq_some_iff.1 ha
  obtain ⟨h2, rfl⟩ := List.getElem?_eq_some_iff.1 hb
  have := List.pairwise_iff_getElem.1 hp i j h1 h2 hij
  intro e
  unfold nameLtB at this
  rw [e, bl_irrefl] at this; cases this
theorem ranks_get {l : List Account} (h : acctsB l = true) {i : Nat} {a : Account} (ha : l[i]? = some a) : (ranksL l)[i]? = some (rankN l a : Int) := by
  rw [ranksL, if_pos h, List.getElem?_map, ha]; rfl
theorem ranks_new {l : List Account} (h : acctsB l = true) {i : Nat} {a : Account} (ha : l[i]? = some a) : ((ranksL l).take i).contains (rankN l a : Int) = false := by
  rw [← Bool.not_eq_true, List.contains_iff_mem]
  intro hm
  obtain ⟨j, hj⟩ := List.mem_iff_getElem?.1 hm
  rw [List.getElem?_take] at hj
  split at hj
  · rename_i hji
    obtain ⟨hil, _⟩ := List.getElem?_eq_some_iff.1 ha
    have hb : l[j]? = some (l[j]'(by omega)) := List.getElem?_eq_getElem (by omega)
    rw [ranks_get h hb] at hj
    injection hj with hj
    have hg : ∀ x ∈ l, 0 < x.Share := fun x hx => by have := acctsB_ok h x hx; omega
    have hn := accts_names h hji hb ha
    have m1 := List.mem_of_getElem? hb
    have m2 := List.mem_of_getElem? ha
    rcases ahead_total hn with g | g
    · have := rank_less hg m1 m2 g; omega
    · have := rank_less hg m2 m1 g; omega
  · cases hj
theorem idxGo_at (name : ByteArray) (l : List Account) : ∀ (k i : Nat) (a : Account), l[i]? = some a → a.Name = name → (∀ j b, j < i → l[j]? = some b → b.Name.toList ≠ name.toList) → idxGo name l k = ((k + i : Nat) : Int) := by
  induction l with
  | nil => intro k i a h; simp at h
  | cons x r ih =>
    intro k i a h hn hb
    cases i with
    | zero => simp at h; subst h; rw [idxGo, if_pos (by rw [hn]; simp)]; rfl
    | succ i =>
      rw [idxGo, if_neg (by rw [beq_iff_eq]; exact hb 0 x (by omega) rfl), ih (k + 1) i a (by simpa using h) hn (fun j b hj hjb => hb (j + 1) b (by omega) (by simpa using hjb))]
      congr 1; omega
theorem acctAt_at {l : List Account} (h : acctsB l = true) {i : Nat} {a : Account} (ha : l[i]? = some a) : acctAt l a.Name = i := by
  rw [acctAt, if_pos h, idxGo_at a.Name l 0 i a ha rfl (fun j b hj hb => accts_names h hj hb ha)]; simp
theorem prio_at {l : List Account} (h : acctsB l = true) {i : Nat} {a : Account} (ha : l[i]? = some a) : rankPrioI l a.Name 999 = 999 - (rankN l a : Int) := by
  unfold rankPrioI
  rw [acctAt_at h ha, if_pos (by simp [withinB]), Int.toNat_natCast, ranks_get h ha]
  have := rank_low (List.mem_of_getElem? ha)
  have h2 := acctsB_len h
  simp only [Option.getD_some]; omega
/-- charging -/
theorem charge_get {l : List Account} {name : ByteArray} {q : Int} (h : chargeB l name q = true) {i : Nat} {a : Account} (ha : l[i]? = some a) : (chargeL l name q)[i]? = some (if (acctAt l name).toNat = i then addUsed a q else a) := by
  rw [chargeL, if_pos h, List.getElem?_modify, ha]; rfl
theorem idxGo_name (name : ByteArray) (l : List Account) : ∀ (k : Nat) (i : Nat) (a : Account), idxGo name l k = ((k + i : Nat) : Int) → l[i]? = some a → a.Name.toList = name.toList := by
  induction l with
  | nil => intro k i a _ h; simp at h
  | cons x r ih =>
    intro k i a h ha
    rw [idxGo] at h
    by_cases e : (x.Name.toList == name.toList) = true
    · rw [if_pos e] at h
      obtain rfl : i = 0 := by omega
      simp at ha; subst ha; simpa using e
    · rw [if_neg e] at h
      cases i with
      | zero =>
        rcases idxGo_lt name r (k + 1) with g | g <;> omega
      | succ i => exact ih (k + 1) i a (by rw [h]; congr 1; omega) (by simpa using ha)
theorem chain_same {l : List Account} : ∀ {m : List Account}, l.length = m.length → (∀ (i : Nat) (a b : Account), l[i]? = some a → m[i]? = some b → a.Name = b.Name ∧ (acctOkB a = true → acctOkB b = true)) → ∀ p q : Option Account, p.map Account.Name = q.map Account.Name →
    chainGo acctOkB (fun p a => nameLtB p.Name a.Name) p l = true → chainGo acctOkB (fun p a => nameLtB p.Name a.Name) q m = true := by
  induction l with
  | nil => intro m hl _ p q _ _; rw [List.eq_nil_of_length_eq_zero hl.symm]; cases q <;> rfl
  | cons a r ih =>
    intro m hl hs p q hpq h
    cases m with
    | nil => simp at hl
    | cons b s =>
      obtain ⟨hn, hok⟩ := hs 0 a b rfl rfl
      have hrest := ih (m := s) (by simpa using hl) (fun i x y hx hy => hs (i + 1) x y (by simpa using hx) (by simpa using hy)) (some a) (some b) (by simp [hn])
      cases p with
      | none =>
        cases q with
        | none => simp [chainGo] at h ⊢; exact ⟨hok h.1, hrest h.2⟩
        | some q => simp at hpq
      | some p =>
        cases q with
        | none => simp at hpq
        | some q =>
          simp at hpq
          simp [chainGo] at h ⊢
          exact ⟨⟨hok h.1.1, by rw [← hpq, ← hn]; exact h.1.2⟩, hrest h.2⟩
theorem charge_ok {l : List Account} {name : ByteArray} {q : Int} (h : chargeB l name q = true) : acctsB (chargeL l name q) = true := by
  have h' := h
  unfold chargeB at h'
  rw [Bool.and_eq_true, decide_eq_true_iff] at h'
  have hB := acctAt_ok h'.1
  have hq := h'.2
  unfold usedB at hq; rw [decide_eq_true_iff] at hq
  have hlen : l.length = (chargeL l name q).length := by rw [chargeL, if_pos h, List.length_modify]
  have hB' := hB
  unfold acctsB at hB' ⊢
  rw [Bool.and_eq_true] at hB' ⊢
  refine ⟨chain_same hlen (fun i a b ha hb => ?_) none none rfl hB'.1, by rw [← hlen]; exact hB'.2⟩
  rw [charge_get h ha] at hb
  injection hb with hb
  subst hb
  split
  · refine ⟨rfl, fun hk => ?_⟩
    unfold acctOkB at hk ⊢
    simp only [Bool.and_eq_true] at hk ⊢
    refine ⟨hk.1, ?_⟩
    have := hk.2
    unfold usedB at this ⊢
    rw [decide_eq_true_iff] at this ⊢
    show 0 ≤ min 1000000000 (a.Used + q) ∧ min 1000000000 (a.Used + q) ≤ 1000000000
    omega
  · exact ⟨rfl, fun hk => hk⟩
theorem fade_get {l : List Account} (h : acctsB l = true) {i : Nat} {a : Account} (ha : l[i]? = some a) : (fadeL l)[i]? = some (half a) := by
  rw [fadeL, if_pos h, List.getElem?_map, ha]; rfl
/-- What the law's loop asks of one account. -/
theorem charge_row {l : List Account} {name : ByteArray} {q : Int} (h : chargeB l name q = true) {i : Nat} {a m : Account} (ha : l[i]? = some a) (hm : (chargeL l name q)[i]? = some m) :
    ((a.Name.toList == name.toList) = false ∧ m = a) ∨ ((a.Name.toList == name.toList) = true ∧ a.Used ≤ m.Used) := by
  have h' := h
  unfold chargeB at h'
  rw [Bool.and_eq_true, decide_eq_true_iff] at h'
  have hB := acctAt_ok h'.1
  have hq := h'.2
  unfold usedB at hq; rw [decide_eq_true_iff] at hq
  have hu := acctsB_ok hB a (List.mem_of_getElem? ha)
  rw [charge_get h ha] at hm
  injection hm with hm
  by_cases e : (acctAt l name).toNat = i
  · rw [if_pos e] at hm
    right
    have hn : a.Name.toList = name.toList := by
      have : acctAt l name = ((0 + i : Nat) : Int) := by have := h'.1; omega
      rw [acctAt, if_pos hB] at this
      exact idxGo_name name l 0 i a this ha
    refine ⟨by rw [hn]; simp, ?_⟩
    rw [← hm]
    show a.Used ≤ min 1000000000 (a.Used + q)
    omega
  · rw [if_neg e] at hm
    subst hm
    by_cases en : (a.Name.toList == name.toList) = true
    · exact .inr ⟨en, Int.le_refl _⟩
    · exact .inl ⟨by simpa using en, rfl⟩
end Go.Proofs.Ytbfambeoboiifaa
