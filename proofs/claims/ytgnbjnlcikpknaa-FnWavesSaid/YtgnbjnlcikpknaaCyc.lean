/- Going round: peeling off what nothing more waits for, and asking what is reached, say the same. Plain; no program. -/
import Derived.Test.YtgnbjnlcikpknaaData
namespace Go.Proofs.Ytgnbjnlcikpknaa
open Go.RowKit
def nextL (l : List Dep) : List Dep := l.filter (fun d => l.any (fun x => x.Id == d.For))
def peelB : Nat → List Dep → Bool
  | 0, l => decide (0 < l.length)
  | f + 1, l => if (nextL l).length = l.length then decide (0 < l.length) else peelB f (nextL l)
def stepR (id : Int) (out : List Int) (d : Dep) : List Int := if ((d.Id == id || out.contains d.Id) && !out.contains d.For) = true then out ++ [d.For] else out
def passR (l : List Dep) (id : Int) (out : List Int) : List Int := l.foldl (stepR id) out
def reachL : Nat → List Dep → Int → List Int → List Int
  | 0, _, _, out => out
  | f + 1, l, id, out => if (passR l id out).length = out.length then out else reachL f l id (passR l id out)
inductive RT (l : List Dep) : Int → Int → Prop
  | one {d : Dep} : d ∈ l → RT l d.Id d.For
  | snoc {a : Int} {d : Dep} : RT l a d.Id → d ∈ l → RT l a d.For
section
variable {l : List Dep}
theorem RT.cons {d : Dep} {b : Int} (hd : d ∈ l) (h : RT l d.For b) : RT l d.Id b := by
  generalize ha : d.For = a at h
  induction h with
  | one he => rename_i e; exact RT.snoc (ha ▸ RT.one hd) he
  | snoc _ he ih => exact RT.snoc (ih ha) he
theorem RT.head {a b : Int} (h : RT l a b) : ∃ x ∈ l, x.Id = a ∧ (x.For = b ∨ RT l x.For b) := by
  induction h with
  | one hd => exact ⟨_, hd, rfl, .inl rfl⟩
  | snoc _ hd ih =>
    obtain ⟨x, hx, e, h1⟩ := ih
    refine ⟨x, hx, e, .inr ?_⟩
    rcases h1 with h1 | h1
    · rw [h1]; exact RT.one hd
    · exact RT.snoc h1 hd
theorem RT.last {a b : Int} (h : RT l a b) : ∃ x ∈ l, x.For = b := by
  cases h with
  | one hd => exact ⟨_, hd, rfl⟩
  | snoc _ hd => exact ⟨_, hd, rfl⟩
theorem countP_lt {α : Type} {p q : α → Bool} : ∀ (l : List α), (∀ x ∈ l, p x = true → q x = true) → ∀ a ∈ l, q a = true → p a = false → l.countP p < l.countP q := by
  intro l
  induction l with
  | nil => intro _ a ha; cases ha
  | cons b r ih =>
    intro h a ha hq hp
    rw [List.countP_cons, List.countP_cons]
    have hm : r.countP p ≤ r.countP q := List.countP_mono_left (fun x hx => h x (List.mem_cons_of_mem _ hx))
    rcases List.mem_cons.1 ha with rfl | ha
    · rw [hq, hp]; simp; omega
    · have := ih (fun x hx => h x (List.mem_cons_of_mem _ hx)) a ha hq hp
      have hb := h b (List.mem_cons_self ..)
      cases hpb : p b
      · simp; split <;> omega
      · rw [hb hpb]; simp; omega
open Classical in
noncomputable def rank (l : List Dep) (a : Int) : Nat := l.countP (fun d => decide (RT l a d.For))
open Classical in
theorem rank_lt (hac : ∀ d ∈ l, ¬ RT l d.Id d.Id) {x : Dep} (hx : x ∈ l) : rank l x.For < rank l x.Id := by
  unfold rank
  refine countP_lt l (fun e _ h => ?_) x hx ?_ ?_
  · rw [decide_eq_true_iff] at h ⊢; exact RT.cons hx h
  · rw [decide_eq_true_iff]; exact RT.one hx
  · rw [decide_eq_false_iff_not]; intro h
    obtain ⟨y, hy, e, _⟩ := h.head
    rw [← e] at h; exact hac y hy h
theorem nextL_mem {l : List Dep} {d : Dep} : d ∈ nextL l ↔ d ∈ l ∧ ∃ x ∈ l, x.Id = d.For := by
  unfold nextL; rw [List.mem_filter, List.any_eq_true]; simp
theorem nextL_all {l : List Dep} (h : (nextL l).length = l.length) : ∀ d ∈ l, ∃ x ∈ l, x.Id = d.For := by
  intro d hd
  have : nextL l = l := by unfold nextL at h ⊢; exact (List.filter_sublist).eq_of_length h
  rw [← this] at hd
  exact (nextL_mem.1 hd).2
theorem nextL_le (l : List Dep) : (nextL l).length ≤ l.length := List.length_filter_le _ _
theorem peel_closed : ∀ (f : Nat) (s : List Dep), s.length ≤ f → peelB f s = true → ∃ t : List Dep, t ≠ [] ∧ (∀ d ∈ t, d ∈ s) ∧ ∀ d ∈ t, ∃ x ∈ t, x.Id = d.For := by
  intro f
  induction f with
  | zero => intro s hs h; rw [peelB, decide_eq_true_iff] at h; omega
  | succ f ih =>
    intro s hs h
    rw [peelB] at h
    by_cases he : (nextL s).length = s.length
    · rw [if_pos he, decide_eq_true_iff] at h
      exact ⟨s, by intro e; subst e; simp at h, fun _ hd => hd, nextL_all he⟩
    · rw [if_neg he] at h
      have := nextL_le s
      obtain ⟨t, h1, h2, h3⟩ := ih (nextL s) (by omega) h
      exact ⟨t, h1, fun d hd => (nextL_mem.1 (h2 d hd)).1, h3⟩
theorem closed_cycle {t : List Dep} (ht : t ≠ []) (hs : ∀ d ∈ t, d ∈ l) (hc : ∀ d ∈ t, ∃ x ∈ t, x.Id = d.For) : ∃ d ∈ l, RT l d.Id d.Id := by
  refine Classical.byContradiction fun hno => ?_
  have hac : ∀ d ∈ l, ¬ RT l d.Id d.Id := fun d hd h => hno ⟨d, hd, h⟩
  have key : ∀ (n : Nat) (d : Dep), d ∈ t → rank l d.For ≤ n → False := by
    intro n
    induction n with
    | zero =>
      intro d hd hr
      obtain ⟨x, hx, e⟩ := hc d hd
      have := rank_lt hac (hs x hx); rw [e] at this; omega
    | succ n ih =>
      intro d hd hr
      obtain ⟨x, hx, e⟩ := hc d hd
      have := rank_lt hac (hs x hx); rw [e] at this
      exact ih x hx (by omega)
  obtain ⟨d, r, rfl⟩ := List.exists_cons_of_ne_nil ht
  exact key _ d (List.mem_cons_self ..) (Nat.le_refl _)
theorem peel_of_cycle (f : Nat) : ∀ (s : List Dep), (∀ d ∈ l, RT l d.For d.For → d ∈ s) → (∃ e ∈ l, RT l e.For e.For) → peelB f s = true := by
  induction f with
  | zero =>
    intro s hs ⟨e, he, hr⟩
    rw [peelB, decide_eq_true_iff]; exact List.length_pos_of_mem (hs e he hr)
  | succ f ih =>
    intro s hs ⟨e, he, hr⟩
    rw [peelB]
    split
    · rw [decide_eq_true_iff]; exact List.length_pos_of_mem (hs e he hr)
    · refine ih _ (fun d hd hr => nextL_mem.2 ⟨hs d hd hr, ?_⟩) ⟨e, he, hr⟩
      obtain ⟨x, hx, e1, h1⟩ := hr.head
      refine ⟨x, hs x hx ?_, e1⟩
      rcases h1 with h1 | h1
      · rw [h1]; exact hr
      · exact RT.snoc (by rw [e1]; exact h1) hx
theorem peel_iff {f : Nat} (hf : l.length ≤ f) : peelB f l = true ↔ ∃ d ∈ l, RT l d.Id d.Id := by
  constructor
  · intro h
    obtain ⟨t, h1, h2, h3⟩ := peel_closed f l hf h
    exact closed_cycle h1 h2 h3
  · rintro ⟨d, _, hr⟩
    obtain ⟨e, he, e1⟩ := hr.last
    exact peel_of_cycle f l (fun _ hd _ => hd) ⟨e, he, by rw [e1]; exact hr⟩
-- what is reached
theorem stepR_len (id : Int) (out : List Int) (d : Dep) : out.length ≤ (stepR id out d).length := by
  unfold stepR; split <;> simp
theorem foldR_len (id : Int) : ∀ (ds : List Dep) (out : List Int), out.length ≤ (ds.foldl (stepR id) out).length := by
  intro ds
  induction ds with
  | nil => intro out; exact Nat.le_refl _
  | cons d r ih => intro out; exact Nat.le_trans (stepR_len id out d) (ih _)
theorem foldR_still (id : Int) : ∀ (ds : List Dep) (out : List Int), (ds.foldl (stepR id) out).length = out.length → ds.foldl (stepR id) out = out ∧ ∀ d ∈ ds, (d.Id = id ∨ d.Id ∈ out) → d.For ∈ out := by
  intro ds
  induction ds with
  | nil => intro out _; exact ⟨rfl, fun d hd => by cases hd⟩
  | cons d r ih =>
    intro out h
    rw [List.foldl_cons] at h ⊢
    have h1 := stepR_len id out d
    have h2 := foldR_len id r (stepR id out d)
    have hst : stepR id out d = out ∧ ((d.Id = id ∨ d.Id ∈ out) → d.For ∈ out) := by
      unfold stepR at *
      split at h1
      · rename_i hc
        rw [if_pos hc] at h2 h; simp at h2 h; omega
      · rename_i hc
        refine ⟨if_neg hc, fun hd => ?_⟩
        simp only [Bool.and_eq_true, Bool.or_eq_true, beq_iff_eq, List.contains_iff_mem, Bool.not_eq_true', Bool.eq_false_iff, ne_eq] at hc
        exact Classical.byContradiction fun hn => hc ⟨hd, hn⟩
    rw [hst.1] at h ⊢
    obtain ⟨h3, h4⟩ := ih out h
    refine ⟨h3, fun e he => ?_⟩
    rcases List.mem_cons.1 he with rfl | he
    · exact hst.2
    · exact h4 e he
/-- What the list of those reached keeps. -/
structure RInv (l : List Dep) (id : Int) (out : List Int) : Prop where
  nodup : out.Nodup
  sound : ∀ x ∈ out, RT l id x
  sub : ∀ x ∈ out, x ∈ l.map Dep.For
theorem RInv.step {id : Int} {out : List Int} (h : RInv l id out) {d : Dep} (hd : d ∈ l) : RInv l id (stepR id out d) := by
  unfold stepR
  split
  · rename_i hc
    simp only [Bool.and_eq_true, Bool.or_eq_true, beq_iff_eq, List.contains_iff_mem, Bool.not_eq_true', Bool.eq_false_iff, ne_eq] at hc
    obtain ⟨h1, h2⟩ := hc
    have hr : RT l id d.For := by
      rcases h1 with rfl | h1
      · exact RT.one hd
      · exact RT.snoc (h.sound _ h1) hd
    refine ⟨List.nodup_append.2 ⟨h.nodup, by simp, ?_⟩, ?_, ?_⟩
    · intro a ha b hb e; simp at hb; subst hb; subst e; exact h2 ha
    · intro x hx
      rcases List.mem_append.1 hx with hx | hx
      · exact h.sound x hx
      · simp at hx; subst hx; exact hr
    · intro x hx
      rcases List.mem_append.1 hx with hx | hx
      · exact h.sub x hx
      · simp at hx; subst hx; exact List.mem_map_of_mem hd
  · exact h
theorem RInv.fold {id : Int} : ∀ (ds : List Dep) {out : List Int}, (∀ d ∈ ds, d ∈ l) → RInv l id out → RInv l id (ds.foldl (stepR id) out) := by
  intro ds
  induction ds with
  | nil => intro out _ h; exact h
  | cons d r ih => intro out hs h; exact ih (fun e he => hs e (List.mem_cons_of_mem _ he)) (h.step (hs d (List.mem_cons_self ..)))
theorem nodup_sub_len {α : Type} [DecidableEq α] : ∀ (a b : List α), a.Nodup → (∀ x ∈ a, x ∈ b) → a.length ≤ b.length := by
  intro a
  induction a with
  | nil => intro b _ _; simp
  | cons x r ih =>
    intro b hn hs
    rw [List.nodup_cons] at hn
    have hx := hs x (List.mem_cons_self ..)
    have := ih (b.erase x) hn.2 (fun y hy => by
      have hyx : y ≠ x := by rintro rfl; exact hn.1 hy
      exact (List.mem_erase_of_ne hyx).2 (hs y (List.mem_cons_of_mem _ hy)))
    rw [List.length_erase_of_mem hx] at this
    have := List.length_pos_of_mem hx
    simp; omega
theorem RInv.len {id : Int} {out : List Int} (h : RInv l id out) : out.length ≤ l.length := by
  have := nodup_sub_len out (l.map Dep.For) h.nodup h.sub
  simpa using this
theorem RInv.nil (id : Int) : RInv l id [] := ⟨List.nodup_nil, (fun x hx => by cases hx), (fun x hx => by cases hx)⟩
theorem closed_mem {id : Int} {out : List Int} (hc : ∀ d ∈ l, (d.Id = id ∨ d.Id ∈ out) → d.For ∈ out) {x : Int} (h : RT l id x) : x ∈ out := by
  induction h with
  | one hd => exact hc _ hd (.inl rfl)
  | snoc _ hd ih => exact hc _ hd (.inr (ih hc))
theorem reachL_spec {id : Int} : ∀ (f : Nat) {out : List Int}, RInv l id out → l.length < f + out.length → ∀ x, x ∈ reachL f l id out ↔ RT l id x := by
  intro f
  induction f with
  | zero => intro out h hf; have := h.len; omega
  | succ f ih =>
    intro out h hf x
    rw [reachL]
    by_cases he : (passR l id out).length = out.length
    · rw [if_pos he]
      exact ⟨h.sound x, closed_mem (foldR_still id l out he).2⟩
    · rw [if_neg he]
      have : out.length ≤ (passR l id out).length := foldR_len id l out
      exact ih (out := passR l id out) (h.fold l (fun _ hd => hd)) (by omega) x
def reachS (l : List Dep) (id : Int) : List Int := reachL (l.length + 1) l id []
theorem mem_reachS (id x : Int) : x ∈ reachS l id ↔ RT l id x := reachL_spec (l := l) _ (RInv.nil id) (by simp) x
def cycB (l : List Dep) : Bool := peelB l.length l
theorem cycB_iff : cycB l = true ↔ ∃ d ∈ l, RT l d.Id d.Id := peel_iff (Nat.le_refl _)
theorem cycB_reach : cycB l = l.any (fun d => (reachS l d.Id).contains d.Id) := by
  rw [Bool.eq_iff_iff, cycB_iff, List.any_eq_true]
  constructor
  · rintro ⟨d, hd, h⟩; exact ⟨d, hd, List.contains_iff_mem.2 ((mem_reachS _ _).2 h)⟩
  · rintro ⟨d, hd, h⟩; exact ⟨d, hd, (mem_reachS _ _).1 (List.contains_iff_mem.1 h)⟩
end
end Go.Proofs.Ytgnbjnlcikpknaa
