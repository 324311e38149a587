/- Marks in a row of windows. -/
import Derived.Test.YtafccgnaifhnkaaNRow
namespace Go.Proofs.Ytafccgnaifhnkaa
open Go.RowKit
set_option linter.unusedVariables false
def npos (f : Nat → NItem) (k0 : Int) : Nat → Int
  | 0 => k0
  | i + 1 => npos f k0 i + 2 + (f i).m
def nmi (f : Nat → NItem) (k0 : Int) (j : Nat) : NItem := ⟨.int .i64 (npos f k0 j), .int .i64 (npos f k0 j + 1), (f j).A, (f j).m, (f j).c, marks mkInt 1 (npos f k0 j + 2) (f j).m⟩
theorem npos_bd {f : Nat → NItem} {k0 : Int} {n : Nat} (hm : ∀ j, j < n → (f j).m ≤ 1048576) : ∀ i, i ≤ n → k0 ≤ npos f k0 i ∧ npos f k0 i ≤ k0 + i * 1048578 := by
  intro i
  induction i with
  | zero => intro _; rw [npos]; omega
  | succ i ih => intro hi; rw [npos]; have := ih (by omega); have := hm i (by omega); omega
theorem NR.congr {w : World} {lo hi : Nat} {A : Option Addr} {n c k : Nat} {f f' : Nat → NItem} (h : NR w lo hi A n c k f) (e : ∀ j, j < k → f j = f' j) : NR w lo hi A n c k f' := by
  obtain ⟨L, h1, h2⟩ := h.row
  exact ⟨h.top, ⟨L, h1, fun j hj => by rw [← e j hj]; exact h2 j hj⟩, fun j hj => by rw [← e j hj]; exact h.own j hj, fun i j hi hj hij => by rw [← e i hi, ← e j hj]; exact h.far i j hi hj hij, h.low, fun j hj => by rw [← e j hj]; exact h.lows j hj⟩
theorem owns_stored_far {w : World} {lo n : Nat} {e : TypeId} {sz : Nat} {v : Value} {L : List Value} {g p : Nat} {u : Value} (h : w.ownsRow lo e sz v n L) (hne : v.ownBlock ≠ some g) : (w.setCell ⟨g, p, none⟩ u).ownsRow lo e sz v n L := by
  obtain ⟨h1, h2⟩ := h
  refine ⟨h1, ?_⟩
  rcases h2 with h2 | ⟨b, cap, cur, rfl, hg, hh, r⟩
  · exact .inl h2
  · refine .inr ⟨b, cap, cur, rfl, hg, (Below.heap_setCell _ _ _ _ (fun e => hne ?_)).trans hh, r⟩
    simp only [] at e
    rw [e]; rfl
theorem NR.put2 {w : World} {lo hi g : Nat} {n c k i : Nat} {f : Nat → NItem} (h : NR w lo hi (some ⟨g, 0, none⟩) n c k f) (hi' : i < k) (hk : k ≤ n) (a b : Value) :
    NR ((w.setCell ⟨g, i * 3, none⟩ a).setCell ⟨g, i * 3 + 1, none⟩ b) lo hi (some ⟨g, 0, none⟩) n c k (fun j => if j = i then ⟨a, b, (f i).A, (f i).m, (f i).c, (f i).vs⟩ else f j) := by
  obtain ⟨L, h1, h2⟩ := h.row
  have s1 := (h1.stored (i * 3) a).1
  have s2 := (s1.stored (i * 3 + 1) b).1
  have hv : ∀ j, (if j = i then (⟨a, b, (f i).A, (f i).m, (f i).c, (f i).vs⟩ : NItem) else f j).v = (f j).v := fun j => by
    by_cases e : j = i
    · rw [if_pos e, e]; rfl
    · rw [if_neg e]
  refine ⟨by simpa using h.top, ⟨setAll L (i * 3) [a, b], s2, fun j hj => ?_⟩, fun j hj => ?_, fun i' j hi1 hj hij => by rw [hv, hv]; exact h.far i' j hi1 hj hij, h.low, fun j hj => by rw [hv]; exact h.lows j hj⟩
  · by_cases e : j = i
    · subst e
      rw [hv, if_pos rfl]
      exact chunk_two (by rw [h1.1]; omega) (h2 j hj)
    · rw [chunk_far e (by simp), if_neg e]; exact h2 j hj
  · have ho := h.own j hj
    have hne : (f j).v.ownBlock ≠ some g := fun e => owns_type h1 ho (by decide) g rfl e
    have e2 := owns_stored_far (p := i * 3 + 1) (u := b) (owns_stored_far (p := i * 3) (u := a) ho hne) hne
    by_cases e : j = i
    · subst e; rw [if_pos rfl]; exact e2
    · rw [if_neg e]; exact e2
theorem NR.inner {w w' : World} {lo hi : Nat} {A : Option Addr} {n c k i : Nat} {f : Nat → NItem} {vs : List Value} (h : NR w lo hi A n c k f) (hi' : i < k) (hg : w.grownBy w' (f i).v.ownBlock) (ho : w'.ownsRow lo 3 1 (f i).v (f i).m vs) :
    NR w' lo hi A n c k (fun j => if j = i then ⟨(f i).a, (f i).b, (f i).A, (f i).m, (f i).c, vs⟩ else f j) := by
  obtain ⟨L, h1, h2⟩ := h.row
  have hv : ∀ j, (if j = i then (⟨(f i).a, (f i).b, (f i).A, (f i).m, (f i).c, vs⟩ : NItem) else f j).v = (f j).v := fun j => by
    by_cases e : j = i
    · rw [if_pos e, e]; rfl
    · rw [if_neg e]
  have kp : ∀ {e : TypeId} {sz m : Nat} {v : Value} {M : List Value}, w.ownsRow lo e sz v m M → apart v.ownBlock (f i).v.ownBlock → w'.ownsRow lo e sz v m M := fun {e sz m v M} hw ha => hw.kept hg (by
    cases hb : v.ownBlock with
    | none => exact .inl rfl
    | some q => exact .inr (fun e => ha q hb e.symm))
  refine ⟨Nat.le_trans h.top hg.size, ⟨L, kp h1 (owns_type h1 (h.own i hi') (by decide)), fun j hj => ?_⟩, fun j hj => ?_, fun i' j hi1 hj hij => by rw [hv, hv]; exact h.far i' j hi1 hj hij, h.low, fun j hj => by rw [hv]; exact h.lows j hj⟩
  · rw [hv]
    by_cases e : j = i
    · subst e; rw [if_pos rfl]; exact h2 j hj
    · rw [if_neg e]; exact h2 j hj
  · by_cases e : j = i
    · subst e; rw [if_pos rfl]; exact ho
    · rw [if_neg e]; exact kp (h.own j hj) (h.far j i hj hi' e)
theorem NR.turned_put {w0 w : World} {lo hi g p : Nat} {u : Value} (h : Turned lo hi w0 w) (h1 : lo ≤ g) (h2 : g < hi) : Turned lo hi w0 (w.setCell ⟨g, p, none⟩ u) :=
  ⟨h.os, h.tape, h.output, by simpa [World.setCell] using h.size, fun b hb hr => (Below.heap_setCell _ _ _ _ (by simp only []; omega)).trans (h.block b hb hr)⟩
theorem NR.turned_in {w w' : World} {lo hi : Nat} {b : Option Nat} (hg : w.grownBy w' b) (h1 : ∀ q, b = some q → lo ≤ q ∧ q < hi) : Turned lo hi w w' :=
  ⟨hg.os, hg.tape, hg.output, hg.size, fun k hk hr => hg.block k hk (fun e => by have := h1 k e.symm; omega)⟩
theorem NR.third {w : World} {lo hi g n c k i : Nat} {f : Nat → NItem} (h : NR w lo hi (some ⟨g, 0, none⟩) n c k f) (hi' : i < k) (hk : k ≤ n) : w.cell? ⟨g, i * 3, none⟩ = some (f i).a ∧ w.cell? ⟨g, i * 3 + 1, none⟩ = some (f i).b ∧ w.cell? ⟨g, i * 3 + 2, none⟩ = some (f i).v := by
  obtain ⟨L, h1, h2⟩ := h.row
  have hc := h2 i hi'
  have key : ∀ t, t < 3 → L[i * 3 + t]? = [(f i).a, (f i).b, (f i).v][t]? := fun t ht => by
    rw [← hc, List.getElem?_take_of_lt ht, List.getElem?_drop]
  have hl : i * 3 + 3 ≤ n * 3 := by omega
  refine ⟨?_, ?_, ?_⟩
  · rw [h1.cellAt (i * 3) (by omega)]; simpa using key 0 (by omega)
  · rw [h1.cellAt (i * 3 + 1) (by omega)]; simpa using key 1 (by omega)
  · rw [h1.cellAt (i * 3 + 2) (by omega)]; simpa using key 2 (by omega)
def RetNM (w : World) (lo hi : Nat) (A : Option Addr) (n c : Nat) (f : Nat → NItem) (k0 : Int) : Ending → World → Prop := fun e w' => e = .returned (.int .i64 (npos f k0 n)) ∧ NR w' lo hi A n c n (nmi f k0) ∧ Turned lo hi w w'
end Go.Proofs.Ytafccgnaifhnkaa
