/- A row of lists of numbers that each lie in a row of their own: how it is kept, marked and read. -/
import Derived.Test.YtgnbjnlcikpknaaHelp
import Derived.Test.YtgnbjnlcikpknaaLaw
import Derived.Test.YtgnbjnlcikpknaaMarkT
namespace Go.Proofs.Ytgnbjnlcikpknaa
open Go.RowKit
set_option linter.unusedVariables false
structure VItem where
  A : Option Addr
  m : Nat
  c : Nat
  vs : List Value
def VItem.v (t : VItem) : Value := .slice t.A t.m t.c
def apart (a b : Option Nat) : Prop := ∀ k, a = some k → b ≠ some k
/-- A row of n lists, of which the first k are the items f; all lies between lo and hi. -/
structure VR (w : World) (lo hi : Nat) (A : Option Addr) (n c k : Nat) (f : Nat → VItem) : Prop where
  top : hi ≤ w.heap.size
  row : ∃ L, w.ownsRow lo 24 1 (.slice A n c) n L ∧ ∀ j, j < k → L[j]? = some (f j).v
  own : ∀ j, j < k → w.ownsRow lo 3 1 (f j).v (f j).m (f j).vs
  far : ∀ i j, i < k → j < k → i ≠ j → apart (f i).v.ownBlock (f j).v.ownBlock
  low : ∀ q, (Value.slice A n c).ownBlock = some q → q < hi
  lows : ∀ j, j < k → ∀ q, (f j).v.ownBlock = some q → q < hi
theorem owns_type {w : World} {lo n : Nat} {e e' : TypeId} {sz sz' n' lo' : Nat} {v v' : Value} {L L' : List Value} (h : w.ownsRow lo e sz v n L) (h' : w.ownsRow lo' e' sz' v' n' L') (hne : e ≠ e') : apart v.ownBlock v'.ownBlock := by
  intro k hk hk'
  rcases h.2 with ⟨rfl, _⟩ | ⟨g, cap, cur, rfl, _, hh, _⟩
  · cases hk
  rcases h'.2 with ⟨rfl, _⟩ | ⟨g', cap', cur', rfl, _, hh', _⟩
  · cases hk'
  have e1 : g = k := Option.some.inj hk
  have e2 : g' = k := Option.some.inj hk'
  subst e1 e2
  rw [hh] at hh'
  injection hh' with hh'
  injection hh' with _ h2
  exact hne h2
theorem VR.ext {w w' : World} {lo hi : Nat} {A : Option Addr} {n c k : Nat} {f : Nat → VItem} (h : VR w lo hi A n c k f) (hb : Ext w w') : VR w' lo hi A n c k f := by
  obtain ⟨L, h1, h2⟩ := h.row
  exact ⟨Nat.le_trans h.top hb.le, ⟨L, owns_ext h1 hb, h2⟩, fun j hj => owns_ext (h.own j hj) hb, h.far, h.low, h.lows⟩
theorem owns_off {w w' : World} {base lo hi : Nat} {e : TypeId} {sz n : Nat} {v : Value} {L : List Value} (h : w.ownsRow base e sz v n L) (ht : Turned lo hi w w') (hd : ∀ q, v.ownBlock = some q → q < lo ∨ hi ≤ q) : w'.ownsRow base e sz v n L := by
  have hlt := h.lt
  obtain ⟨h1, h2⟩ := h
  refine ⟨h1, ?_⟩
  rcases h2 with h2 | ⟨g, cap, cur, rfl, hg, hh, r⟩
  · exact .inl h2
  · exact .inr ⟨g, cap, cur, rfl, hg, (ht.block g (hlt g rfl).2 (hd g rfl)).trans hh, r⟩
theorem VR.keep {w w' : World} {lo hi lo' hi' : Nat} {A : Option Addr} {n c k : Nat} {f : Nat → VItem} (h : VR w lo hi A n c k f) (ht : Turned lo' hi' w w') (hd : hi ≤ lo' ∨ hi' ≤ lo) : VR w' lo hi A n c k f := by
  obtain ⟨L, h1, h2⟩ := h.row
  have hq : ∀ q, lo ≤ q → q < hi → q < lo' ∨ hi' ≤ q := fun q a b => by omega
  exact ⟨Nat.le_trans h.top ht.size, ⟨L, owns_off h1 ht (fun q e => hq q (h1.lt q e).1 (h.low q e)), h2⟩, fun j hj => owns_off (h.own j hj) ht (fun q e => hq q ((h.own j hj).lt q e).1 (h.lows j hj q e)), h.far, h.low, h.lows⟩
theorem VR.cut {w : World} {lo hi : Nat} {A : Option Addr} {n c k : Nat} {f : Nat → VItem} (h : VR w lo hi A n c k f) {hi' : Nat} (h1 : hi ≤ hi') (h2 : hi' ≤ w.heap.size) : VR w lo hi' A n c k f :=
  ⟨h2, h.row, h.own, h.far, fun q e => Nat.lt_of_lt_of_le (h.low q e) h1, fun j hj q e => Nat.lt_of_lt_of_le (h.lows j hj q e) h1⟩
theorem VR.congr {w : World} {lo hi : Nat} {A : Option Addr} {n c k : Nat} {f f' : Nat → VItem} (h : VR w lo hi A n c k f) (e : ∀ j, j < k → f j = f' j) : VR w lo hi A n c k f' := by
  obtain ⟨L, h1, h2⟩ := h.row
  exact ⟨h.top, ⟨L, h1, fun j hj => by rw [← e j hj]; exact h2 j hj⟩, fun j hj => by rw [← e j hj]; exact h.own j hj, fun i j hi hj hij => by rw [← e i hi, ← e j hj]; exact h.far i j hi hj hij, h.low, fun j hj => by rw [← e j hj]; exact h.lows j hj⟩
def VMatch (xs : List (List Int)) (f : Nat → VItem) : Prop := ∀ j x, xs[j]? = some x → (f j).m = x.length ∧ (f j).vs = x.flatMap encInt ∧ ∀ y ∈ x, In64 y
theorem owns_max {w : World} {lo n : Nat} {e : TypeId} {sz : Nat} {v : Value} {L : List Value} (h : w.ownsRow lo e sz v n L) : n ≤ maxLen := by
  rcases h.2 with ⟨_, h0⟩ | ⟨g, cap, cur, _, _, _, h1, h2, _⟩
  · omega
  · omega
/-- A slice of slices that reads as lists. -/
def RIntS : Rel (List Int) := fun w cs xs => ∃ A c, cs = [.slice A xs.length c] ∧ SlAt RInt 1 w A xs.length xs ∧ xs.length ≤ maxLen
theorem RIntS.mono : RIntS.Mono := fun w w' cs xs hb ⟨A, c, h1, h2, h3⟩ => ⟨A, c, h1, h2.ext (Flat.mono _ _) hb, h3⟩
theorem VR.sl {w : World} {lo hi : Nat} {A : Option Addr} {n c : Nat} {f : Nat → VItem} {xs : List (List Int)} (h : VR w lo hi A n c n f) (hn : xs.length = n) (hm : VMatch xs f) : SlAt RIntS 1 w A n xs := by
  subst hn
  obtain ⟨L, h1, h2⟩ := h.row
  have hO : OwnAt RIntS 24 1 w lo (.slice A xs.length c) xs := ⟨L, h1, fun j x hx => by
    have hj := (List.getElem?_eq_some_iff.1 hx).1
    obtain ⟨m1, m2, m3⟩ := hm j x hx
    have ho := h.own j hj
    have hmx := owns_max ho
    rw [m2] at ho
    have e2 : (L.drop (j * 1)).take 1 = [(f j).v] := by
      have hlen : j < L.length := by rw [h1.1]; omega
      rw [Nat.mul_one, List.drop_eq_getElem_cons hlen]
      have := h2 j hj
      rw [List.getElem?_eq_getElem hlen] at this
      injection this with this
      rw [this]; rfl
    rw [e2]
    unfold VItem.v at ho ⊢
    rw [m1] at ho hmx ⊢
    exact ⟨(f j).A, (f j).c, rfl, (OwnAt.flat encInt_size m3 ho).slAt, hmx⟩⟩
  exact hO.slAt
theorem VR.one {w : World} {lo hi g n c k i : Nat} {f : Nat → VItem} (h : VR w lo hi (some ⟨g, 0, none⟩) n c k f) (hi' : i < k) (hk : k ≤ n) : w.cell? ⟨g, i, none⟩ = some (f i).v := by
  obtain ⟨L, h1, h2⟩ := h.row
  rw [h1.cellAt i (by omega)]
  exact h2 i hi'
def vpos (f : Nat → VItem) (k0 : Int) : Nat → Int
  | 0 => k0
  | i + 1 => vpos f k0 i + (f i).m
def vmi (f : Nat → VItem) (k0 : Int) (j : Nat) : VItem := ⟨(f j).A, (f j).m, (f j).c, marks mkInt 1 (vpos f k0 j) (f j).m⟩
theorem vpos_bd {f : Nat → VItem} {k0 : Int} {n : Nat} (hm : ∀ j, j < n → (f j).m ≤ 1048576) : ∀ i, i ≤ n → k0 ≤ vpos f k0 i ∧ vpos f k0 i ≤ k0 + i * 1048576 := by
  intro i
  induction i with
  | zero => intro _; rw [vpos]; omega
  | succ i ih => intro hi; rw [vpos]; have := ih (by omega); have := hm i (by omega); omega
theorem vpos_pos (f : Nat → VItem) : ∀ i, 0 < vpos f 1 i := by
  intro i
  induction i with
  | zero => rw [vpos]; omega
  | succ i ih => rw [vpos]; omega
theorem VR.inner {w w' : World} {lo hi : Nat} {A : Option Addr} {n c k i : Nat} {f : Nat → VItem} {vs : List Value} (h : VR w lo hi A n c k f) (hi' : i < k) (hg : w.grownBy w' (f i).v.ownBlock) (ho : w'.ownsRow lo 3 1 (f i).v (f i).m vs) :
    VR w' lo hi A n c k (fun j => if j = i then ⟨(f i).A, (f i).m, (f i).c, vs⟩ else f j) := by
  obtain ⟨L, h1, h2⟩ := h.row
  have hv : ∀ j, (if j = i then (⟨(f i).A, (f i).m, (f i).c, vs⟩ : VItem) else f j).v = (f j).v := fun j => by
    by_cases e : j = i
    · rw [if_pos e, e]; rfl
    · rw [if_neg e]
  have kp : ∀ {e : TypeId} {sz m : Nat} {v : Value} {M : List Value}, w.ownsRow lo e sz v m M → apart v.ownBlock (f i).v.ownBlock → w'.ownsRow lo e sz v m M := fun {e sz m v M} hw ha => hw.kept hg (by
    cases hb : v.ownBlock with
    | none => exact .inl rfl
    | some q => exact .inr (fun e => ha q hb e.symm))
  refine ⟨Nat.le_trans h.top hg.size, ⟨L, kp h1 (owns_type h1 (h.own i hi') (by decide)), fun j hj => by rw [hv]; exact h2 j hj⟩, fun j hj => ?_, fun i' j hi1 hj hij => by rw [hv, hv]; exact h.far i' j hi1 hj hij, h.low, fun j hj => by rw [hv]; exact h.lows j hj⟩
  by_cases e : j = i
  · subst e; rw [if_pos rfl]; exact ho
  · rw [if_neg e]; exact kp (h.own j hj) (h.far j i hj hi' e)
theorem turned_in {w w' : World} {lo hi : Nat} {b : Option Nat} (hg : w.grownBy w' b) (h1 : ∀ q, b = some q → lo ≤ q ∧ q < hi) : Turned lo hi w w' :=
  ⟨hg.os, hg.tape, hg.output, hg.size, fun k hk hr => hg.block k hk (fun e => by have := h1 k e.symm; omega)⟩
theorem owns_kept_type {w w' : World} {lo n : Nat} {e E : TypeId} {sz : Nat} {v : Value} {L : List Value} (h : w.ownsRow lo e sz v n L) (hk : ∀ (b : Nat) (cs' : Array Value) (e' : TypeId), e' ≠ E → w.heap[b]? = some (Obj.cells cs' e') → w'.heap[b]? = some (Obj.cells cs' e')) (hne : e ≠ E) : w'.ownsRow lo e sz v n L := by
  obtain ⟨h1, h2⟩ := h
  refine ⟨h1, ?_⟩
  rcases h2 with h2 | ⟨b, cap, cur, rfl, hg, hh, r⟩
  · exact .inl h2
  · exact .inr ⟨b, cap, cur, rfl, hg, hk _ _ _ hne hh, r⟩
/-- One list more behind a row: what the append hands back. -/
theorem VR.grow {w0 w w' : World} {lo hi : Nat} {A A' : Option Addr} {m c c' : Nat} {f : Nat → VItem} {L : List Value} (t : VItem) (h : VR w0 lo hi A m c m f) (hb : Ext w0 w) (hL : w0.ownsRow lo 24 1 (.slice A m c) m L) (hc : ∀ j, j < m → L[j]? = some (f j).v)
    (hL' : w'.ownsRow lo 24 1 (.slice A' (m + 1) c') (m + 1) (L ++ [t.v]))
    (hk : ∀ (b : Nat) (cs' : Array Value) (e' : TypeId), e' ≠ 24 → w.heap[b]? = some (Obj.cells cs' e') → w'.heap[b]? = some (Obj.cells cs' e'))
    (ht : w.ownsRow lo 3 1 t.v t.m t.vs) (hB : ∀ q, t.v.ownBlock = some q → hi ≤ q) :
    VR w' lo w'.heap.size A' (m + 1) c' (m + 1) (fun j => if j = m then t else f j) := by
  have hO : ∀ j, j < m + 1 → w'.ownsRow lo 3 1 (if j = m then t else f j).v (if j = m then t else f j).m (if j = m then t else f j).vs := fun j hj => by
    by_cases e : j = m
    · rw [if_pos e]; exact owns_kept_type ht hk (by decide)
    · rw [if_neg e]; exact owns_kept_type (owns_ext (h.own j (by omega)) hb) hk (by decide)
  refine ⟨Nat.le_refl _, ⟨_, hL', fun j hj => ?_⟩, hO, fun i j hi' hj hij => ?_, fun q e => (hL'.lt q e).2, fun j hj q e => ((hO j hj).lt q e).2⟩
  · have hlen : L.length = m := by rw [hL.1, Nat.mul_one]
    by_cases e : j = m
    · subst e; rw [if_pos rfl, List.getElem?_append_right (by omega), hlen, Nat.sub_self]; rfl
    · rw [if_neg e, List.getElem?_append_left (by omega)]; exact hc j (by omega)
  · by_cases e1 : i = m
    · have e2 : ¬ j = m := by omega
      simp only [if_pos e1, if_neg e2]
      intro q hq hq'
      have h1 := h.lows j (by omega) q hq'
      have h2 := hB q hq
      omega
    · by_cases e2 : j = m
      · simp only [if_neg e1, if_pos e2]
        intro q hq hq'
        have h1 := h.lows i (by omega) q hq
        have h2 := hB q hq'
        omega
      · simp only [if_neg e1, if_neg e2]
        exact h.far i j (by omega) (by omega) hij
theorem VMatch.snoc {ys : List (List Int)} {f : Nat → VItem} {k : Nat} (h : VMatch ys f) (hk : ys.length = k) (x : List Int) (t : VItem) (hm : t.m = x.length) (hv : t.vs = x.flatMap encInt) (h1 : ∀ y ∈ x, In64 y) : VMatch (ys ++ [x]) (fun j => if j = k then t else f j) := by
  intro j y hy
  by_cases e : j = k
  · subst e
    have : y = x := by
      rw [← hk, List.getElem?_append_right (Nat.le_refl _), Nat.sub_self] at hy
      injection hy with hy; exact hy.symm
    subst this
    simp only [if_true]
    exact ⟨hm, hv, h1⟩
  · have hj : j < ys.length := by
      have := (List.getElem?_eq_some_iff.1 hy).1
      rw [List.length_append] at this; simp at this; omega
    rw [List.getElem?_append_left hj] at hy
    simp only [if_neg e]
    exact h j y hy
/-- A call hands back a row of lists in new memory, and a bool. -/
def RetVR (w : World) (xs : List (List Int)) (b : Bool) : Ending → World → Prop := fun e w' => ∃ A c f, e = .returned (.tuple #[.slice A xs.length c, .bool b]) ∧ VR w' w.heap.size w'.heap.size A xs.length c xs.length f ∧ VMatch xs f ∧ Ext w w'
theorem VR.nil {w : World} {lo hi : Nat} (f : Nat → VItem) (h : hi ≤ w.heap.size) : VR w lo hi none 0 0 0 f := ⟨h, ⟨[], World.ownsRow_nil _ _ _ _, fun j hj => by omega⟩, fun j hj => by omega, fun i j hi => by omega, fun q e => (by cases e), fun j hj => by omega⟩
def RetVM (w : World) (lo hi : Nat) (A : Option Addr) (n c : Nat) (f : Nat → VItem) (k0 : Int) : Ending → World → Prop := fun e w' => e = .returned (.int .i64 (vpos f k0 n)) ∧ VR w' lo hi A n c n (vmi f k0) ∧ Turned lo hi w w'
end Go.Proofs.Ytgnbjnlcikpknaa
