/- A row of windows whose lists of nodes each lie in a row of their own: how it is kept, marked and read. -/
import Derived.Test.YtafccgnaifhnkaaWin
namespace Go.Proofs.Ytafccgnaifhnkaa
open Go.RowKit
set_option linter.unusedVariables false
structure NItem where
  a : Value
  b : Value
  A : Option Addr
  m : Nat
  c : Nat
  vs : List Value
def NItem.v (t : NItem) : Value := .slice t.A t.m t.c
def apart (a b : Option Nat) : Prop := ∀ k, a = some k → b ≠ some k
/-- A row of n windows, of which the first k are the items f; all lies between lo and hi. -/
structure NR (w : World) (lo hi : Nat) (A : Option Addr) (n c k : Nat) (f : Nat → NItem) : Prop where
  top : hi ≤ w.heap.size
  row : ∃ L, w.ownsRow lo 65 3 (.slice A n c) n L ∧ ∀ j, j < k → (L.drop (j * 3)).take 3 = [(f j).a, (f j).b, (f j).v]
  own : ∀ j, j < k → w.ownsRow lo 3 1 (f j).v (f j).m (f j).vs
  far : ∀ i j, i < k → j < k → i ≠ j → apart (f i).v.ownBlock (f j).v.ownBlock
  low : ∀ q, (Value.slice A n c).ownBlock = some q → q < hi
  lows : ∀ j, j < k → ∀ q, (f j).v.ownBlock = some q → q < hi
theorem apart.symm {a b : Option Nat} (h : apart a b) : apart b a := fun k hb ha => h k ha hb
theorem owns_type {w : World} {lo n : Nat} {e e' : TypeId} {sz sz' n' lo' : Nat} {v v' : Value} {L L' : List Value} (h : w.ownsRow lo e sz v n L) (h' : w.ownsRow lo' e' sz' v' n' L') (hne : e ≠ e') : apart v.ownBlock v'.ownBlock := by
  intro k hk hk'
  rcases h.2 with ⟨rfl, _⟩ | ⟨g, cap, cur, rfl, _, hh, _⟩
  · cases hk
  rcases h'.2 with ⟨rfl, _⟩ | ⟨g', cap', cur', rfl, _, hh', _⟩
  · cases hk'
  have e1 : g = k := Option.some.inj hk
  have e2 : g' = k := Option.some.inj hk'
  subst e1 e2
  rw [hh] at hh'
  injection hh' with hh'
  injection hh' with _ h2
  exact hne h2
theorem NR.ext {w w' : World} {lo hi : Nat} {A : Option Addr} {n c k : Nat} {f : Nat → NItem} (h : NR w lo hi A n c k f) (hb : Ext w w') : NR w' lo hi A n c k f := by
  obtain ⟨L, h1, h2⟩ := h.row
  exact ⟨Nat.le_trans h.top hb.le, ⟨L, owns_ext h1 hb, h2⟩, fun j hj => owns_ext (h.own j hj) hb, h.far, h.low, h.lows⟩
theorem owns_off {w w' : World} {base lo hi : Nat} {e : TypeId} {sz n : Nat} {v : Value} {L : List Value} (h : w.ownsRow base e sz v n L) (ht : Turned lo hi w w') (hd : ∀ q, v.ownBlock = some q → q < lo ∨ hi ≤ q) : w'.ownsRow base e sz v n L := by
  have hlt := h.lt
  obtain ⟨h1, h2⟩ := h
  refine ⟨h1, ?_⟩
  rcases h2 with h2 | ⟨g, cap, cur, rfl, hg, hh, r⟩
  · exact .inl h2
  · exact .inr ⟨g, cap, cur, rfl, hg, (ht.block g (hlt g rfl).2 (hd g rfl)).trans hh, r⟩
theorem NR.keep {w w' : World} {lo hi lo' hi' : Nat} {A : Option Addr} {n c k : Nat} {f : Nat → NItem} (h : NR w lo hi A n c k f) (ht : Turned lo' hi' w w') (hd : hi ≤ lo' ∨ hi' ≤ lo) : NR w' lo hi A n c k f := by
  obtain ⟨L, h1, h2⟩ := h.row
  have hq : ∀ q, lo ≤ q → q < hi → q < lo' ∨ hi' ≤ q := fun q a b => by omega
  exact ⟨Nat.le_trans h.top ht.size, ⟨L, owns_off h1 ht (fun q e => hq q (h1.lt q e).1 (h.low q e)), h2⟩, fun j hj => owns_off (h.own j hj) ht (fun q e => hq q ((h.own j hj).lt q e).1 (h.lows j hj q e)), h.far, h.low, h.lows⟩
theorem NR.cut {w : World} {lo hi : Nat} {A : Option Addr} {n c k : Nat} {f : Nat → NItem} (h : NR w lo hi A n c k f) {hi' : Nat} (h1 : hi ≤ hi') (h2 : hi' ≤ w.heap.size) : NR w lo hi' A n c k f :=
  ⟨h2, h.row, h.own, h.far, fun q e => Nat.lt_of_lt_of_le (h.low q e) h1, fun j hj q e => Nat.lt_of_lt_of_le (h.lows j hj q e) h1⟩
def NMatch (xs : List Window) (f : Nat → NItem) : Prop := ∀ j x, xs[j]? = some x → (f j).a = .int .i64 x.From ∧ (f j).b = .int .i64 x.To ∧ (f j).m = x.Nodes.length ∧ (f j).vs = x.Nodes.flatMap encInt ∧ (∀ y ∈ x.Nodes, In64 y) ∧ In64 x.From ∧ In64 x.To
theorem owns_max {w : World} {lo n : Nat} {e : TypeId} {sz : Nat} {v : Value} {L : List Value} (h : w.ownsRow lo e sz v n L) : n ≤ maxLen := by
  rcases h.2 with ⟨_, h0⟩ | ⟨g, cap, cur, _, _, _, h1, h2, _⟩
  · omega
  · omega
theorem NR.sl {w : World} {lo hi : Nat} {A : Option Addr} {n c : Nat} {f : Nat → NItem} {xs : List Window} (h : NR w lo hi A n c n f) (hn : xs.length = n) (hm : NMatch xs f) : SlAt RWindow 3 w A n xs := by
  subst hn
  obtain ⟨L, h1, h2⟩ := h.row
  have hO : OwnAt RWindow 65 3 w lo (.slice A xs.length c) xs := ⟨L, h1, fun j x hx => by
    have hj := (List.getElem?_eq_some_iff.1 hx).1
    obtain ⟨m1, m2, m3, m4, m5, m6, m7⟩ := hm j x hx
    rw [h2 j hj, m1, m2]
    have ho := h.own j hj
    have hmx := owns_max ho
    rw [m4] at ho
    unfold NItem.v at ho ⊢
    rw [m3] at ho hmx ⊢
    exact ⟨[.int .i64 x.From], [.int .i64 x.To], [.slice (f j).A x.Nodes.length (f j).c], rfl, ⟨rfl, m6⟩, ⟨rfl, m7⟩, (f j).A, _, (f j).c, rfl, (OwnAt.flat encInt_size m5 ho).slAt, hmx⟩⟩
  exact hO.slAt
theorem chunk_far {L us : List Value} {k j : Nat} (h : j ≠ k) (hu : us.length ≤ 3) : ((setAll L (k * 3) us).drop (j * 3)).take 3 = (L.drop (j * 3)).take 3 := by
  rcases Nat.lt_or_ge j k with hjk | hjk
  · exact chunk_low (by omega)
  · have e : ∀ (us L : List Value) (p : Nat), p + us.length ≤ j * 3 → (setAll L p us).drop (j * 3) = L.drop (j * 3) := by
      intro us
      induction us with
      | nil => intro L p _; rfl
      | cons u us ih =>
        intro L p hp
        rw [setAll, ih _ _ (by simp at hp; omega)]
        exact List.drop_set_of_lt (by simp at hp; omega)
    rw [e us L _ (by omega)]
theorem chunk_two {L : List Value} {a b a' b' v : Value} {k : Nat} (h : k * 3 + 3 ≤ L.length) (hc : (L.drop (k * 3)).take 3 = [a', b', v]) : ((setAll L (k * 3) [a, b]).drop (k * 3)).take 3 = [a, b, v] := by
  have h2 : L[k * 3 + 2]? = some v := by
    have := congrArg (fun l => l[2]?) hc
    simp only [List.getElem?_take_of_lt (show 2 < 3 by omega), List.getElem?_drop] at this
    simpa using this
  apply List.ext_getElem?
  intro i
  by_cases hi : i < 3
  · rw [List.getElem?_take_of_lt hi, List.getElem?_drop, setAll, setAll, setAll]
    have : i = 0 ∨ i = 1 ∨ i = 2 := by omega
    rcases this with rfl | rfl | rfl
    · rw [List.getElem?_set_ne (by omega), Nat.add_zero, List.getElem?_set_self (by omega)]; rfl
    · rw [List.getElem?_set_self (by simp; omega)]; rfl
    · rw [List.getElem?_set_ne (by omega), List.getElem?_set_ne (by omega), h2]; rfl
  · rw [List.getElem?_eq_none (by rw [List.length_take]; omega), List.getElem?_eq_none (by simp; omega)]
end Go.Proofs.Ytafccgnaifhnkaa
