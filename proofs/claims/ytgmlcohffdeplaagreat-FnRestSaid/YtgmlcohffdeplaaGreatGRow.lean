/- A row of values that each end in a slice of a row of its own: how it is kept, grows, and is read. Plain. -/
import Derived.Test.YtgmlcohffdeplaaGreatLaw
import Derived.Test.YtgmlcohffdeplaaGreatAppR
namespace Go.Proofs.YtgmlcohffdeplaaGreat
open Go.RowKit
set_option linter.unusedVariables false
structure GItem where
  pre : List Value
  A : Option Addr
  m : Nat
  c : Nat
  vs : List Value
def GItem.v (t : GItem) : Value := .slice t.A t.m t.c
/-- A row of n values of type e, each p cells and a slice, of which the first k are the items f; all lies between lo and hi. -/
structure GR (e ie : TypeId) (p isz : Nat) (w : World) (lo hi : Nat) (A : Option Addr) (n c k : Nat) (f : Nat → GItem) : Prop where
  top : hi ≤ w.heap.size
  row : ∃ L, w.ownsRow lo e (p + 1) (.slice A n c) n L ∧ ∀ j, j < k → (L.drop (j * (p + 1))).take (p + 1) = (f j).pre ++ [(f j).v]
  own : ∀ j, j < k → w.ownsRow lo ie isz (f j).v (f j).m (f j).vs
  far : ∀ i j, i < k → j < k → i ≠ j → rowsApart (f i).v.ownBlock (f j).v.ownBlock
  low : ∀ q, (Value.slice A n c).ownBlock = some q → q < hi
  lows : ∀ j, j < k → ∀ q, (f j).v.ownBlock = some q → q < hi
  pres : ∀ j, j < k → (f j).pre.length = p
theorem g_apart {w : World} {lo n lo' n' : Nat} {e e' : TypeId} {sz sz' : Nat} {v v' : Value} {L L' : List Value} (h : w.ownsRow lo e sz v n L) (h' : w.ownsRow lo' e' sz' v' n' L') (hne : e ≠ e') : rowsApart v.ownBlock v'.ownBlock := by
  intro k hk hk'
  rcases h.2 with ⟨rfl, _⟩ | ⟨g, cap, cur, rfl, _, hh, _⟩
  · cases hk
  rcases h'.2 with ⟨rfl, _⟩ | ⟨g', cap', cur', rfl, _, hh', _⟩
  · cases hk'
  have e1 : g = k := Option.some.inj hk
  have e2 : g' = k := Option.some.inj hk'
  subst e1 e2
  rw [hh] at hh'
  injection hh' with hh'
  injection hh' with _ h2
  exact hne h2
theorem g_off {w w' : World} {base lo hi : Nat} {e : TypeId} {sz n : Nat} {v : Value} {L : List Value} (h : w.ownsRow base e sz v n L) (ht : Turned lo hi w w') (hd : ∀ q, v.ownBlock = some q → q < lo ∨ hi ≤ q) : w'.ownsRow base e sz v n L := by
  have hlt := h.lt
  obtain ⟨h1, h2⟩ := h
  refine ⟨h1, ?_⟩
  rcases h2 with h2 | ⟨g, cap, cur, rfl, hg, hh, r⟩
  · exact .inl h2
  · exact .inr ⟨g, cap, cur, rfl, hg, (ht.block g (hlt g rfl).2 (hd g rfl)).trans hh, r⟩
theorem g_far {w : World} {lo n : Nat} {e : TypeId} {sz : Nat} {v : Value} {L : List Value} {g p : Nat} {u : Value} (h : w.ownsRow lo e sz v n L) (hne : v.ownBlock ≠ some g) : (w.setCell ⟨g, p, none⟩ u).ownsRow lo e sz v n L := by
  obtain ⟨h1, h2⟩ := h
  refine ⟨h1, ?_⟩
  rcases h2 with h2 | ⟨b, cap, cur, rfl, hg, hh, r⟩
  · exact .inl h2
  · refine .inr ⟨b, cap, cur, rfl, hg, (Below.heap_setCell _ _ _ _ (fun e => hne ?_)).trans hh, r⟩
    simp only [] at e
    rw [e]; rfl
theorem g_puts_far {lo n : Nat} {e : TypeId} {sz : Nat} {v : Value} {L : List Value} {g : Nat} (hne : v.ownBlock ≠ some g) (us : List Value) : ∀ (w : World) (p : Nat), w.ownsRow lo e sz v n L → (setCells w g p us).ownsRow lo e sz v n L := by
  induction us with
  | nil => intro w p h; exact h
  | cons u us ih => intro w p h; exact ih _ _ (g_far h hne)
theorem g_max {w : World} {lo n : Nat} {e : TypeId} {sz : Nat} {v : Value} {L : List Value} (h : w.ownsRow lo e sz v n L) : n ≤ maxLen := by
  rcases h.2 with ⟨_, h0⟩ | ⟨g, cap, cur, _, _, _, h1, h2, _⟩
  · omega
  · omega
theorem g_cap {w : World} {base n c : Nat} {e : TypeId} {sz : Nat} {A : Option Addr} {L : List Value} (h : w.ownsRow base e sz (.slice A n c) n L) : n ≤ c := by
  rcases h.2 with ⟨_, h0⟩ | ⟨g, cap, cur, hv, _, _, h1, _⟩
  · omega
  · injection hv with _ _ e; omega
theorem g_widen {w : World} {base base' : Nat} {e : TypeId} {size n : Nat} {v : Value} {L : List Value} (h : w.ownsRow base e size v n L) (hb : ∀ q, v.ownBlock = some q → base' ≤ q) : w.ownsRow base' e size v n L := by
  obtain ⟨h1, h3⟩ := h
  refine ⟨h1, ?_⟩
  rcases h3 with h3 | ⟨g, cap, cur, rfl, hg, r⟩
  · exact .inl h3
  · exact .inr ⟨g, cap, cur, rfl, hb g rfl, r⟩
theorem g_rows {α : Type} {enc : α → List Value} {ok : α → Prop} {e : TypeId} {sz base : Nat} {w : World} {v : Value} {xs : List α} (hsz : ∀ x, (enc x).length = sz) (hs0 : 0 < sz) (h : OwnAt (Flat enc ok) e sz w base v xs) : w.ownsRow base e sz v xs.length (xs.flatMap enc) ∧ ∀ x ∈ xs, ok x := by
  obtain ⟨L, h1, h2⟩ := h
  have hL : xs.flatMap enc = L := by
    have hlen : ∀ l : List α, (l.flatMap enc).length = l.length * sz := by
      intro l
      induction l with
      | nil => simp
      | cons a r ih => rw [List.flatMap_cons, List.length_append, hsz, ih, List.length_cons, Nat.add_mul]; omega
    apply List.ext_getElem?
    intro t
    by_cases ht : t < xs.length * sz
    · have hq : t / sz < xs.length := by rw [Nat.div_lt_iff_lt_mul hs0]; exact ht
      have hr : t % sz < sz := Nat.mod_lt _ hs0
      have hx : xs[t / sz]? = some xs[t / sz] := List.getElem?_eq_getElem hq
      have e1 := flatMap_get (enc := enc) (j := t % sz) hsz hr hx
      have e2 := (h2 _ _ hx).1
      have et : t / sz * sz + t % sz = t := by rw [Nat.mul_comm]; exact Nat.div_add_mod t sz
      rw [et] at e1
      rw [e1, ← e2, List.getElem?_take_of_lt hr, List.getElem?_drop, et]
    · rw [List.getElem?_eq_none (by rw [hlen]; omega), List.getElem?_eq_none (by rw [h1.1]; omega)]
  refine ⟨by rw [hL]; exact h1, fun x hx => ?_⟩
  obtain ⟨k, hk⟩ := List.mem_iff_getElem?.1 hx
  exact (h2 k x hk).2
theorem g_type {w w' : World} {lo n : Nat} {e E : TypeId} {sz : Nat} {v : Value} {L : List Value} (h : w.ownsRow lo e sz v n L) (hk : ∀ (b : Nat) (cs' : Array Value) (e' : TypeId), e' ≠ E → w.heap[b]? = some (Obj.cells cs' e') → w'.heap[b]? = some (Obj.cells cs' e')) (hne : e ≠ E) : w'.ownsRow lo e sz v n L := by
  obtain ⟨h1, h2⟩ := h
  refine ⟨h1, ?_⟩
  rcases h2 with h2 | ⟨b, cap, cur, rfl, hg, hh, r⟩
  · exact .inl h2
  · exact .inr ⟨b, cap, cur, rfl, hg, hk _ _ _ hne hh, r⟩
section
variable {e ie : TypeId} {p isz : Nat} {w w' : World} {lo hi lo' hi' : Nat} {A A' : Option Addr} {n c k n' c' : Nat} {f f' : Nat → GItem}
theorem GR.ext (h : GR e ie p isz w lo hi A n c k f) (hb : Ext w w') : GR e ie p isz w' lo hi A n c k f := by
  obtain ⟨L, h1, h2⟩ := h.row
  exact ⟨Nat.le_trans h.top hb.le, ⟨L, owns_ext h1 hb, h2⟩, fun j hj => owns_ext (h.own j hj) hb, h.far, h.low, h.lows, h.pres⟩
theorem GR.keep (h : GR e ie p isz w lo hi A n c k f) (ht : Turned lo' hi' w w') (hd : hi ≤ lo' ∨ hi' ≤ lo) : GR e ie p isz w' lo hi A n c k f := by
  obtain ⟨L, h1, h2⟩ := h.row
  have hq : ∀ q, lo ≤ q → q < hi → q < lo' ∨ hi' ≤ q := fun q a b => by omega
  exact ⟨Nat.le_trans h.top ht.size, ⟨L, g_off h1 ht (fun q e => hq q (h1.lt q e).1 (h.low q e)), h2⟩, fun j hj => g_off (h.own j hj) ht (fun q e => hq q ((h.own j hj).lt q e).1 (h.lows j hj q e)), h.far, h.low, h.lows, h.pres⟩
theorem GR.cut (h : GR e ie p isz w lo hi A n c k f) {hi' : Nat} (h1 : hi ≤ hi') (h2 : hi' ≤ w.heap.size) : GR e ie p isz w lo hi' A n c k f :=
  ⟨h2, h.row, h.own, h.far, fun q e => Nat.lt_of_lt_of_le (h.low q e) h1, fun j hj q e => Nat.lt_of_lt_of_le (h.lows j hj q e) h1, h.pres⟩
theorem GR.congr (h : GR e ie p isz w lo hi A n c k f) (e' : ∀ j, j < k → f j = f' j) : GR e ie p isz w lo hi A n c k f' := by
  obtain ⟨L, h1, h2⟩ := h.row
  exact ⟨h.top, ⟨L, h1, fun j hj => by rw [← e' j hj]; exact h2 j hj⟩, fun j hj => by rw [← e' j hj]; exact h.own j hj, fun i j hi hj hij => by rw [← e' i hi, ← e' j hj]; exact h.far i j hi hj hij, h.low, fun j hj => by rw [← e' j hj]; exact h.lows j hj, fun j hj => by rw [← e' j hj]; exact h.pres j hj⟩
theorem GR.empty (hL : w.ownsRow lo e (p + 1) (.slice A 0 c) 0 []) (f : Nat → GItem) (ht : hi ≤ w.heap.size) (hl : ∀ q, (Value.slice A 0 c).ownBlock = some q → q < hi) : GR e ie p isz w lo hi A 0 c 0 f :=
  ⟨ht, ⟨[], hL, fun j hj => by omega⟩, fun j hj => by omega, fun i j hi => by omega, hl, fun j hj => by omega, fun j hj => by omega⟩
/-- The cells of one item. -/
theorem GR.cellv {g : Nat} (h : GR e ie p isz w lo hi (some ⟨g, 0, none⟩) n c k f) {i : Nat} (hi' : i < k) (hk : k ≤ n) : w.cell? ⟨g, i * (p + 1) + p, none⟩ = some (f i).v ∧ ∀ j u, (f i).pre[j]? = some u → w.cell? ⟨g, i * (p + 1) + j, none⟩ = some u := by
  obtain ⟨L, h1, h2⟩ := h.row
  have hc := h2 i hi'
  have hp := h.pres i hi'
  have hl : (i + 1) * (p + 1) ≤ n * (p + 1) := Nat.mul_le_mul_right _ (by omega)
  rw [Nat.add_mul, Nat.one_mul] at hl
  have key : ∀ t, t < p + 1 → L[i * (p + 1) + t]? = ((f i).pre ++ [(f i).v])[t]? := fun t ht => by
    rw [← hc, List.getElem?_take_of_lt ht, List.getElem?_drop]
  refine ⟨?_, fun j u hu => ?_⟩
  · rw [h1.cellAt _ (by omega), key p (by omega), List.getElem?_append_right (by omega), hp, Nat.sub_self]; rfl
  · have hj : j < p := by rw [← hp]; exact (List.getElem?_eq_some_iff.1 hu).1
    rw [h1.cellAt _ (by omega), key j (by omega), List.getElem?_append_left (by omega)]; exact hu
/-- Read as a list: what an item stands for is told by R. -/
theorem GR.sl {α : Type} {R : Rel α} {xs : List α} (h : GR e ie p isz w lo hi A n c n f) (hn : xs.length = n) (hm : ∀ j x, xs[j]? = some x → w.ownsRow lo ie isz (f j).v (f j).m (f j).vs → R w ((f j).pre ++ [(f j).v]) x) : SlAt R (p + 1) w A n xs := by
  subst hn
  obtain ⟨L, h1, h2⟩ := h.row
  have hO : OwnAt R e (p + 1) w lo (.slice A xs.length c) xs := ⟨L, h1, fun j x hx => by
    have hj := (List.getElem?_eq_some_iff.1 hx).1
    rw [h2 j hj]
    exact hm j x hx (h.own j hj)⟩
  exact hO.slAt
theorem g_chunk_low {L us : List Value} {s j : Nat} (hl : L.length = n * s) (h : j < n) : ((L ++ us).drop (j * s)).take s = (L.drop (j * s)).take s := by
  have hl2 : (j + 1) * s ≤ n * s := Nat.mul_le_mul_right _ (by omega)
  rw [Nat.add_mul, Nat.one_mul] at hl2
  rw [List.drop_append_of_le_length (by omega), List.take_append_of_le_length (by rw [List.length_drop]; omega)]
theorem g_chunk_new {L us : List Value} {s : Nat} (hl : L.length = n * s) (hu : us.length = s) : ((L ++ us).drop (n * s)).take s = us := by
  rw [← hl, List.drop_left, List.take_of_length_le (by omega)]
/-- One item more behind a row: what an append hands back. -/
theorem GR.grow {w0 : World} {m : Nat} {L : List Value} (t : GItem) (hne : ie ≠ e) (h : GR e ie p isz w0 lo hi A m c m f) (hb : Ext w0 w) (hL : w0.ownsRow lo e (p + 1) (.slice A m c) m L) (hc : ∀ j, j < m → (L.drop (j * (p + 1))).take (p + 1) = (f j).pre ++ [(f j).v])
    (hL' : w'.ownsRow lo e (p + 1) (.slice A' (m + 1) c') (m + 1) (L ++ (t.pre ++ [t.v])))
    (hk : ∀ (b : Nat) (cs' : Array Value) (e' : TypeId), e' ≠ e → w.heap[b]? = some (Obj.cells cs' e') → w'.heap[b]? = some (Obj.cells cs' e'))
    (ht : w.ownsRow lo ie isz t.v t.m t.vs) (hB : ∀ q, t.v.ownBlock = some q → hi ≤ q) (hp : t.pre.length = p) :
    GR e ie p isz w' lo w'.heap.size A' (m + 1) c' (m + 1) (fun j => if j = m then t else f j) := by
  have hO : ∀ j, j < m + 1 → w'.ownsRow lo ie isz (if j = m then t else f j).v (if j = m then t else f j).m (if j = m then t else f j).vs := fun j hj => by
    by_cases e : j = m
    · rw [if_pos e]; exact g_type ht hk hne
    · rw [if_neg e]; exact g_type (owns_ext (h.own j (by omega)) hb) hk hne
  have hlen : L.length = m * (p + 1) := hL.1
  refine ⟨Nat.le_refl _, ⟨_, hL', fun j hj => ?_⟩, hO, fun i j hi' hj hij => ?_, fun q e => (hL'.lt q e).2, fun j hj q e => ((hO j hj).lt q e).2, fun j hj => ?_⟩
  · by_cases e : j = m
    · subst e; rw [if_pos rfl]; exact g_chunk_new hlen (by rw [List.length_append, hp]; rfl)
    · rw [if_neg e, g_chunk_low hlen (by omega)]; exact hc j (by omega)
  · by_cases e1 : i = m
    · have e2 : ¬ j = m := by omega
      simp only [if_pos e1, if_neg e2]
      intro q hq hq'
      have h1 := h.lows j (by omega) q hq'
      have h2 := hB q hq
      omega
    · by_cases e2 : j = m
      · simp only [if_neg e1, if_pos e2]
        intro q hq hq'
        have h1 := h.lows i (by omega) q hq
        have h2 := hB q hq'
        omega
      · simp only [if_neg e1, if_neg e2]
        exact h.far i j (by omega) (by omega) hij
  · by_cases e : j = m
    · rw [if_pos e]; exact hp
    · rw [if_neg e]; exact h.pres j (by omega)
end
theorem AppR.kept_type {w w' : World} {base : Nat} {e : TypeId} {size : Nat} {v : Value} {A' : Option Addr} {n' c' : Nat} {L' : List Value} (h : AppR w w' base e size v A' n' c' L') {base2 n : Nat} {sz2 : Nat} {L : List Value} (hown : w.ownsRow base2 e sz2 v n L) : ∀ (b : Nat) (cs' : Array Value) (e' : TypeId), e' ≠ e → w.heap[b]? = some (Obj.cells cs' e') → w'.heap[b]? = some (Obj.cells cs' e') := by
  intro b cs' e' hne hb
  have hbl : b < w.heap.size := by
    rcases Nat.lt_or_ge b w.heap.size with hl | hl
    · exact hl
    · rw [Array.getElem?_eq_none hl] at hb; cases hb
  rw [h.kept b hbl (fun hv => ?_)]
  · exact hb
  · rcases hown.2 with ⟨rfl, _⟩ | ⟨g, cap, cur, rfl, _, hh, _⟩
    · cases hv
    · injection hv with hv; subst hv
      rw [hh] at hb; injection hb with hb; injection hb with _ h2; exact hne h2.symm
end Go.Proofs.YtgmlcohffdeplaaGreat
