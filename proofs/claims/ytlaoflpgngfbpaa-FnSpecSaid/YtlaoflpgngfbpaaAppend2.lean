/- An append of one value; what else it leaves alone. Plain. -/
import Derived.Test.YtlaoflpgngfbpaaAppend
namespace Go.Proofs.Ytlaoflpgngfbpaa
open Go.RowKit
/-- 'out = append(out, x)': out the call's own (or nil), x one value, laid in a box of its own; blocks of another type stay as they are. -/
theorem wpList_append_one_j {P : Program} {w w0 : World} {ops : Array Oper} {rest : List Oper} {o : Oper} {a : Act} {Q : Exit → Act → World → Prop} (s x : Operand) (t : TypeId)
    (base : Nat) (e : TypeId) (i : TypeInfo) (z : Value) (size bytes : Nat) (v : Value) (n : Nat) (L cs : List Value) (hgd : o.guard = none)
    (ho : o.op = .call { callee := .builtin .append, args := #[s, x], argTypes := #[t, t] })
    (ht : P.underlying t = some (.slice e)) (hi : P.info? e = some i) (hz : i.zero = some z)
    (hsize : i.size = size) (hby : i.bytes = bytes) (hzs : z.cells.size = size) (hsz : 0 < size)
    (hs : a.eval s = v) (hown : w.ownsRow base e size v n L)
    (p : Nat) (hx : a.eval x = .slice (some ⟨p, 0, none⟩) 1 1) (hp : p = w.heap.size) (hl : cs.length = size) (h1 : ∀ u ∈ cs, u.oneCell' = true)
    (h63 : n + 1 ≤ maxLen) (hbytes : (n + 1) * bytes ≤ 140737488355328) (hext : Ext w0 w) (hb0 : w0.heap.size ≤ base)
    (hbw : base ≤ w.heap.size)
    (h : ∀ A c w', w'.ownsRow base e size (.slice A (n + 1) c) (n + 1) (L ++ cs) → Ext w0 w' → w'.heap.size ≥ w.heap.size → (∀ (b : Nat) (cs' : Array Value) (e' : TypeId), e' ≠ e → w.heap[b]? = some (Obj.cells cs' e') → w'.heap[b]? = some (Obj.cells cs' e')) → (∀ (b : Nat), b < base → b < w.heap.size → w'.heap[b]? = w.heap[b]?) → wpList P ops Q rest (a.put o.dst (.slice A (n + 1) c)) w') : wpList P ops Q (o :: rest) a (w.alloc (.cells cs.toArray e)) := by
  subst hp
  refine wpList_append_own _ hgd s x t ho base e i z size bytes ht hi hz hsize hby hzs hsz v n L hs (hown.alloc _) ⟨w.heap.size, 0, none⟩ 1 1 cs hx (by rw [hl, Nat.one_mul]) (cell_boxed w cs e) h1 h63 hbytes (by simp; omega) ?_
  intro v' w' ho' hg' _
  have hb' : Ext w0 w' := Below.grown (Ext.alloc hext _) hg' (by have := hext.le; simp; omega) (fun k hk => by
    have := (hown.alloc (.cells cs.toArray e)).lt k hk; omega)
  have hkeep : ∀ (b : Nat) (cs' : Array Value) (e' : TypeId), e' ≠ e → w.heap[b]? = some (Obj.cells cs' e') → w'.heap[b]? = some (Obj.cells cs' e') := by
    intro b cs' e' hne hb
    have hbl : b < w.heap.size := by
      rcases Nat.lt_or_ge b w.heap.size with hl | hl
      · exact hl
      · rw [Array.getElem?_eq_none hl] at hb; cases hb
    have hne2 : some b ≠ v.ownBlock := by
      intro hv
      rcases hown.2 with ⟨rfl, _⟩ | ⟨g, cap, cur, rfl, _, hh, _⟩
      · cases hv
      · injection hv with hv; subst hv
        rw [hh] at hb; injection hb with hb; injection hb with _ h2; exact hne h2.symm
    have h1 := hg'.block b (by simp; omega) hne2
    rw [h1]
    have h2 := ((Ext.refl w).alloc (.cells cs.toArray e)).block b hbl
    rw [h2]; exact hb
  have hlow : ∀ (b : Nat), b < base → b < w.heap.size → w'.heap[b]? = w.heap[b]? := by
    intro b hb1 hb2
    rw [hg'.block b (by simp; omega) (fun hv => by have := (hown.lt b hv.symm).1; omega)]
    exact ((Ext.refl w).alloc (.cells cs.toArray e)).block b hb2
  have hsz' := hg'.size
  simp at hsz'
  obtain ⟨hlen, ⟨_, h0⟩ | ⟨g, cap, cur, rfl, r⟩⟩ := ho'
  · omega
  · exact h _ _ _ ⟨hlen, .inr ⟨g, cap, cur, rfl, r⟩⟩ hb' (by omega) hkeep hlow

theorem OwnAt.keepTy {α : Type} {enc : α → List Value} {ok : α → Prop} {e : TypeId} {sz base : Nat} {w w' : World} {v : Value} {xs : List α} (h : OwnAt (Flat enc ok) e sz w base v xs) (hk : ∀ (b : Nat) (cs' : Array Value), w.heap[b]? = some (Obj.cells cs' e) → w'.heap[b]? = some (Obj.cells cs' e)) : OwnAt (Flat enc ok) e sz w' base v xs := by
  obtain ⟨L, ⟨h1, h2⟩, h3⟩ := h
  refine ⟨L, ⟨h1, ?_⟩, h3⟩
  rcases h2 with h2 | ⟨g, cap, cur, hv, hg, hh, r⟩
  · exact .inl h2
  · exact .inr ⟨g, cap, cur, hv, hg, hk _ _ hh, r⟩
end Go.Proofs.Ytlaoflpgngfbpaa
