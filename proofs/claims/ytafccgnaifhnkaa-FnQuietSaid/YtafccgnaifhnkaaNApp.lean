/- Appends of lists at a step of a region. Plain, no program. -/
import Derived.Test.YtafccgnaifhnkaaNCut
import Derived.Deep.RegionHeld3
import Derived.Deep.AppendLies
namespace Go.Proofs.Ytafccgnaifhnkaa
open Go.RowKit
set_option linter.unusedVariables false
theorem run_append_list {P : Program} {w w0 : World} {α : Type} {enc : α → List Value} {ok : α → Prop} (t ty : TypeId) (base : Nat) (e : TypeId) (i : TypeInfo) (z : Value) (size bytes : Nat) (v : Value) (n : Nat) (L : List Value) (A : Option Addr) (m c : Nat) (ys : List α)
    (ht : P.underlying t = some (.slice e)) (hi : P.info? e = some i) (hz : i.zero = some z)
    (hsize : i.size = size) (hby : i.bytes = bytes) (hzs : z.cells.size = size) (hsz : 0 < size)
    (hown : w.ownsRow base e size v n L) (hys : SlAt (Flat enc ok) size w A m ys) (hl : ∀ y, (enc y).length = size) (h1 : ∀ y, ∀ u ∈ enc y, u.oneCell' = true)
    (h63 : n + m ≤ maxLen) (hbytes : (n + m) * bytes ≤ 140737488355328) (hext : Ext w0 w) (hb0 : w0.heap.size ≤ base) (hbw : base ≤ w.heap.size) :
    ∃ A' c' w', (Builtin.append_ #[t, t] ty #[v, .slice A m c]).run P w = .ok (.slice A' (n + m) c') w' ∧ w'.ownsRow base e size (.slice A' (n + m) c') (n + m) (L ++ ys.flatMap enc) ∧ Ext w0 w' ∧ w.heap.size ≤ w'.heap.size ∧ w.grownBy w' v.ownBlock := by
  have hshape : ∀ {w' : World} {v' : Value} {L' : List Value}, w'.ownsRow base e size v' (n + m) L' → ∃ A' c', v' = .slice A' (n + m) c' := by
    intro w' v' L' h'
    rcases h'.2 with ⟨rfl, h0⟩ | ⟨g, cap, cur, rfl, _⟩
    · exact ⟨none, 0, by rw [h0]⟩
    · exact ⟨_, _, rfl⟩
  rcases A with _ | ad
  · have h0 : m = 0 := by
      rcases Nat.eq_zero_or_pos m with h0 | h0
      · exact h0
      · obtain ⟨b, o, e1, _⟩ := hys.2 h0; cases e1
    subst h0
    have hy : ys = [] := List.eq_nil_of_length_eq_zero hys.1
    subst hy
    have hrun := run_append_of_nil (P := P) w base t ty e i size ht hi v n L hown c
    obtain ⟨A', c', e1⟩ := hshape (show w.ownsRow base e size v (n + 0) L from hown)
    subst e1
    exact ⟨A', c', w, by simpa using hrun, by simpa using hown, hext, Nat.le_refl _, World.grownBy.refl w _⟩
  · have hlen : (ys.flatMap enc).length = m * size := by
      rw [← hys.1]; clear hys
      induction ys with
      | nil => simp
      | cons y ys ih => rw [List.flatMap_cons, List.length_append, hl, ih, List.length_cons, Nat.add_mul]; omega
    have hcells : ∀ j u, (ys.flatMap enc)[j]? = some u → w.cell? (ad.add j) = some u := by
      intro j u hu
      rcases Nat.eq_zero_or_pos m with h0 | h0
      · subst h0
        have hy : ys = [] := List.eq_nil_of_length_eq_zero hys.1
        subst hy; simp at hu
      · obtain ⟨b, off, e1, hb, hc⟩ := hys.flatCells hl h0
        injection e1 with e1; subst e1
        have := hc j u hu
        unfold Addr.add; split
        · rename_i hj; subst hj; exact this
        · exact this
    obtain ⟨v', w', hr, h2, hg', _, _⟩ := run_append_own_at (P := P) w base t ty e i z size bytes ht hi hz hsize hby hzs hsz v n L hown ad m c (ys.flatMap enc) hlen hcells (fun u hu => by obtain ⟨y, _, hu⟩ := List.mem_flatMap.1 hu; exact h1 y u hu) h63 hbytes hbw
    obtain ⟨A', c', rfl⟩ := hshape h2
    exact ⟨A', c', w', hr, h2, Below.grown hext hg' hext.le (fun k hk => by have := hown.lt k hk; omega), hg'.size, hg'⟩
theorem step_append_list {P : Program} {w w0 : World} {α : Type} {enc : α → List Value} {ok : α → Prop} {ops : Array Oper} {o : Oper} {a : Act} {K : Act → World → Prop} {Q : Exit → Act → World → Prop} {E : Prop} (hw : Region.wanted o (yielded ops a.tmps) = true) (s x : Operand) (t : TypeId)
    (ho : o.op = .call { callee := .builtin .append, args := #[s, x], argTypes := #[t, t] })
    (base : Nat) (e : TypeId) (i : TypeInfo) (z : Value) (size bytes : Nat) (ht : P.underlying t = some (.slice e)) (hi : P.info? e = some i) (hz : i.zero = some z)
    (hsize : i.size = size) (hby : i.bytes = bytes) (hzs : z.cells.size = size) (hsz : 0 < size)
    (v : Value) (n : Nat) (L : List Value) (A : Option Addr) (m c : Nat) (ys : List α) (N : Nat) (hN : n + m = N) (hs : a.eval s = v) (hx : a.eval x = .slice A m c)
    (hown : w.ownsRow base e size v n L) (hys : SlAt (Flat enc ok) size w A m ys) (hl : ∀ y, (enc y).length = size) (h1 : ∀ y, ∀ u ∈ enc y, u.oneCell' = true)
    (h63 : n + m ≤ maxLen) (hbytes : (n + m) * bytes ≤ 140737488355328) (hext : Ext w0 w) (hb0 : w0.heap.size ≤ base) (hbw : base ≤ w.heap.size)
    (h : ∀ A' c' w', w'.ownsRow base e size (.slice A' N c') N (L ++ ys.flatMap enc) → Ext w0 w' → w.heap.size ≤ w'.heap.size → w.grownBy w' v.ownBlock → K (a.put o.dst (.slice A' N c')) w') :
    if Region.wanted o (yielded ops a.tmps) = true then Oper.wp P o a w K Q else E := by
  subst hN
  rw [if_pos hw]
  obtain ⟨A', c', w', hr, h2, h3, h4, h5⟩ := run_append_list (P := P) t o.type base e i z size bytes v n L A m c ys ht hi hz hsize hby hzs hsz hown hys hl h1 h63 hbytes hext hb0 hbw
  unfold Oper.wp execOp
  simp only [ho, resolve, invoke, builtin, Sem.run_bind, Sem.run_pure, Result.andThen_ok, List.map_toArray, List.map_cons, List.map_nil, hs, hx, hr]
  exact h A' c' w' h2 h3 h4 h5
theorem owns_empty_at (w : World) (b : Nat) (hb : w.heap.size = b) (e : TypeId) (sz : Nat) : (w.alloc (.cells #[] e)).ownsRow b e sz (.slice (some ⟨b, 0, none⟩) 0 0) 0 [] := by
  subst hb; exact owns_empty w e sz
theorem keep_of_grown {w w' : World} {lo n : Nat} {E : TypeId} {sz : Nat} {v : Value} {L : List Value} (hL : w.ownsRow lo E sz v n L) (hg : w.grownBy w' v.ownBlock) : ∀ (b : Nat) (cs' : Array Value) (e' : TypeId), e' ≠ E → w.heap[b]? = some (Obj.cells cs' e') → w'.heap[b]? = some (Obj.cells cs' e') := by
  intro b cs' e' hne hb
  have hbl : b < w.heap.size := by
    rcases Nat.lt_or_ge b w.heap.size with hl | hl
    · exact hl
    · rw [Array.getElem?_eq_none hl] at hb; cases hb
  have hne2 : some b ≠ v.ownBlock := by
    intro hv
    rcases hL.2 with ⟨rfl, _⟩ | ⟨g, cap, cur, rfl, _, hh, _⟩
    · cases hv
    · injection hv with hv; subst hv
      rw [hh] at hb; injection hb with hb; injection hb with _ h2; exact hne h2.symm
  rw [hg.block b hbl hne2]; exact hb
structure NTrip where
  a : Int
  b : Int
  A : Option Addr
  m : Nat
  c : Nat
def nenc (t : NTrip) : List Value := [.int .i64 t.a, .int .i64 t.b, .slice t.A t.m t.c]
theorem nenc_one (t : NTrip) : ∀ u ∈ nenc t, u.oneCell' = true := by
  intro u hu
  simp [nenc] at hu
  rcases hu with rfl | rfl | rfl <;> rfl
theorem sl_nbox (w : World) (t : NTrip) (e : TypeId) : SlAt (Flat nenc (fun _ => True)) 3 (w.alloc (.cells #[.int .i64 t.a, .int .i64 t.b, .slice t.A t.m t.c] e)) (some ⟨w.heap.size, 0, none⟩) 1 [t] := by
  refine ⟨rfl, fun _ => ⟨w.heap.size, 0, rfl, by simp, fun k y hy => ?_⟩⟩
  cases k with
  | zero =>
    simp at hy; subst hy
    exact ⟨nenc t, rfl, fun j u hu => by rw [show 0 + 0 * 3 + j = j by omega]; exact law_box w (nenc t) e j u hu, rfl, trivial⟩
  | succ k => simp at hy
end Go.Proofs.Ytafccgnaifhnkaa
