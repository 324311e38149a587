/- Appends: of a list at a step of a region; of one value, with what is kept. -/
import Derived.Test.YtgnbjnlcikpknaaRound3
import Derived.Deep.RegionHeld3
import Derived.Laws.StructEq
import Derived.Deep.AppendLies
import Derived.Test.YtgnbjnlcikpknaaLaw
namespace Go.Proofs.Ytgnbjnlcikpknaa
open Go.RowKit
set_option linter.unusedVariables false
theorem run_append_list {P : Program} {w w0 : World} {α : Type} {enc : α → List Value} {ok : α → Prop} (t ty : TypeId) (base : Nat) (e : TypeId) (i : TypeInfo) (z : Value) (size bytes : Nat) (v : Value) (n : Nat) (L : List Value) (A : Option Addr) (m c : Nat) (ys : List α)
    (ht : P.underlying t = some (.slice e)) (hi : P.info? e = some i) (hz : i.zero = some z)
    (hsize : i.size = size) (hby : i.bytes = bytes) (hzs : z.cells.size = size) (hsz : 0 < size)
    (hown : w.ownsRow base e size v n L) (hys : SlAt (Flat enc ok) size w A m ys) (hl : ∀ y, (enc y).length = size) (h1 : ∀ y, ∀ u ∈ enc y, u.oneCell' = true)
    (h63 : n + m ≤ maxLen) (hbytes : (n + m) * bytes ≤ 140737488355328) (hext : Ext w0 w) (hb0 : w0.heap.size ≤ base) (hbw : base ≤ w.heap.size) :
    ∃ A' c' w', (Builtin.append_ #[t, t] ty #[v, .slice A m c]).run P w = .ok (.slice A' (n + m) c') w' ∧ w'.ownsRow base e size (.slice A' (n + m) c') (n + m) (L ++ ys.flatMap enc) ∧ Ext w0 w' ∧ w.heap.size ≤ w'.heap.size ∧ w.grownBy w' v.ownBlock := by
  have hshape : ∀ {w' : World} {v' : Value} {L' : List Value}, w'.ownsRow base e size v' (n + m) L' → ∃ A' c', v' = .slice A' (n + m) c' := by
    intro w' v' L' h'
    rcases h'.2 with ⟨rfl, h0⟩ | ⟨g, cap, cur, rfl, _⟩
    · exact ⟨none, 0, by rw [h0]⟩
    · exact ⟨_, _, rfl⟩
  rcases A with _ | ad
  · have h0 : m = 0 := by
      rcases Nat.eq_zero_or_pos m with h0 | h0
      · exact h0
      · obtain ⟨b, o, e1, _⟩ := hys.2 h0; cases e1
    subst h0
    have hy : ys = [] := List.eq_nil_of_length_eq_zero hys.1
    subst hy
    have hrun := run_append_of_nil (P := P) w base t ty e i size ht hi v n L hown c
    obtain ⟨A', c', e1⟩ := hshape (show w.ownsRow base e size v (n + 0) L from hown)
    subst e1
    exact ⟨A', c', w, by simpa using hrun, by simpa using hown, hext, Nat.le_refl _, World.grownBy.refl w _⟩
  · have hlen : (ys.flatMap enc).length = m * size := by
      rw [← hys.1]; clear hys
      induction ys with
      | nil => simp
      | cons y ys ih => rw [List.flatMap_cons, List.length_append, hl, ih, List.length_cons, Nat.add_mul]; omega
    have hcells : ∀ j u, (ys.flatMap enc)[j]? = some u → w.cell? (ad.add j) = some u := by
      intro j u hu
      rcases Nat.eq_zero_or_pos m with h0 | h0
      · subst h0
        have hy : ys = [] := List.eq_nil_of_length_eq_zero hys.1
        subst hy; simp at hu
      · obtain ⟨b, off, e1, hb, hc⟩ := hys.flatCells hl h0
        injection e1 with e1; subst e1
        have := hc j u hu
        unfold Addr.add; split
        · rename_i hj; subst hj; exact this
        · exact this
    obtain ⟨v', w', hr, h2, hg', _, _⟩ := run_append_own_at (P := P) w base t ty e i z size bytes ht hi hz hsize hby hzs hsz v n L hown ad m c (ys.flatMap enc) hlen hcells (fun u hu => by obtain ⟨y, _, hu⟩ := List.mem_flatMap.1 hu; exact h1 y u hu) h63 hbytes hbw
    obtain ⟨A', c', rfl⟩ := hshape h2
    exact ⟨A', c', w', hr, h2, Below.grown hext hg' hext.le (fun k hk => by have := hown.lt k hk; omega), hg'.size, hg'⟩
theorem step_append_list {P : Program} {w w0 : World} {α : Type} {enc : α → List Value} {ok : α → Prop} {ops : Array Oper} {o : Oper} {a : Act} {K : Act → World → Prop} {Q : Exit → Act → World → Prop} {E : Prop} (hw : Region.wanted o (yielded ops a.tmps) = true) (s x : Operand) (t : TypeId)
    (ho : o.op = .call { callee := .builtin .append, args := #[s, x], argTypes := #[t, t] })
    (base : Nat) (e : TypeId) (i : TypeInfo) (z : Value) (size bytes : Nat) (ht : P.underlying t = some (.slice e)) (hi : P.info? e = some i) (hz : i.zero = some z)
    (hsize : i.size = size) (hby : i.bytes = bytes) (hzs : z.cells.size = size) (hsz : 0 < size)
    (v : Value) (n : Nat) (L : List Value) (A : Option Addr) (m c : Nat) (ys : List α) (N : Nat) (hN : n + m = N) (hs : a.eval s = v) (hx : a.eval x = .slice A m c)
    (hown : w.ownsRow base e size v n L) (hys : SlAt (Flat enc ok) size w A m ys) (hl : ∀ y, (enc y).length = size) (h1 : ∀ y, ∀ u ∈ enc y, u.oneCell' = true)
    (h63 : n + m ≤ maxLen) (hbytes : (n + m) * bytes ≤ 140737488355328) (hext : Ext w0 w) (hb0 : w0.heap.size ≤ base) (hbw : base ≤ w.heap.size)
    (h : ∀ A' c' w', w'.ownsRow base e size (.slice A' N c') N (L ++ ys.flatMap enc) → Ext w0 w' → w.heap.size ≤ w'.heap.size → w.grownBy w' v.ownBlock → K (a.put o.dst (.slice A' N c')) w') :
    if Region.wanted o (yielded ops a.tmps) = true then Oper.wp P o a w K Q else E := by
  subst hN
  rw [if_pos hw]
  obtain ⟨A', c', w', hr, h2, h3, h4, h5⟩ := run_append_list (P := P) t o.type base e i z size bytes v n L A m c ys ht hi hz hsize hby hzs hsz hown hys hl h1 h63 hbytes hext hb0 hbw
  unfold Oper.wp execOp
  simp only [ho, resolve, invoke, builtin, Sem.run_bind, Sem.run_pure, Result.andThen_ok, List.map_toArray, List.map_cons, List.map_nil, hs, hx, hr]
  exact h A' c' w' h2 h3 h4 h5
theorem sl_box {α : Type} {enc : α → List Value} {ok : α → Prop} {sz : Nat} (w : World) (x : α) (e : TypeId) (hsz : (enc x).length = sz) (hx : ok x) : SlAt (Flat enc ok) sz (w.alloc (.cells (enc x).toArray e)) (some ⟨w.heap.size, 0, none⟩) 1 [x] := by
  refine ⟨rfl, fun _ => ⟨w.heap.size, 0, rfl, by simp, fun k y hy => ?_⟩⟩
  cases k with
  | zero =>
    simp at hy; subst hy
    exact ⟨enc x, hsz, fun j u hu => by rw [show 0 + 0 * sz + j = j by omega]; exact law_box w (enc x) e j u hu, rfl, hx⟩
  | succ k => simp at hy
theorem sl_box_at {α : Type} {enc : α → List Value} {ok : α → Prop} {sz : Nat} (w : World) (b : Nat) (hb : w.heap.size = b) (x : α) (e : TypeId) (hsz : (enc x).length = sz) (hx : ok x) : SlAt (Flat enc ok) sz (w.alloc (.cells (enc x).toArray e)) (some ⟨b, 0, none⟩) 1 [x] := by
  subst hb; exact sl_box w x e hsz hx
theorem owns_empty_at (w : World) (b : Nat) (hb : w.heap.size = b) (e : TypeId) (sz : Nat) : (w.alloc (.cells #[] e)).ownsRow b e sz (.slice (some ⟨b, 0, none⟩) 0 0) 0 [] := by
  subst hb; exact owns_empty w e sz
theorem SlAt.far {α : Type} {enc : α → List Value} {ok : α → Prop} {sz m b o : Nat} {w w' : World} {row : Option Nat} {xs : List α} (h : SlAt (Flat enc ok) sz w (some ⟨b, o, none⟩) m xs) (hg : w.grownBy w' row) (hne : row ≠ some b) : SlAt (Flat enc ok) sz w' (some ⟨b, o, none⟩) m xs := by
  refine ⟨h.1, fun hm => ?_⟩
  obtain ⟨b', o', e, hb, hc⟩ := h.2 hm
  injection e with e; injection e with e1 e2; subst e1 e2
  refine ⟨b, o, rfl, Nat.lt_of_lt_of_le hb hg.size, fun k x hx => ?_⟩
  obtain ⟨cs, h1, h2, h3⟩ := hc k x hx
  exact ⟨cs, h1, fun j u hu => by rw [hg.cell_far ⟨b, o + k * sz + j, none⟩ hb (Ne.symm hne)]; exact h2 j u hu, h3⟩
theorem wpList_append_one_g {P : Program} {w w0 : World} {ops : Array Oper} {rest : List Oper} {o : Oper} {a : Act} {Q : Exit → Act → World → Prop} (s x : Operand) (t : TypeId)
    (base : Nat) (e : TypeId) (i : TypeInfo) (z : Value) (size bytes : Nat) (v : Value) (n : Nat) (L cs : List Value) (hgd : o.guard = none)
    (ho : o.op = .call { callee := .builtin .append, args := #[s, x], argTypes := #[t, t] })
    (ht : P.underlying t = some (.slice e)) (hi : P.info? e = some i) (hz : i.zero = some z)
    (hsize : i.size = size) (hby : i.bytes = bytes) (hzs : z.cells.size = size) (hsz : 0 < size)
    (hs : a.eval s = v) (hown : w.ownsRow base e size v n L)
    (p : Nat) (hx : a.eval x = .slice (some ⟨p, 0, none⟩) 1 1) (hp : p = w.heap.size) (hl : cs.length = size) (h1 : ∀ u ∈ cs, u.oneCell' = true)
    (h63 : n + 1 ≤ maxLen) (hbytes : (n + 1) * bytes ≤ 140737488355328) (hext : Ext w0 w) (hb0 : w0.heap.size ≤ base)
    (hbw : base ≤ w.heap.size)
    (h : ∀ A c w', w'.ownsRow base e size (.slice A (n + 1) c) (n + 1) (L ++ cs) → Ext w0 w' → w'.heap.size ≥ w.heap.size → (∀ (b : Nat), v.ownBlock ≠ some b → b < w.heap.size → w'.heap[b]? = w.heap[b]?) → wpList P ops Q rest (a.put o.dst (.slice A (n + 1) c)) w') : wpList P ops Q (o :: rest) a (w.alloc (.cells cs.toArray e)) := by
  subst hp
  refine wpList_append_own _ hgd s x t ho base e i z size bytes ht hi hz hsize hby hzs hsz v n L hs (hown.alloc _) ⟨w.heap.size, 0, none⟩ 1 1 cs hx (by rw [hl, Nat.one_mul]) (cell_boxed w cs e) h1 h63 hbytes (by simp; omega) ?_
  intro v' w' ho' hg' _
  have hb' : Ext w0 w' := Below.grown (Ext.alloc hext _) hg' (by have := hext.le; simp; omega) (fun k hk => by
    have := (hown.alloc (.cells cs.toArray e)).lt k hk; omega)
  have hkeep : ∀ (b : Nat), v.ownBlock ≠ some b → b < w.heap.size → w'.heap[b]? = w.heap[b]? := by
    intro b hne hbl
    rw [hg'.block b (by simp; omega) (fun e => hne e.symm)]
    exact ((Ext.refl w).alloc (.cells cs.toArray e)).block b hbl
  have hsz' := hg'.size
  simp at hsz'
  obtain ⟨hlen, ⟨_, h0⟩ | ⟨g, cap, cur, rfl, r⟩⟩ := ho'
  · omega
  · exact h _ _ _ ⟨hlen, .inr ⟨g, cap, cur, rfl, r⟩⟩ hb' (by omega) hkeep
theorem cell_kept {w w' : World} {b j : Nat} {u : Value} (h : w'.heap[b]? = w.heap[b]?) (hc : w.cell? ⟨b, j, none⟩ = some u) : w'.cell? ⟨b, j, none⟩ = some u := by
  rw [← hc]; unfold World.cell?; rw [h]
theorem own_neB {w : World} {base n b : Nat} {e : TypeId} {sz : Nat} {v : Value} {L : List Value} (h : w.ownsRow base e sz v n L) (hb : w.heap.size ≤ b) : v.ownBlock ≠ some b := by
  intro e; have := (h.lt b e).2; omega
theorem run_dep_eq (w : World) (a b a' b' : Int) : (binOp .eql 31 (.agg #[.int .i64 a, .int .i64 b]) (.agg #[.int .i64 a', .int .i64 b'])).run Try.prog w = .ok (.bool (a == a' && b == b')) w := by
  simp [go_sem, Try.underlying31, Try.underlying3]
  by_cases h1 : a = a' <;> by_cases h2 : b = b' <;> simp [h1, h2]
theorem dep_guard : Try.prog.eqGuardType Try.prog.depth 31 = false := by kernel_rfl
theorem run_dep_guard (w : World) (op : BinOp) (x y : Operand) (xs ys : Array Value) : (eqGuard op 31 x y (.agg xs) (.agg ys)).run Try.prog w = .ok () w := run_eqGuard_agg w op _ x y xs ys dep_guard
end Go.Proofs.Ytgnbjnlcikpknaa
