/- Appends beside other rows of the same type: what stays, and where the new row lies. Plain, no program. -/
import Derived.Test.YtgmlcohffdeplaaGreatLaw
import Derived.Deep.RegionHeld3
import Derived.Deep.AppendLies
namespace Go.Proofs.YtgmlcohffdeplaaGreat
open Go.RowKit
set_option linter.unusedVariables false
def rowsApart (a b : Option Nat) : Prop := ∀ k, a = some k → b ≠ some k
theorem rowsApart.symm {a b : Option Nat} (h : rowsApart a b) : rowsApart b a := fun k hb ha => h k ha hb
theorem rowsApart.none (a : Option Nat) : rowsApart a none := fun k _ h => by cases h
theorem rowsApart.new {w : World} {base n : Nat} {e : TypeId} {sz : Nat} {v : Value} {L : List Value} (h : w.ownsRow base e sz v n L) {b : Option Nat} (hb : ∀ q, b = some q → w.heap.size ≤ q) : rowsApart v.ownBlock b := fun k hk hk' => by
  have h1 := (h.lt k hk).2; have h2 := hb k hk'; omega
/-- What an append leaves. -/
structure AppR (w w' : World) (base : Nat) (e : TypeId) (size : Nat) (v : Value) (A' : Option Addr) (n' c' : Nat) (L' : List Value) : Prop where
  row : w'.ownsRow base e size (.slice A' n' c') n' L'
  os : w'.os = w.os
  tape : w'.tape = w.tape
  output : w'.output = w.output
  size : w.heap.size ≤ w'.heap.size
  kept : ∀ b, b < w.heap.size → v.ownBlock ≠ some b → w'.heap[b]? = w.heap[b]?
  fresh : ∀ q, (Value.slice A' n' c').ownBlock = some q → v.ownBlock = some q ∨ w.heap.size ≤ q
section
variable {w w' : World} {base : Nat} {e : TypeId} {size : Nat} {v : Value} {A' : Option Addr} {n' c' : Nat} {L' : List Value}
theorem AppR.other (h : AppR w w' base e size v A' n' c' L') {base2 n2 : Nat} {e2 : TypeId} {sz2 : Nat} {v2 : Value} {L2 : List Value} (h2 : w.ownsRow base2 e2 sz2 v2 n2 L2) (ha : rowsApart v2.ownBlock v.ownBlock) : w'.ownsRow base2 e2 sz2 v2 n2 L2 := by
  have hlt := h2.lt
  obtain ⟨h1, h3⟩ := h2
  refine ⟨h1, ?_⟩
  rcases h3 with h3 | ⟨g, cap, cur, rfl, hg, hh, r⟩
  · exact .inl h3
  · exact .inr ⟨g, cap, cur, rfl, hg, (h.kept g (hlt g rfl).2 (fun e => ha g rfl e)).trans hh, r⟩
theorem AppR.apart (h : AppR w w' base e size v A' n' c' L') {base2 n2 : Nat} {e2 : TypeId} {sz2 : Nat} {v2 : Value} {L2 : List Value} (h2 : w.ownsRow base2 e2 sz2 v2 n2 L2) (ha : rowsApart v2.ownBlock v.ownBlock) : rowsApart v2.ownBlock (Value.slice A' n' c').ownBlock := fun k hk hk' => by
  rcases h.fresh k hk' with h1 | h1
  · exact ha k hk h1
  · have := (h2.lt k hk).2; omega
theorem AppR.cell (h : AppR w w' base e size v A' n' c' L') {b o : Nat} {u : Value} (hc : w.cell? ⟨b, o, none⟩ = some u) (hne : v.ownBlock ≠ some b) : w'.cell? ⟨b, o, none⟩ = some u := by
  rw [World.cell?_of_block (a := ⟨b, o, none⟩) (h.kept b (lt_of_cell hc) hne)]; exact hc
theorem AppR.frozen (h : AppR w w' base e size v A' n' c' L') {b o : Nat} {f : Bool} (hc : w.frozen? ⟨b, o, none⟩ = f) (hl : b < w.heap.size) (hne : v.ownBlock ≠ some b) : w'.frozen? ⟨b, o, none⟩ = f := by
  rw [World.frozen?_of_block (a := ⟨b, o, none⟩) (h.kept b hl hne)]; exact hc
theorem AppR.turned (h : AppR w w' base e size v A' n' c' L') {lo : Nat} (hlo : ∀ q, v.ownBlock = some q → lo ≤ q) : Turned lo w'.heap.size w w' :=
  ⟨h.os, h.tape, h.output, h.size, fun b hb hr => h.kept b hb (fun e => by have := hlo b e; have := h.size; omega)⟩
end
theorem run_append_r {P : Program} {w : World} {α : Type} {enc : α → List Value} {ok : α → Prop} (t ty : TypeId) (base : Nat) (e : TypeId) (i : TypeInfo) (z : Value) (size bytes : Nat) (v : Value) (n : Nat) (L : List Value) (A : Option Addr) (m c : Nat) (ys : List α)
    (ht : P.underlying t = some (.slice e)) (hi : P.info? e = some i) (hz : i.zero = some z)
    (hsize : i.size = size) (hby : i.bytes = bytes) (hzs : z.cells.size = size) (hsz : 0 < size)
    (hown : w.ownsRow base e size v n L) (hys : SlAt (Flat enc ok) size w A m ys) (hl : ∀ y, (enc y).length = size) (h1 : ∀ y, ∀ u ∈ enc y, u.oneCell' = true)
    (h63 : n + m ≤ maxLen) (hbytes : (n + m) * bytes ≤ 140737488355328) (hbw : base ≤ w.heap.size) :
    ∃ A' c' w', (Builtin.append_ #[t, t] ty #[v, .slice A m c]).run P w = .ok (.slice A' (n + m) c') w' ∧ AppR w w' base e size v A' (n + m) c' (L ++ ys.flatMap enc) := by
  have hshape : ∀ {w' : World} {v' : Value} {L' : List Value}, w'.ownsRow base e size v' (n + m) L' → ∃ A' c', v' = .slice A' (n + m) c' := by
    intro w' v' L' h'
    rcases h'.2 with ⟨rfl, h0⟩ | ⟨g, cap, cur, rfl, _⟩
    · exact ⟨none, 0, by rw [h0]⟩
    · exact ⟨_, _, rfl⟩
  rcases A with _ | ad
  · have h0 : m = 0 := by
      rcases Nat.eq_zero_or_pos m with h0 | h0
      · exact h0
      · obtain ⟨b, o, e1, _⟩ := hys.2 h0; cases e1
    subst h0
    have hy : ys = [] := List.eq_nil_of_length_eq_zero hys.1
    subst hy
    have hrun := run_append_of_nil (P := P) w base t ty e i size ht hi v n L hown c
    obtain ⟨A', c', e1⟩ := hshape (show w.ownsRow base e size v (n + 0) L from hown)
    subst e1
    exact ⟨A', c', w, by simpa using hrun, by simpa using hown, rfl, rfl, rfl, Nat.le_refl _, fun _ _ _ => rfl, fun q hq => .inl hq⟩
  · have hlen : (ys.flatMap enc).length = m * size := by
      rw [← hys.1]; clear hys
      induction ys with
      | nil => simp
      | cons y ys ih => rw [List.flatMap_cons, List.length_append, hl, ih, List.length_cons, Nat.add_mul]; omega
    have hcells : ∀ j u, (ys.flatMap enc)[j]? = some u → w.cell? (ad.add j) = some u := by
      intro j u hu
      rcases Nat.eq_zero_or_pos m with h0 | h0
      · subst h0
        have hy : ys = [] := List.eq_nil_of_length_eq_zero hys.1
        subst hy; simp at hu
      · obtain ⟨b, off, e1, hb, hc⟩ := hys.flatCells hl h0
        injection e1 with e1; subst e1
        have := hc j u hu
        unfold Addr.add; split
        · rename_i hj; subst hj; exact this
        · exact this
    obtain ⟨v', w', hr, h2, hg', _, hf⟩ := run_append_own_at (P := P) w base t ty e i z size bytes ht hi hz hsize hby hzs hsz v n L hown ad m c (ys.flatMap enc) hlen hcells (fun u hu => by obtain ⟨y, _, hu⟩ := List.mem_flatMap.1 hu; exact h1 y u hu) h63 hbytes hbw
    obtain ⟨A', c', rfl⟩ := hshape h2
    refine ⟨A', c', w', hr, h2, hg'.os, hg'.tape, hg'.output, hg'.size, fun b hb hv => hg'.block b hb (fun e => hv e.symm), fun q hq => ?_⟩
    rcases hf with hf | hf
    · exact .inl (hf ▸ hq)
    · rw [hf] at hq; injection hq with hq; exact .inr (by omega)
theorem wpList_append_r {P : Program} {w : World} {ops : Array Oper} {rest : List Oper} {o : Oper} {a : Act} {Q : Exit → Act → World → Prop} {α : Type} {enc : α → List Value} {ok : α → Prop} (s x : Operand) (t : TypeId)
    (base : Nat) (e : TypeId) (i : TypeInfo) (z : Value) (size bytes : Nat) (v : Value) (n : Nat) (L : List Value) (A : Option Addr) (m c : Nat) (ys : List α) (hgd : o.guard = none)
    (ho : o.op = .call { callee := .builtin .append, args := #[s, x], argTypes := #[t, t] })
    (ht : P.underlying t = some (.slice e)) (hi : P.info? e = some i) (hz : i.zero = some z)
    (hsize : i.size = size) (hby : i.bytes = bytes) (hzs : z.cells.size = size) (hsz : 0 < size)
    (hs : a.eval s = v) (hown : w.ownsRow base e size v n L)
    (hx : a.eval x = .slice A m c) (hys : SlAt (Flat enc ok) size w A m ys) (hl : ∀ y, (enc y).length = size) (h1 : ∀ y, ∀ u ∈ enc y, u.oneCell' = true)
    (h63 : n + m ≤ maxLen) (hbytes : (n + m) * bytes ≤ 140737488355328)
    (hbw : base ≤ w.heap.size)
    (h : ∀ A' c' w', AppR w w' base e size v A' (n + m) c' (L ++ ys.flatMap enc) → wpList P ops Q rest (a.put o.dst (.slice A' (n + m) c')) w') : wpList P ops Q (o :: rest) a w := by
  refine wpList_plain hgd fun K hK => ?_
  obtain ⟨A', c', w', hr, h2⟩ := run_append_r (P := P) t o.type base e i z size bytes v n L A m c ys ht hi hz hsize hby hzs hsz hown hys hl h1 h63 hbytes hbw
  unfold Oper.wp execOp
  simp only [ho, resolve, invoke, builtin, Sem.run_bind, Sem.run_pure, Result.andThen_ok, List.map_toArray, List.map_cons, List.map_nil, hs, hx, hr]
  exact hK _ _ (h A' c' w' h2)
theorem step_append_r {P : Program} {w : World} {α : Type} {enc : α → List Value} {ok : α → Prop} {ops : Array Oper} {o : Oper} {a : Act} {K : Act → World → Prop} {Q : Exit → Act → World → Prop} {E : Prop} (hw : Region.wanted o (yielded ops a.tmps) = true) (s x : Operand) (t : TypeId)
    (ho : o.op = .call { callee := .builtin .append, args := #[s, x], argTypes := #[t, t] })
    (base : Nat) (e : TypeId) (i : TypeInfo) (z : Value) (size bytes : Nat) (ht : P.underlying t = some (.slice e)) (hi : P.info? e = some i) (hz : i.zero = some z)
    (hsize : i.size = size) (hby : i.bytes = bytes) (hzs : z.cells.size = size) (hsz : 0 < size)
    (v : Value) (n : Nat) (L : List Value) (A : Option Addr) (m c : Nat) (ys : List α) (N : Nat) (hN : n + m = N) (hs : a.eval s = v) (hx : a.eval x = .slice A m c)
    (hown : w.ownsRow base e size v n L) (hys : SlAt (Flat enc ok) size w A m ys) (hl : ∀ y, (enc y).length = size) (h1 : ∀ y, ∀ u ∈ enc y, u.oneCell' = true)
    (h63 : n + m ≤ maxLen) (hbytes : (n + m) * bytes ≤ 140737488355328) (hbw : base ≤ w.heap.size)
    (h : ∀ A' c' w', AppR w w' base e size v A' N c' (L ++ ys.flatMap enc) → K (a.put o.dst (.slice A' N c')) w') :
    if Region.wanted o (yielded ops a.tmps) = true then Oper.wp P o a w K Q else E := by
  subst hN
  rw [if_pos hw]
  obtain ⟨A', c', w', hr, h2⟩ := run_append_r (P := P) t o.type base e i z size bytes v n L A m c ys ht hi hz hsize hby hzs hsz hown hys hl h1 h63 hbytes hbw
  unfold Oper.wp execOp
  simp only [ho, resolve, invoke, builtin, Sem.run_bind, Sem.run_pure, Result.andThen_ok, List.map_toArray, List.map_cons, List.map_nil, hs, hx, hr]
  exact h A' c' w' h2
theorem sl_one_r {α : Type} {enc : α → List Value} {ok : α → Prop} {sz : Nat} (w : World) (x : α) (e : TypeId) (hsz : (enc x).length = sz) (hx : ok x) : SlAt (Flat enc ok) sz (w.alloc (.cells (enc x).toArray e)) (some ⟨w.heap.size, 0, none⟩) 1 [x] := by
  refine ⟨rfl, fun _ => ⟨w.heap.size, 0, rfl, by simp, fun k y hy => ?_⟩⟩
  cases k with
  | zero =>
    simp at hy; subst hy
    exact ⟨enc x, hsz, fun j u hu => by rw [show 0 + 0 * sz + j = j by omega]; exact law_box w (enc x) e j u hu, rfl, hx⟩
  | succ k => simp at hy
end Go.Proofs.YtgmlcohffdeplaaGreat
