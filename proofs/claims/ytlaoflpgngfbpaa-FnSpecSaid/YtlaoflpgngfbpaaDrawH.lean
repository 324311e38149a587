/- What the draws lean on: appends of lists. Plain lemmas, no program. -/
import Derived.Test.YtlaoflpgngfbpaaDrawG
namespace Go.Proofs.Ytlaoflpgngfbpaa
open Go.RowKit
set_option linter.unusedVariables false
theorem grown_turned {w w' : World} {base n : Nat} {e : TypeId} {sz : Nat} {v : Value} {L : List Value} (hown : w.ownsRow base e sz v n L) (hg : w.grownBy w' v.ownBlock) : Turned base w'.heap.size w w' :=
  ⟨hg.os, hg.tape, hg.output, hg.size, fun b hb hr => hg.block b hb (fun e => by have h1 := (hown.lt b e.symm).1; have h2 := hg.size; omega)⟩
theorem wpList_append_list_t {P : Program} {w : World} {ops : Array Oper} {rest : List Oper} {o : Oper} {a : Act} {Q : Exit → Act → World → Prop} {α : Type} {enc : α → List Value} {ok : α → Prop} (s x : Operand) (t : TypeId)
    (base : Nat) (e : TypeId) (i : TypeInfo) (z : Value) (size bytes : Nat) (v : Value) (n : Nat) (L : List Value) (A : Option Addr) (m c : Nat) (ys : List α) (hgd : o.guard = none)
    (ho : o.op = .call { callee := .builtin .append, args := #[s, x], argTypes := #[t, t] })
    (ht : P.underlying t = some (.slice e)) (hi : P.info? e = some i) (hz : i.zero = some z)
    (hsize : i.size = size) (hby : i.bytes = bytes) (hzs : z.cells.size = size) (hsz : 0 < size)
    (hs : a.eval s = v) (hown : w.ownsRow base e size v n L)
    (hx : a.eval x = .slice A m c) (hys : SlAt (Flat enc ok) size w A m ys) (hl : ∀ y, (enc y).length = size) (h1 : ∀ y, ∀ u ∈ enc y, u.oneCell' = true)
    (h63 : n + m ≤ maxLen) (hbytes : (n + m) * bytes ≤ 140737488355328)
    (hbw : base ≤ w.heap.size)
    (h : ∀ A' c' w', (w'.ownsRow base e size (.slice A' (n + m) c') (n + m) (L ++ ys.flatMap enc)) → Turned base w'.heap.size w w' → w.heap.size ≤ w'.heap.size → (∀ b : Nat, v.ownBlock ≠ some b → b < w.heap.size → w'.heap[b]? = w.heap[b]?) → wpList P ops Q rest (a.put o.dst (.slice A' (n + m) c')) w') : wpList P ops Q (o :: rest) a w := by
  have hshape : ∀ {w' : World} {v' : Value} {L' : List Value}, w'.ownsRow base e size v' (n + m) L' → ∃ A' c', v' = .slice A' (n + m) c' := by
    intro w' v' L' h'
    rcases h'.2 with ⟨rfl, h0⟩ | ⟨g, cap, cur, rfl, _⟩
    · exact ⟨none, 0, by rw [h0]⟩
    · exact ⟨_, _, rfl⟩
  rcases Nat.eq_zero_or_pos m with h0 | h0
  · subst h0
    have hy : ys = [] := List.eq_nil_of_length_eq_zero hys.1
    subst hy
    rcases A with _ | ad
    · refine wpList_plain hgd fun K hK => ?_
      have hrun := run_append_of_nil (P := P) w base t o.type e i size ht hi v n L hown c
      unfold Oper.wp execOp
      simp only [ho, resolve, invoke, builtin, Sem.run_bind, Sem.run_pure, Result.andThen_ok, List.map_toArray, List.map_cons, List.map_nil, hs, hx, hrun]
      obtain ⟨A', c', e1⟩ := hshape (show w.ownsRow base e size v (n + 0) L from hown)
      subst e1
      exact hK _ _ (h A' c' w (by simpa using hown) (Turned.refl _ _ _) (Nat.le_refl _) (fun _ _ _ => rfl))
    · refine wpList_append_own w hgd s x t ho base e i z size bytes ht hi hz hsize hby hzs hsz v n L hs hown ad 0 c [] hx (by simp) (fun j u hu => by simp at hu) (fun u hu => by cases hu) h63 hbytes hbw ?_
      intro v' w' ho' hg' _
      obtain ⟨A', c', rfl⟩ := hshape ho'
      exact h A' c' w' (by simpa using ho') (grown_turned hown hg') hg'.size (fun b hb hl => hg'.block b hl (fun e => hb e.symm))
  · obtain ⟨b, off, rfl, hb, hc⟩ := hys.flatCells hl h0
    have hlen : (ys.flatMap enc).length = m * size := by
      rw [← hys.1]; clear h hc hys hx
      induction ys with
      | nil => simp
      | cons y ys ih => rw [List.flatMap_cons, List.length_append, hl, ih, List.length_cons, Nat.add_mul]; omega
    refine wpList_append_own w hgd s x t ho base e i z size bytes ht hi hz hsize hby hzs hsz v n L hs hown ⟨b, off, none⟩ m c (ys.flatMap enc) hx hlen (fun j u hu => ?_) (fun u hu => ?_) h63 hbytes hbw ?_
    · have := hc j u hu
      unfold Addr.add; split
      · rename_i hj; subst hj; exact this
      · exact this
    · obtain ⟨y, _, hu⟩ := List.mem_flatMap.1 hu; exact h1 y u hu
    · intro v' w' ho' hg' _
      obtain ⟨A', c', rfl⟩ := hshape ho'
      exact h A' c' w' ho' (grown_turned hown hg') hg'.size (fun b hb hl => hg'.block b hl (fun e => hb e.symm))

theorem dcell_kept {w w' : World} {b j : Nat} {u : Value} (h : w'.heap[b]? = w.heap[b]?) (hc : w.cell? ⟨b, j, none⟩ = some u) : w'.cell? ⟨b, j, none⟩ = some u := by
  rw [← hc]; unfold World.cell?; rw [h]
theorem down_ne {w : World} {base n b : Nat} {e : TypeId} {sz : Nat} {v : Value} {L : List Value} (h : w.ownsRow base e sz v n L) (hb : w.heap.size ≤ b) : v.ownBlock ≠ some b := by
  intro e; have := (h.lt b e).2; omega
theorem down_form {w : World} {base n : Nat} {e : TypeId} {sz : Nat} {A : Option Addr} {c : Nat} {L : List Value} (h : w.ownsRow base e sz (.slice A n c) n L) (hn : 0 < n) : ∃ g, A = some ⟨g, 0, none⟩ ∧ base ≤ g ∧ g < w.heap.size := by
  obtain ⟨g, cap, e1, h1, h2⟩ := own_form h hn
  injection e1 with e1 _ _
  exact ⟨g, e1, h1, h2⟩
theorem heap_box_lt {w : World} {b : Nat} {o : Obj} (h : w.heap[b]? = some o) : b < w.heap.size := heap_lt h
end Go.Proofs.Ytlaoflpgngfbpaa
