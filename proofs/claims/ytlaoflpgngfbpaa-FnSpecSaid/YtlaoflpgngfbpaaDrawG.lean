/- What the draws lean on: cells and rows beside the cursor. Plain lemmas, no program. -/
import Derived.Test.YtlaoflpgngfbpaaDraw3
namespace Go.Proofs.Ytlaoflpgngfbpaa
open Go.RowKit
set_option linter.unusedVariables false
/-- Low blocks stay: what lies from base on may turn. -/
theorem turned_low {g base : Nat} {w w1 w2 : World} (h : Turned g (g + 1) w w1) (k : Turned base (w2.heap.size) w1 w2) (hb : w.heap.size ≤ base) : Turned g (g + 1) w w2 :=
  ⟨k.os.trans h.os, k.tape.trans h.tape, k.output.trans h.output, Nat.le_trans h.size k.size, fun b hb1 hr => (k.block b (Nat.lt_of_lt_of_le hb1 h.size) (.inl (by omega))).trans (h.block b hb1 hr)⟩
theorem Cur.keep {g lo hi : Nat} {w w' : World} (hc : Cur w g) (ht : Turned lo hi w w') (hg : g < lo) : Cur w' g := by
  obtain ⟨hlt, hfz, A, n, c, bs, i, h, c0, c1, c2, hin, hn, hh, hsl, hA⟩ := hc
  have hblk : ∀ b, b ≤ g → w'.heap[b]? = w.heap[b]? := fun b hb => ht.block b (by omega) (.inl (by omega))
  refine ⟨Nat.lt_of_lt_of_le hlt ht.size, fun j => by rw [World.frozen?_of_block (a := ⟨g, j, none⟩) (hblk g (Nat.le_refl _))]; exact hfz j, A, n, c, bs, i, h, by rw [World.cell?_of_block (a := ⟨g, 0, none⟩) (hblk g (Nat.le_refl _))]; exact c0, by rw [World.cell?_of_block (a := ⟨g, 1, none⟩) (hblk g (Nat.le_refl _))]; exact c1, by rw [World.cell?_of_block (a := ⟨g, 2, none⟩) (hblk g (Nat.le_refl _))]; exact c2, hin, hn, hh, ?_, hA⟩
  refine ⟨hsl.1, fun h0 => ?_⟩
  obtain ⟨b, o, e, hb, hcs⟩ := hsl.2 h0
  have hbg := hA h0 b o e
  refine ⟨b, o, e, Nat.lt_of_lt_of_le hb ht.size, fun k x hx => ?_⟩
  obtain ⟨cs, q1, q2, q3⟩ := hcs k x hx
  exact ⟨cs, q1, fun j u hu => by rw [World.cell?_of_block (a := ⟨b, o + k * 1 + j, none⟩) (hblk b (by omega))]; exact q2 j u hu, q3⟩
theorem Cur.ext {g : Nat} {w w' : World} (hc : Cur w g) (h : Ext w w') : Cur w' g := hc.keep (h.turned (g + 1) (g + 1)) (Nat.lt_succ_self g)
theorem Turned.ext {g : Nat} {w w1 w2 : World} (h : Turned g (g + 1) w w1) (k : Ext w1 w2) : Turned g (g + 1) w w2 := h.trans (k.turned _ _)
theorem cellT {g b o : Nat} {v : Value} {w w' : World} (ht : Turned g (g + 1) w w') (h : w.cell? ⟨b, o, none⟩ = some v) (hb : b ≠ g) : w'.cell? ⟨b, o, none⟩ = some v := by
  rw [World.cell?_of_block (a := ⟨b, o, none⟩) (ht.block b (lt_of_cell h) (by omega))]; exact h
theorem frozenT {g b o : Nat} {f : Bool} {w w' : World} (ht : Turned g (g + 1) w w') (h : w.frozen? ⟨b, o, none⟩ = f) (hl : b < w.heap.size) (hb : b ≠ g) : w'.frozen? ⟨b, o, none⟩ = f := by
  rw [World.frozen?_of_block (a := ⟨b, o, none⟩) (ht.block b hl (by omega))]; exact h
theorem ownsT {w w' : World} {base lo hi : Nat} {e : TypeId} {sz n : Nat} {v : Value} {L : List Value} (h : w.ownsRow base e sz v n L) (ht : Turned lo hi w w') (hd : hi ≤ base) : w'.ownsRow base e sz v n L := by
  have hlt := h.lt
  obtain ⟨h1, h2⟩ := h
  refine ⟨h1, ?_⟩
  rcases h2 with h2 | ⟨g, cap, cur, rfl, hg, hh, r⟩
  · exact .inl h2
  · exact .inr ⟨g, cap, cur, rfl, hg, (ht.block g (hlt g rfl).2 (.inr (Nat.le_trans hd hg))).trans hh, r⟩
/-- 'out = append(out, x)': one value, laid in a box of its own; what lies below the row's base stays. -/
theorem wpList_append_one_t {P : Program} {w : World} {ops : Array Oper} {rest : List Oper} {o : Oper} {a : Act} {Q : Exit → Act → World → Prop} (s x : Operand) (t : TypeId)
    (base : Nat) (e : TypeId) (i : TypeInfo) (z : Value) (size bytes : Nat) (v : Value) (n : Nat) (L cs : List Value) (hgd : o.guard = none)
    (ho : o.op = .call { callee := .builtin .append, args := #[s, x], argTypes := #[t, t] })
    (ht : P.underlying t = some (.slice e)) (hi : P.info? e = some i) (hz : i.zero = some z)
    (hsize : i.size = size) (hby : i.bytes = bytes) (hzs : z.cells.size = size) (hsz : 0 < size)
    (hs : a.eval s = v) (hown : w.ownsRow base e size v n L)
    (p : Nat) (hx : a.eval x = .slice (some ⟨p, 0, none⟩) 1 1) (hp : p = w.heap.size) (hl : cs.length = size) (h1 : ∀ u ∈ cs, u.oneCell' = true)
    (h63 : n + 1 ≤ maxLen) (hbytes : (n + 1) * bytes ≤ 140737488355328) (hbw : base ≤ w.heap.size)
    (h : ∀ A c w', w'.ownsRow base e size (.slice A (n + 1) c) (n + 1) (L ++ cs) → Turned base w'.heap.size w w' → w.heap.size < w'.heap.size → (∀ (b : Nat) (cs' : Array Value) (e' : TypeId), e' ≠ e → w.heap[b]? = some (Obj.cells cs' e') → w'.heap[b]? = some (Obj.cells cs' e')) → wpList P ops Q rest (a.put o.dst (.slice A (n + 1) c)) w') : wpList P ops Q (o :: rest) a (w.alloc (.cells cs.toArray e)) := by
  subst hp
  refine wpList_append_own _ hgd s x t ho base e i z size bytes ht hi hz hsize hby hzs hsz v n L hs (hown.alloc _) ⟨w.heap.size, 0, none⟩ 1 1 cs hx (by rw [hl, Nat.one_mul]) (cell_boxed w cs e) h1 h63 hbytes (by simp; omega) ?_
  intro v' w' ho' hg' _
  have hsz' := hg'.size
  simp at hsz'
  have hbl : ∀ b, b < w.heap.size → v.ownBlock ≠ some b → w'.heap[b]? = w.heap[b]? := fun b hb hv => by
    rw [hg'.block b (by simp; omega) (fun e => hv e.symm)]
    exact ((Ext.refl w).alloc (.cells cs.toArray e)).block b hb
  have htu : Turned base w'.heap.size w w' := ⟨hg'.os, hg'.tape, hg'.output, by omega, fun b hb hr => by
    have hb1 : b < base := by omega
    exact hbl b hb (fun hv => by have := (hown.lt b hv).1; omega)⟩
  have hkeep : ∀ (b : Nat) (cs' : Array Value) (e' : TypeId), e' ≠ e → w.heap[b]? = some (Obj.cells cs' e') → w'.heap[b]? = some (Obj.cells cs' e') := by
    intro b cs' e' hne hb
    have hl' : b < w.heap.size := by
      rcases Nat.lt_or_ge b w.heap.size with hl | hl
      · exact hl
      · rw [Array.getElem?_eq_none hl] at hb; cases hb
    rw [hbl b hl' ?_]
    · exact hb
    · intro hv
      rcases hown.2 with ⟨rfl, _⟩ | ⟨g, cap, cur, rfl, _, hh, _⟩
      · cases hv
      · injection hv with hv; subst hv
        rw [hh] at hb; injection hb with hb; injection hb with _ h2; exact hne h2.symm
  obtain ⟨hlen, ⟨_, h0⟩ | ⟨g, cap, cur, rfl, r⟩⟩ := ho'
  · omega
  · exact h _ _ _ ⟨hlen, .inr ⟨g, cap, cur, rfl, r⟩⟩ htu (by omega) hkeep
/-- A call hands back a list in new memory; of what was, only the cursor has turned. -/
def RetRowD {α : Type} (enc : α → List Value) (ok : α → Prop) (e : TypeId) (sz m : Nat) (w : World) (g : Nat) : Ending → World → Prop :=
  fun en w' => ∃ (A : Option Addr) (c : Nat) (xs : List α), en = .returned (.slice A xs.length c) ∧ w'.ownsRow w.heap.size e sz (.slice A xs.length c) xs.length (xs.flatMap enc) ∧ (∀ x ∈ xs, ok x) ∧ xs.length ≤ m ∧ Turned g (g + 1) w w' ∧ Cur w' g
theorem rowD_sl {α : Type} {enc : α → List Value} {ok : α → Prop} {e : TypeId} {sz base c : Nat} {w : World} {A : Option Addr} {xs : List α} (hsz : ∀ x, (enc x).length = sz) (h : w.ownsRow base e sz (.slice A xs.length c) xs.length (xs.flatMap enc)) (hok : ∀ x ∈ xs, ok x) : SlAt (Flat enc ok) sz w A xs.length xs := (OwnAt.flat hsz hok h).slAt
theorem all_snoc {α : Type} {ok : α → Prop} {xs : List α} {x : α} (h : ∀ y ∈ xs, ok y) (hx : ok x) : ∀ y ∈ xs ++ [x], ok y := fun y hy => by
  rcases List.mem_append.1 hy with hy | hy
  · exact h y hy
  · rw [List.mem_singleton.1 hy]; exact hx
theorem own_snoc {α : Type} {enc : α → List Value} {e : TypeId} {sz base c : Nat} {w : World} {A : Option Addr} {xs : List α} {x : α} (h : w.ownsRow base e sz (.slice A (xs.length + 1) c) (xs.length + 1) (xs.flatMap enc ++ enc x)) :
    w.ownsRow base e sz (.slice A (xs ++ [x]).length c) (xs ++ [x]).length ((xs ++ [x]).flatMap enc) := by
  rw [List.flatMap_append, List.length_append]; simpa using h
/-- A row whose values are one by one turned into another list's. -/
theorem owns_put {α : Type} {enc : α → List Value} {e : TypeId} {sz base c : Nat} {w : World} {g : Nat} {xs : List α} (hsz : ∀ y, (enc y).length = sz) {k j : Nat} (hj : j < sz) {x x' : α} (hx : xs[k]? = some x) {u : Value} (he : enc x' = (enc x).set j u)
    (h : w.ownsRow base e sz (.slice (some ⟨g, 0, none⟩) xs.length c) xs.length (xs.flatMap enc)) :
    (w.setCell ⟨g, k * sz + j, none⟩ u).ownsRow base e sz (.slice (some ⟨g, 0, none⟩) (xs.set k x').length c) (xs.set k x').length ((xs.set k x').flatMap enc) := by
  have hk := (List.getElem?_eq_some_iff.1 hx).1
  have h2 := (h.stored (k * sz + j) u).1
  have hpre : (xs.take k).length = k := by rw [List.length_take]; omega
  have h3 := flatMap_set hsz hj he (xs.drop (k + 1)) (xs.take k)
  rw [← split_at hx, hpre] at h3
  rw [h3] at h2
  rw [List.set_eq_take_append_cons_drop, if_pos hk]
  have hl : (xs.take k ++ x' :: xs.drop (k + 1)).length = xs.length := by simp; omega
  rw [hl]; exact h2
theorem all_set {α : Type} {ok : α → Prop} {xs : List α} {k : Nat} {x : α} (h : ∀ y ∈ xs, ok y) (hx : ok x) : ∀ y ∈ xs.set k x, ok y := fun y hy => by
  rcases List.mem_or_eq_of_mem_set hy with hy | rfl
  · exact h y hy
  · exact hx
theorem turned_own {g j base : Nat} {w w1 : World} {u : Value} (h : Turned g (g + 1) w w1) (hb : w.heap.size ≤ base) : Turned g (g + 1) w (w1.setCell ⟨base, j, none⟩ u) :=
  ⟨h.os, h.tape, h.output, by simpa [World.setCell] using h.size, fun b hb1 hr => (Below.heap_setCell _ _ _ _ (by simp only []; omega)).trans (h.block b hb1 hr)⟩
theorem Cur.put {g j b : Nat} {w : World} {u : Value} (hc : Cur w g) (hb : g < b) : Cur (w.setCell ⟨b, j, none⟩ u) g :=
  hc.keep (lo := b) (hi := b + 1) ⟨rfl, rfl, rfl, by simp [World.setCell], fun k _ hr => Below.heap_setCell _ _ _ _ (by simp only []; omega)⟩ hb
theorem dcell_box (w : World) (cs : List Value) (e : TypeId) (j : Nat) (u : Value) (h : cs[j]? = some u) : (w.alloc (.cells cs.toArray e)).cell? ⟨w.heap.size, j, none⟩ = some u := law_box w cs e j u h
theorem dfrozen_box (w : World) (cs : List Value) (e : TypeId) (j : Nat) : (w.alloc (.cells cs.toArray e)).frozen? ⟨w.heap.size, j, none⟩ = false := by simp
theorem heap_box (w : World) (b : Nat) (hb : w.heap.size = b) (o : Obj) : (w.alloc o).heap[b]? = some o := by subst hb; exact heap_alloc_new w o
theorem ret_post {w : World} {P : Program} {fn : Func} {a : Act} {v : Value} {t : Tmp} {R : Ending → World → Prop} (hr : fn.results = #[.tmp t]) (h : R (.returned v) w) (hv : a.tmps.getD t undef = v := by rfl) (hd : a.defers = [] := by rfl) : bodyPost P fn R .ret a w :=
  bodyPost_ret (results_tmp hr _ _ _) hd (by rw [hv]; exact h)
theorem in64_of {n : Int} (h1 : -9223372036854775808 ≤ n) (h2 : n ≤ 9223372036854775807) : In64 n := ⟨h1, h2⟩
theorem heap_lt {w : World} {b : Nat} {o : Obj} (h : w.heap[b]? = some o) : b < w.heap.size := by
  rcases Nat.lt_or_ge b w.heap.size with hl | hl
  · exact hl
  · rw [Array.getElem?_eq_none hl] at h; cases h
def RetStrD (m : Nat) (w : World) (g : Nat) : Ending → World → Prop := fun e w' => ∃ s : ByteArray, e = .returned (.string s) ∧ s.size ≤ m ∧ Turned g (g + 1) w w' ∧ Cur w' g
theorem strD {m g : Nat} {w w' : World} (s : ByteArray) (hs : s.size ≤ m) (ht : Turned g (g + 1) w w') (hc : Cur w' g) : RetStrD m w g (.returned (.string s)) w' := ⟨s, rfl, hs, ht, hc⟩
theorem heapT {g b : Nat} {o : Obj} {w w' : World} (ht : Turned g (g + 1) w w') (h : w.heap[b]? = some o) (hb : b ≠ g) : w'.heap[b]? = some o := by
  have hl : b < w.heap.size := by
    rcases Nat.lt_or_ge b w.heap.size with hl | hl
    · exact hl
    · rw [Array.getElem?_eq_none hl] at h; cases h
  rw [ht.block b hl (by omega)]; exact h
theorem heapE {b : Nat} {o : Obj} {w w' : World} (ht : Ext w w') (h : w.heap[b]? = some o) : w'.heap[b]? = some o := by
  have hl : b < w.heap.size := by
    rcases Nat.lt_or_ge b w.heap.size with hl | hl
    · exact hl
    · rw [Array.getElem?_eq_none hl] at h; cases h
  rw [ht.block b hl]; exact h
theorem cell_block {w : World} {b : Nat} {cs : List Value} {e : TypeId} (h : w.heap[b]? = some (Obj.cells cs.toArray e)) (j : Nat) (u : Value) (hj : cs[j]? = some u) : w.cell? ⟨b, j, none⟩ = some u := by
  rw [cell_of_row w b j cs.toArray e (0, 0) h]; simpa using hj
theorem owns_other {w : World} {base : Nat} {e : TypeId} {sz n : Nat} {v : Value} {L : List Value} (h : w.ownsRow base e sz v n L) {p : Addr} (hq : ∀ q, v.ownBlock = some q → q ≠ p.block) (u : Value) : (w.setCell p u).ownsRow base e sz v n L := by
  obtain ⟨h1, h2⟩ := h
  refine ⟨h1, ?_⟩
  rcases h2 with h2 | ⟨g, cap, cur, rfl, hg, hh, r⟩
  · exact .inl h2
  · exact .inr ⟨g, cap, cur, rfl, hg, (Below.heap_setCell _ _ _ _ (hq g rfl)).trans hh, r⟩
end Go.Proofs.Ytlaoflpgngfbpaa
