/- What the draw of a tree of switches keeps. Plain. -/
import Derived.Test.YtafccgnaifhnkaaApart
namespace Go.Proofs.Ytafccgnaifhnkaa
open Go.RowKit
set_option linter.unusedVariables false
structure TD (w : World) (g : Nat) (wr : World) (A : Option Addr) (n c : Nat) (ps : List Int) (B : Option Addr) (m d : Nat) (ns : List Node) : Prop where
  turned : Turned g (g + 1) w wr
  cur : Cur wr g
  t0 : wr.cell? ⟨w.heap.size + 1 + 1, 0, none⟩ = some (.slice A n c)
  t1 : wr.cell? ⟨w.heap.size + 1 + 1, 1, none⟩ = some (.slice B m d)
  f0 : wr.frozen? ⟨w.heap.size + 1 + 1, 0, none⟩ = false
  f1 : wr.frozen? ⟨w.heap.size + 1 + 1, 1, none⟩ = false
  r0 : wr.cell? ⟨w.heap.size, 0, none⟩ = some (.slice none 0 0)
  r1 : wr.cell? ⟨w.heap.size, 1, none⟩ = some (.slice none 0 0)
  g0 : wr.frozen? ⟨w.heap.size, 0, none⟩ = false
  g1 : wr.frozen? ⟨w.heap.size, 1, none⟩ = false
  tb : ∃ cs, wr.heap[w.heap.size + 1 + 1]? = some (Obj.cells cs 32)
  hn : ps.length = n
  row : wr.ownsRow (w.heap.size + 1) 3 1 (.slice A n c) n (ps.flatMap encInt)
  pok : ∀ y ∈ ps, In64 y
  p1 : 1 ≤ n
  p2 : n ≤ 18
  hm : ns.length = m
  nrow : wr.ownsRow (w.heap.size + 1) 101 4 (.slice B m d) m (ns.flatMap Node.enc)
  nok : ∀ y ∈ ns, y.ok
theorem block_ne {w : World} {base n b : Nat} {e e' : TypeId} {sz : Nat} {v : Value} {L : List Value} (h : w.ownsRow base e sz v n L) (hb : ∃ cs, w.heap[b]? = some (Obj.cells cs e')) (hne : e ≠ e') : v.ownBlock ≠ some b := by
  intro hq
  obtain ⟨cs, hb⟩ := hb
  rcases h.2 with ⟨rfl, _⟩ | ⟨g, cap, cur, rfl, _, hh, _⟩
  · cases hq
  · have e1 : g = b := Option.some.inj hq
    subst e1
    rw [hh] at hb
    injection hb with hb
    injection hb with _ h2
    exact hne h2
theorem type_apart {w : World} {base n base2 n2 : Nat} {e e' : TypeId} {sz sz2 : Nat} {v v2 : Value} {L L2 : List Value} (h : w.ownsRow base e sz v n L) (h2 : w.ownsRow base2 e' sz2 v2 n2 L2) (hne : e ≠ e') : rowsApart v.ownBlock v2.ownBlock := fun k hk hk' => by
  rcases h2.2 with ⟨rfl, _⟩ | ⟨g, cap, cur, rfl, _, hh, _⟩
  · cases hk'
  · have e1 : g = k := Option.some.inj hk'
    subst e1
    exact block_ne h ⟨_, hh⟩ hne hk
theorem block_low {w : World} {base n b : Nat} {e : TypeId} {sz : Nat} {v : Value} {L : List Value} (h : w.ownsRow base e sz v n L) (hb : b < base) : v.ownBlock ≠ some b := fun e => by
  have := (h.lt b e).1; omega
section
variable {w : World} {g : Nat} {wr : World} {A : Option Addr} {n c : Nat} {ps : List Int} {B : Option Addr} {m d : Nat} {ns : List Node}
theorem TD.le (h : TD w g wr A n c ps B m d ns) : w.heap.size + 1 + 1 < wr.heap.size := lt_of_cell h.t0
theorem TD.draw (h : TD w g wr A n c ps B m d ns) (hg : g < w.heap.size) {u : World} (ht : Turned g (g + 1) wr u) (hc : Cur u g) : TD w g u A n c ps B m d ns := by
  have hl := h.le
  obtain ⟨cs, htb⟩ := h.tb
  exact ⟨h.turned.trans ht, hc, cellT ht h.t0 (by omega), cellT ht h.t1 (by omega), frozenT ht h.f0 (by omega) (by omega), frozenT ht h.f1 (by omega) (by omega), cellT ht h.r0 (by omega), cellT ht h.r1 (by omega), frozenT ht h.g0 (by omega) (by omega), frozenT ht h.g1 (by omega) (by omega), ⟨cs, heapT ht htb (by omega)⟩, h.hn, ownsT h.row ht (by omega), h.pok, h.p1, h.p2, h.hm, ownsT h.nrow ht (by omega), h.nok⟩
theorem TD.ext (h : TD w g wr A n c ps B m d ns) {u : World} (e : Ext wr u) : TD w g u A n c ps B m d ns := by
  have hl := h.le
  obtain ⟨cs, htb⟩ := h.tb
  exact ⟨h.turned.ext e, h.cur.ext e, e.cell h.t0, e.cell h.t1, (e.frozenEq (lt_of_cell h.t0)).trans h.f0, (e.frozenEq (lt_of_cell h.t1)).trans h.f1, e.cell h.r0, e.cell h.r1, (e.frozenEq (lt_of_cell h.r0)).trans h.g0, (e.frozenEq (lt_of_cell h.r1)).trans h.g1, ⟨cs, heapE e htb⟩, h.hn, owns_ext h.row e, h.pok, h.p1, h.p2, h.hm, owns_ext h.nrow e, h.nok⟩
theorem TD.side (h : TD w g wr A n c ps B m d ns) (hg : g < w.heap.size) {w' : World} {base n0 : Nat} {v : Value} {L : List Value} {A' : Option Addr} {n' c' : Nat} {L' : List Value} (hv : wr.ownsRow base 3 1 v n0 L) (ha : AppR wr w' base 3 1 v A' n' c' L') (hb : w.heap.size + 1 ≤ base) (hap : rowsApart (Value.slice A n c).ownBlock v.ownBlock) : TD w g w' A n c ps B m d ns := by
  have hl := h.le
  obtain ⟨cs, htb⟩ := h.tb
  have hT := block_ne hv h.tb (by decide)
  have hR : v.ownBlock ≠ some w.heap.size := block_low hv (by omega)
  have htu := ha.turned (lo := w.heap.size + 1) (fun q hq => Nat.le_trans hb (hv.lt q hq).1)
  exact ⟨turned_low h.turned htu (by omega), h.cur.keep htu (by omega), ha.cell h.t0 hT, ha.cell h.t1 hT, ha.frozen h.f0 (by omega) hT, ha.frozen h.f1 (by omega) hT, ha.cell h.r0 hR, ha.cell h.r1 hR, ha.frozen h.g0 (by omega) hR, ha.frozen h.g1 (by omega) hR, ⟨cs, (ha.kept _ (by omega) hT).trans htb⟩, h.hn, ha.other h.row hap, h.pok, h.p1, h.p2, h.hm, ha.other h.nrow (type_apart h.nrow hv (by decide)), h.nok⟩
theorem cells_set {w1 : World} {b : Nat} {cs : Array Value} {e : TypeId} (h : w1.heap[b]? = some (Obj.cells cs e)) (j : Nat) (u : Value) : ∃ cs', (w1.setCell ⟨b, j, none⟩ u).heap[b]? = some (Obj.cells cs' e) := by
  exact ⟨_, heap_setCell_same w1 b j cs e u h⟩
theorem ne_at {b o : Nat} {v : Value} (h : v.ownBlock ≠ some b) : ∀ q, v.ownBlock = some q → q ≠ (⟨b, o, none⟩ : Addr).block := fun q hq e => h (by rw [hq]; exact congrArg some e)
theorem TD.push (h : TD w g wr A n c ps B m d ns) (hg : g < w.heap.size) {w' : World} {s : Int} {A' : Option Addr} {c' : Nat} (ha : AppR wr w' (w.heap.size + 1) 3 1 (.slice A n c) A' (n + 1) c' (ps.flatMap encInt ++ encInt s)) (hs : In64 s) (hl1 : n + 1 ≤ 18) : TD w g (w'.setCell ⟨w.heap.size + 1 + 1, 0, none⟩ (.slice A' (n + 1) c')) A' (n + 1) c' (ps ++ [s]) B m d ns := by
  have hl := h.le
  obtain ⟨cs, htb⟩ := h.tb
  have hT := block_ne h.row h.tb (by decide)
  have hR : (Value.slice A n c).ownBlock ≠ some w.heap.size := block_low h.row (by omega)
  have htu := ha.turned (lo := w.heap.size + 1) (fun q hq => (h.row.lt q hq).1)
  have q0 := ha.cell h.t0 hT
  have q1 := ha.cell h.t1 hT
  have qf0 := ha.frozen h.f0 (by omega) hT
  have qf1 := ha.frozen h.f1 (by omega) hT
  have p0 := ha.cell h.r0 hR
  have p1 := ha.cell h.r1 hR
  have pf0 := ha.frozen h.g0 (by omega) hR
  have pf1 := ha.frozen h.g1 (by omega) hR
  have hb' : w'.heap[w.heap.size + 1 + 1]? = some (Obj.cells cs 32) := (ha.kept _ (by omega) hT).trans htb
  have hT' := block_ne ha.row ⟨cs, hb'⟩ (by decide)
  have hN' := ha.other h.nrow (type_apart h.nrow h.row (by decide))
  have hTN := block_ne hN' ⟨cs, hb'⟩ (by decide)
  have hlt := lt_of_cell q0
  refine ⟨turned_own (turned_low h.turned htu (by omega)) (by omega), (h.cur.keep htu (by omega)).put (by omega), by go_simp, by go_simp, by go_simp, by go_simp, by go_simp, by go_simp, by go_simp, by go_simp, cells_set hb' _ _, by rw [List.length_append, h.hn]; rfl, ?_, all_snoc h.pok hs, by omega, hl1, h.hm, owns_other hN' (ne_at hTN) _, h.nok⟩
  rw [List.flatMap_append]
  have := owns_other (p := ⟨w.heap.size + 1 + 1, 0, none⟩) ha.row (ne_at hT') (.slice A' (n + 1) c')
  simpa using this
theorem TD.pushN (h : TD w g wr A n c ps B m d ns) (hg : g < w.heap.size) {w' : World} {x : Node} {B' : Option Addr} {d' : Nat} (ha : AppR wr w' (w.heap.size + 1) 101 4 (.slice B m d) B' (m + 1) d' (ns.flatMap Node.enc ++ Node.enc x)) (hx : x.ok) : TD w g (w'.setCell ⟨w.heap.size + 1 + 1, 1, none⟩ (.slice B' (m + 1) d')) A n c ps B' (m + 1) d' (ns ++ [x]) := by
  have hl := h.le
  obtain ⟨cs, htb⟩ := h.tb
  have hT := block_ne h.nrow h.tb (by decide)
  have hR : (Value.slice B m d).ownBlock ≠ some w.heap.size := block_low h.nrow (by omega)
  have htu := ha.turned (lo := w.heap.size + 1) (fun q hq => (h.nrow.lt q hq).1)
  have q0 := ha.cell h.t0 hT
  have q1 := ha.cell h.t1 hT
  have qf0 := ha.frozen h.f0 (by omega) hT
  have qf1 := ha.frozen h.f1 (by omega) hT
  have p0 := ha.cell h.r0 hR
  have p1 := ha.cell h.r1 hR
  have pf0 := ha.frozen h.g0 (by omega) hR
  have pf1 := ha.frozen h.g1 (by omega) hR
  have hb' : w'.heap[w.heap.size + 1 + 1]? = some (Obj.cells cs 32) := (ha.kept _ (by omega) hT).trans htb
  have hT' := block_ne ha.row ⟨cs, hb'⟩ (by decide)
  have hP' := ha.other h.row (type_apart h.row h.nrow (by decide))
  have hTP := block_ne hP' ⟨cs, hb'⟩ (by decide)
  have hlt := lt_of_cell q0
  refine ⟨turned_own (turned_low h.turned htu (by omega)) (by omega), (h.cur.keep htu (by omega)).put (by omega), by go_simp, by go_simp, by go_simp, by go_simp, by go_simp, by go_simp, by go_simp, by go_simp, cells_set hb' _ _, h.hn, owns_other hP' (ne_at hTP) _, h.pok, h.p1, h.p2, by rw [List.length_append, h.hm]; rfl, ?_, all_snoc h.nok hx⟩
  rw [List.flatMap_append]
  have := owns_other (p := ⟨w.heap.size + 1 + 1, 1, none⟩) ha.row (ne_at hT') (.slice B' (m + 1) d')
  simpa using this
end
end Go.Proofs.Ytafccgnaifhnkaa
