/- Merged by mergelean.py: Apart, DrawTopo, DrawTopo2, DTopoA. -/
import Derived.Test.YtgmlcohffdeplaaGreatMDraw
import Derived.Test.YtgmlcohffdeplaaGreatAppR
import Derived.Test.YtgmlcohffdeplaaGreatTopo2
import Derived.Deep.RegionLaw
import Derived.Test.YtgmlcohffdeplaaGreatProfF
import Derived.Test.YtgmlcohffdeplaaGreatChg
import Derived.Test.YtgmlcohffdeplaaGreatPRow
import Derived.Deep.RegionHeld3
/-! Apart -/

/-! DrawTopo -/
namespace Go.Proofs.YtgmlcohffdeplaaGreat
open Go.RowKit
set_option linter.unusedVariables false
structure TD (w : World) (g : Nat) (wr : World) (A : Option Addr) (n c : Nat) (ps : List Int) (B : Option Addr) (m d : Nat) (ns : List Node) : Prop where
  turned : Turned g (g + 1) w wr
  cur : Cur wr g
  t0 : wr.cell? ⟨w.heap.size + 1 + 1, 0, none⟩ = some (.slice A n c)
  t1 : wr.cell? ⟨w.heap.size + 1 + 1, 1, none⟩ = some (.slice B m d)
  f0 : wr.frozen? ⟨w.heap.size + 1 + 1, 0, none⟩ = false
  f1 : wr.frozen? ⟨w.heap.size + 1 + 1, 1, none⟩ = false
  r0 : wr.cell? ⟨w.heap.size, 0, none⟩ = some (.slice none 0 0)
  r1 : wr.cell? ⟨w.heap.size, 1, none⟩ = some (.slice none 0 0)
  g0 : wr.frozen? ⟨w.heap.size, 0, none⟩ = false
  g1 : wr.frozen? ⟨w.heap.size, 1, none⟩ = false
  tb : ∃ cs, wr.heap[w.heap.size + 1 + 1]? = some (Obj.cells cs 38)
  hn : ps.length = n
  row : wr.ownsRow (w.heap.size + 1) 3 1 (.slice A n c) n (ps.flatMap encInt)
  pok : ∀ y ∈ ps, In64 y
  p1 : 1 ≤ n
  p2 : n ≤ 18
  hm : ns.length = m
  nrow : wr.ownsRow (w.heap.size + 1) 130 4 (.slice B m d) m (ns.flatMap Node.enc)
  nok : ∀ y ∈ ns, y.ok
theorem block_ne {w : World} {base n b : Nat} {e e' : TypeId} {sz : Nat} {v : Value} {L : List Value} (h : w.ownsRow base e sz v n L) (hb : ∃ cs, w.heap[b]? = some (Obj.cells cs e')) (hne : e ≠ e') : v.ownBlock ≠ some b := by
  intro hq
  obtain ⟨cs, hb⟩ := hb
  rcases h.2 with ⟨rfl, _⟩ | ⟨g, cap, cur, rfl, _, hh, _⟩
  · cases hq
  · have e1 : g = b := Option.some.inj hq
    subst e1
    rw [hh] at hb
    injection hb with hb
    injection hb with _ h2
    exact hne h2
theorem type_apart {w : World} {base n base2 n2 : Nat} {e e' : TypeId} {sz sz2 : Nat} {v v2 : Value} {L L2 : List Value} (h : w.ownsRow base e sz v n L) (h2 : w.ownsRow base2 e' sz2 v2 n2 L2) (hne : e ≠ e') : rowsApart v.ownBlock v2.ownBlock := fun k hk hk' => by
  rcases h2.2 with ⟨rfl, _⟩ | ⟨g, cap, cur, rfl, _, hh, _⟩
  · cases hk'
  · have e1 : g = k := Option.some.inj hk'
    subst e1
    exact block_ne h ⟨_, hh⟩ hne hk
theorem block_low {w : World} {base n b : Nat} {e : TypeId} {sz : Nat} {v : Value} {L : List Value} (h : w.ownsRow base e sz v n L) (hb : b < base) : v.ownBlock ≠ some b := fun e => by
  have := (h.lt b e).1; omega
section
variable {w : World} {g : Nat} {wr : World} {A : Option Addr} {n c : Nat} {ps : List Int} {B : Option Addr} {m d : Nat} {ns : List Node}
theorem TD.le (h : TD w g wr A n c ps B m d ns) : w.heap.size + 1 + 1 < wr.heap.size := lt_of_cell h.t0
theorem TD.draw (h : TD w g wr A n c ps B m d ns) (hg : g < w.heap.size) {u : World} (ht : Turned g (g + 1) wr u) (hc : Cur u g) : TD w g u A n c ps B m d ns := by
  have hl := h.le
  obtain ⟨cs, htb⟩ := h.tb
  exact ⟨h.turned.trans ht, hc, cellT ht h.t0 (by omega), cellT ht h.t1 (by omega), frozenT ht h.f0 (by omega) (by omega), frozenT ht h.f1 (by omega) (by omega), cellT ht h.r0 (by omega), cellT ht h.r1 (by omega), frozenT ht h.g0 (by omega) (by omega), frozenT ht h.g1 (by omega) (by omega), ⟨cs, heapT ht htb (by omega)⟩, h.hn, ownsT h.row ht (by omega), h.pok, h.p1, h.p2, h.hm, ownsT h.nrow ht (by omega), h.nok⟩
theorem TD.ext (h : TD w g wr A n c ps B m d ns) {u : World} (e : Ext wr u) : TD w g u A n c ps B m d ns := by
  have hl := h.le
  obtain ⟨cs, htb⟩ := h.tb
  exact ⟨h.turned.ext e, h.cur.ext e, e.cell h.t0, e.cell h.t1, (e.frozenEq (lt_of_cell h.t0)).trans h.f0, (e.frozenEq (lt_of_cell h.t1)).trans h.f1, e.cell h.r0, e.cell h.r1, (e.frozenEq (lt_of_cell h.r0)).trans h.g0, (e.frozenEq (lt_of_cell h.r1)).trans h.g1, ⟨cs, heapE e htb⟩, h.hn, owns_ext h.row e, h.pok, h.p1, h.p2, h.hm, owns_ext h.nrow e, h.nok⟩
theorem TD.side (h : TD w g wr A n c ps B m d ns) (hg : g < w.heap.size) {w' : World} {base n0 : Nat} {v : Value} {L : List Value} {A' : Option Addr} {n' c' : Nat} {L' : List Value} (hv : wr.ownsRow base 3 1 v n0 L) (ha : AppR wr w' base 3 1 v A' n' c' L') (hb : w.heap.size + 1 ≤ base) (hap : rowsApart (Value.slice A n c).ownBlock v.ownBlock) : TD w g w' A n c ps B m d ns := by
  have hl := h.le
  obtain ⟨cs, htb⟩ := h.tb
  have hT := block_ne hv h.tb (by decide)
  have hR : v.ownBlock ≠ some w.heap.size := block_low hv (by omega)
  have htu := ha.turned (lo := w.heap.size + 1) (fun q hq => Nat.le_trans hb (hv.lt q hq).1)
  exact ⟨turned_low h.turned htu (by omega), h.cur.keep htu (by omega), ha.cell h.t0 hT, ha.cell h.t1 hT, ha.frozen h.f0 (by omega) hT, ha.frozen h.f1 (by omega) hT, ha.cell h.r0 hR, ha.cell h.r1 hR, ha.frozen h.g0 (by omega) hR, ha.frozen h.g1 (by omega) hR, ⟨cs, (ha.kept _ (by omega) hT).trans htb⟩, h.hn, ha.other h.row hap, h.pok, h.p1, h.p2, h.hm, ha.other h.nrow (type_apart h.nrow hv (by decide)), h.nok⟩
theorem cells_set {w1 : World} {b : Nat} {cs : Array Value} {e : TypeId} (h : w1.heap[b]? = some (Obj.cells cs e)) (j : Nat) (u : Value) : ∃ cs', (w1.setCell ⟨b, j, none⟩ u).heap[b]? = some (Obj.cells cs' e) := by
  exact ⟨_, heap_setCell_same w1 b j cs e u h⟩
theorem ne_at {b o : Nat} {v : Value} (h : v.ownBlock ≠ some b) : ∀ q, v.ownBlock = some q → q ≠ (⟨b, o, none⟩ : Addr).block := fun q hq e => h (by rw [hq]; exact congrArg some e)
theorem TD.push (h : TD w g wr A n c ps B m d ns) (hg : g < w.heap.size) {w' : World} {s : Int} {A' : Option Addr} {c' : Nat} (ha : AppR wr w' (w.heap.size + 1) 3 1 (.slice A n c) A' (n + 1) c' (ps.flatMap encInt ++ encInt s)) (hs : In64 s) (hl1 : n + 1 ≤ 18) : TD w g (w'.setCell ⟨w.heap.size + 1 + 1, 0, none⟩ (.slice A' (n + 1) c')) A' (n + 1) c' (ps ++ [s]) B m d ns := by
  have hl := h.le
  obtain ⟨cs, htb⟩ := h.tb
  have hT := block_ne h.row h.tb (by decide)
  have hR : (Value.slice A n c).ownBlock ≠ some w.heap.size := block_low h.row (by omega)
  have htu := ha.turned (lo := w.heap.size + 1) (fun q hq => (h.row.lt q hq).1)
  have q0 := ha.cell h.t0 hT
  have q1 := ha.cell h.t1 hT
  have qf0 := ha.frozen h.f0 (by omega) hT
  have qf1 := ha.frozen h.f1 (by omega) hT
  have p0 := ha.cell h.r0 hR
  have p1 := ha.cell h.r1 hR
  have pf0 := ha.frozen h.g0 (by omega) hR
  have pf1 := ha.frozen h.g1 (by omega) hR
  have hb' : w'.heap[w.heap.size + 1 + 1]? = some (Obj.cells cs 38) := (ha.kept _ (by omega) hT).trans htb
  have hT' := block_ne ha.row ⟨cs, hb'⟩ (by decide)
  have hN' := ha.other h.nrow (type_apart h.nrow h.row (by decide))
  have hTN := block_ne hN' ⟨cs, hb'⟩ (by decide)
  have hlt := lt_of_cell q0
  refine ⟨turned_own (turned_low h.turned htu (by omega)) (by omega), (h.cur.keep htu (by omega)).put (by omega), by go_simp, by go_simp, by go_simp, by go_simp, by go_simp, by go_simp, by go_simp, by go_simp, cells_set hb' _ _, by rw [List.length_append, h.hn]; rfl, ?_, all_snoc h.pok hs, by omega, hl1, h.hm, owns_other hN' (ne_at hTN) _, h.nok⟩
  rw [List.flatMap_append]
  have := owns_other (p := ⟨w.heap.size + 1 + 1, 0, none⟩) ha.row (ne_at hT') (.slice A' (n + 1) c')
  simpa using this
theorem TD.pushN (h : TD w g wr A n c ps B m d ns) (hg : g < w.heap.size) {w' : World} {x : Node} {B' : Option Addr} {d' : Nat} (ha : AppR wr w' (w.heap.size + 1) 130 4 (.slice B m d) B' (m + 1) d' (ns.flatMap Node.enc ++ Node.enc x)) (hx : x.ok) : TD w g (w'.setCell ⟨w.heap.size + 1 + 1, 1, none⟩ (.slice B' (m + 1) d')) A n c ps B' (m + 1) d' (ns ++ [x]) := by
  have hl := h.le
  obtain ⟨cs, htb⟩ := h.tb
  have hT := block_ne h.nrow h.tb (by decide)
  have hR : (Value.slice B m d).ownBlock ≠ some w.heap.size := block_low h.nrow (by omega)
  have htu := ha.turned (lo := w.heap.size + 1) (fun q hq => (h.nrow.lt q hq).1)
  have q0 := ha.cell h.t0 hT
  have q1 := ha.cell h.t1 hT
  have qf0 := ha.frozen h.f0 (by omega) hT
  have qf1 := ha.frozen h.f1 (by omega) hT
  have p0 := ha.cell h.r0 hR
  have p1 := ha.cell h.r1 hR
  have pf0 := ha.frozen h.g0 (by omega) hR
  have pf1 := ha.frozen h.g1 (by omega) hR
  have hb' : w'.heap[w.heap.size + 1 + 1]? = some (Obj.cells cs 38) := (ha.kept _ (by omega) hT).trans htb
  have hT' := block_ne ha.row ⟨cs, hb'⟩ (by decide)
  have hP' := ha.other h.row (type_apart h.row h.nrow (by decide))
  have hTP := block_ne hP' ⟨cs, hb'⟩ (by decide)
  have hlt := lt_of_cell q0
  refine ⟨turned_own (turned_low h.turned htu (by omega)) (by omega), (h.cur.keep htu (by omega)).put (by omega), by go_simp, by go_simp, by go_simp, by go_simp, by go_simp, by go_simp, by go_simp, by go_simp, cells_set hb' _ _, h.hn, owns_other hP' (ne_at hTP) _, h.pok, h.p1, h.p2, by rw [List.length_append, h.hm]; rfl, ?_, all_snoc h.nok hx⟩
  rw [List.flatMap_append]
  have := owns_other (p := ⟨w.heap.size + 1 + 1, 1, none⟩) ha.row (ne_at hT') (.slice B' (m + 1) d')
  simpa using this
end
end Go.Proofs.YtgmlcohffdeplaaGreat
/-! DrawTopo2 -/
namespace Go.Proofs.YtgmlcohffdeplaaGreat
open Go.RowKit
set_option linter.unusedVariables false
def RetTopoD (w : World) (g : Nat) : Ending → World → Prop := fun e w' => ∃ (A : Option Addr) (c : Nat) (ps : List Int) (B : Option Addr) (d : Nat) (ns : List Node), e = .returned (.agg #[.slice A ps.length c, .slice B ns.length d]) ∧ w'.ownsRow (w.heap.size + 1) 3 1 (.slice A ps.length c) ps.length (ps.flatMap encInt) ∧ (∀ y ∈ ps, In64 y) ∧ w'.ownsRow (w.heap.size + 1) 130 4 (.slice B ns.length d) ns.length (ns.flatMap Node.enc) ∧ (∀ y ∈ ns, y.ok) ∧ 1 ≤ ps.length ∧ ps.length ≤ 18 ∧ ns.length ≤ 10 ∧ Turned g (g + 1) w w' ∧ Cur w' g
theorem TD.start {w : World} {g : Nat} (hc : Cur w g) : TD w g (((w.alloc (.cells #[.slice none 0 0, .slice none 0 0] 38)).alloc (.cells #[.int .i64 0] 3)).alloc (.cells #[.slice (some ⟨w.heap.size + 1, 0, none⟩) 1 1, .slice none 0 0] 38)) (some ⟨w.heap.size + 1, 0, none⟩) 1 1 [0] none 0 0 [] := by
  have hgw := hc.lt
  have e : Ext w (((w.alloc (.cells #[.slice none 0 0, .slice none 0 0] 38)).alloc (.cells #[.int .i64 0] 3)).alloc (.cells #[.slice (some ⟨w.heap.size + 1, 0, none⟩) 1 1, .slice none 0 0] 38)) := ((Ext.refl _).alloc _).alloc _ |>.alloc _
  have e1 : Ext (w.alloc (.cells #[.slice none 0 0, .slice none 0 0] 38)) (((w.alloc (.cells #[.slice none 0 0, .slice none 0 0] 38)).alloc (.cells #[.int .i64 0] 3)).alloc (.cells #[.slice (some ⟨w.heap.size + 1, 0, none⟩) 1 1, .slice none 0 0] 38)) := ((Ext.refl _).alloc _).alloc _
  have hr := World.ownsRow_lit (e := 3) (size := 1) (w.alloc (.cells #[.slice none 0 0, .slice none 0 0] 38)) #[.int .i64 0] 1 (Nat.le_refl _) (by unfold maxLen; omega) rfl
  refine ⟨e.turned _ _, hc.ext e, by go_simp, by go_simp, by go_simp, by go_simp, e1.cell (dcell_box w [.slice none 0 0, .slice none 0 0] 38 0 _ rfl), e1.cell (dcell_box w [.slice none 0 0, .slice none 0 0] 38 1 _ rfl), by go_simp, by go_simp, ⟨_, heap_box _ _ (by simp) _⟩, rfl, ?_, ?_, by omega, by omega, rfl, World.ownsRow_nil _ _ _ _, fun y hy => by cases hy⟩
  · have := owns_ext hr ((Ext.refl _).alloc (.cells #[.slice (some ⟨w.heap.size + 1, 0, none⟩) 1 1, .slice none 0 0] 38))
    simpa [encInt] using this
  · intro y hy
    rw [List.mem_singleton.1 hy]; unfold In64; omega
theorem TNode.info : (Tryz.prog.info? 130).map (fun i => (i.zero, i.size, i.bytes)) = some (some (.agg #[.int .i64 0, .int .i64 0, .int .i64 0, .int .i64 0]), 4, 32) := by kernel_rfl
theorem Node.one (x : Node) : ∀ u ∈ x.enc, u.oneCell' = true := by
  intro u hu
  simp [Node.enc] at hu
  rcases hu with rfl | rfl | rfl | rfl <;> rfl
theorem AppR.one {w w' : World} {base : Nat} {e : TypeId} {size : Nat} {v : Value} {A' : Option Addr} {n' c' : Nat} {L : List Value} {α : Type} {enc : α → List Value} {x : α} (h : AppR w w' base e size v A' n' c' (L ++ [x].flatMap enc)) : AppR w w' base e size v A' n' c' (L ++ enc x) := by
  have e1 : [x].flatMap enc = enc x := by simp
  rw [e1] at h; exact h
theorem wrap_in64 (n : Int) : In64 (IntKind.i64.wrap n) := by
  rw [IntKind.wrap_i64]; unfold In64; omega
set_option maxHeartbeats 8000000 in
set_option maxRecDepth 10000 in
theorem l02Draw_c (g : Nat) (w : World) (hc : Cur w g) : Calls Tryz.prog 109 #[.pointer (some ⟨g, 0, none⟩)] w (RetTopoD w g) := by
  obtain ⟨i0, hi, hI0, hI1, hI2⟩ := info_parts TInt.info
  obtain ⟨i1, hi1, hJ0, hJ1, hJ2⟩ := info_parts TNode.info
  have hgw := hc.lt
  have HB := Lib.hid (fun (n : Int) (hn : In64 n) (u : World) (hu : Cur u g) => l01Below_c g n u hu hn)
  have H9 : Hid (∀ n : Int, -1000000 ≤ n → n ≤ 1000000 → In64 n) := Lib.hid (fun n h1 h2 => by unfold In64; omega)
  have HD0 := Lib.hid (TD.start hc)
  clear hc
  go_enter Tryz.func109, Tryz.ntmps109
  go_wp2_with fail
  refine (HB.out 3 (H9.out _ (by omega) (by omega)) _ HD0.out.cur).mono ?_
  rintro e w1 ⟨v1, rfl, ⟨hv1a, hv1b⟩, ht1, hc1⟩
  have HD1 := Lib.hid (HD0.out.draw hgw ht1 hc1)
  obtain ⟨V, rfl⟩ := Int.eq_ofNat_of_zero_le hv1a
  have hV : V ≤ 2 := by omega
  clear ht1 hc1 hv1a hv1b
  go_wp2
  go_loopw [5, 6] (fun lv kv wr => ∃ (k : Nat) (A5 : Option Addr) (q c5 : Nat) (la : List Int) (A : Option Addr) (n c : Nat) (ps : List Int), k ≤ V ∧ kv = .int .i64 k ∧ lv = .slice A5 q c5 ∧ 1 ≤ q ∧ q ≤ 18 ∧ Hid (la.length = q) ∧ Hid (wr.ownsRow (w.heap.size + 1) 3 1 (.slice A5 q c5) q (la.flatMap encInt)) ∧ Hid (∀ y ∈ la, In64 y) ∧ Hid (rowsApart (Value.slice A n c).ownBlock (Value.slice A5 q c5).ownBlock) ∧ Hid (TD w g wr A n c ps none 0 0 [])) (fun _ kv _ => V - (intOf kv).toNat)
  case atStart =>
    have hr := World.ownsRow_lit (e := 3) (size := 1) w1 #[.int .i64 0] 1 (Nat.le_refl _) (by unfold maxLen; omega) rfl
    have hl1 := HD1.out.le
    exact ⟨0, _, 1, 1, [0], _, 1, 1, [0], by omega, rfl, rfl, by omega, by omega, Lib.hid rfl, Lib.hid (by have := owns_base hr (show w.heap.size + 1 ≤ w1.heap.size by omega); simpa [encInt] using this), Lib.hid (fun y hy => by rw [List.mem_singleton.1 hy]; unfold In64; omega), Lib.hid (rowsApart.new HD1.out.row (fun q hq => (hr.lt q hq).1)), Lib.hid (HD1.out.ext ((Ext.refl _).alloc _))⟩
  case round =>
    obtain ⟨k, A5, q, c5, la, A, n, c, ps, hk, rfl, rfl, hq1, hq18, HLA, HLR, HLO, HAP, HD⟩ := hrel
    by_cases hlt : k < V
    · go_wp2
      go_loopw [7, 26] (fun nv jv wj => ∃ (j : Nat) (A7 : Option Addr) (p c7 : Nat) (nx : List Int) (A : Option Addr) (n c : Nat) (ps : List Int), j ≤ q ∧ jv = .int .i64 j ∧ nv = .slice A7 p c7 ∧ p + 1 ≤ n ∧ Hid (nx.length = p) ∧ Hid (wj.ownsRow (w.heap.size + 1) 3 1 (.slice A7 p c7) p (nx.flatMap encInt)) ∧ Hid (∀ y ∈ nx, In64 y) ∧ Hid (wj.ownsRow (w.heap.size + 1) 3 1 (.slice A5 q c5) q (la.flatMap encInt)) ∧ Hid (rowsApart (Value.slice A n c).ownBlock (Value.slice A7 p c7).ownBlock) ∧ Hid (rowsApart (Value.slice A5 q c5).ownBlock (Value.slice A7 p c7).ownBlock) ∧ Hid (rowsApart (Value.slice A n c).ownBlock (Value.slice A5 q c5).ownBlock) ∧ Hid (TD w g wj A n c ps none 0 0 [])) (fun _ jv _ => q - (intOf jv).toNat)
      case atStart =>
        have hr := owns_empty wr 3 1
        have hle := HD.out.le
        have hp1 := HD.out.p1
        exact ⟨0, _, 0, 0, [], A, n, c, ps, by omega, rfl, rfl, by omega, Lib.hid rfl, Lib.hid (by simpa using owns_base hr (show w.heap.size + 1 ≤ wr.heap.size by omega)), Lib.hid (fun y hy => by cases hy), Lib.hid (owns_ext HLR.out ((Ext.refl _).alloc _)), Lib.hid (rowsApart.new HD.out.row (fun q hq => (hr.lt q hq).1)), Lib.hid (rowsApart.new HLR.out (fun q hq => (hr.lt q hq).1)), HAP, Lib.hid (HD.out.ext ((Ext.refl _).alloc _))⟩
      case round =>
        obtain ⟨j, A7, p, c7, nx, A, n, c, ps, hj, rfl, rfl, hpn, HNL, HNR, HNO, HLR, HAN, HLN, HAL, HD⟩ := hrel
        by_cases hjq : j < q
        · obtain ⟨bl, ol, s, cs, rfl, hbl, hx, _, hcl, rfl, hso⟩ := (show SlAt RInt 1 wr A5 q la by have h := HLR.out; rw [← HLA.out] at h ⊢; exact rowD_sl (enc := encInt) (ok := In64) (fun _ => rfl) h HLO.out).at_ hjq
          have e0 := hcl 0 _ rfl
          simp only [Nat.mul_one, Nat.add_zero] at e0
          have HSO := Lib.hid hso
          clear hcl hx hso
          go_wp2_with fail
          refine (HB.out 3 (H9.out _ (by omega) (by omega)) _ HD.out.cur).mono ?_
          rintro e w2 ⟨v2, rfl, ⟨hv2a, hv2b⟩, ht2, hc2⟩
          have HD2 := Lib.hid (HD.out.draw hgw ht2 hc2)
          have HNR2 := Lib.hid (ownsT HNR.out ht2 (by omega))
          have HLR2 := Lib.hid (ownsT HLR.out ht2 (by omega))
          clear ht2 hc2 e0
          go_wp2
          go_loopw [7, 10] (fun nv vv wj => ∃ (v : Int) (A7 : Option Addr) (p c7 : Nat) (nx : List Int) (A : Option Addr) (n c : Nat) (ps : List Int), 0 ≤ v ∧ v ≤ 3 ∧ vv = .int .i64 v ∧ nv = .slice A7 p c7 ∧ p + 1 ≤ n ∧ Hid (nx.length = p) ∧ Hid (wj.ownsRow (w.heap.size + 1) 3 1 (.slice A7 p c7) p (nx.flatMap encInt)) ∧ Hid (∀ y ∈ nx, In64 y) ∧ Hid (wj.ownsRow (w.heap.size + 1) 3 1 (.slice (some ⟨bl, ol, none⟩) q c5) q (la.flatMap encInt)) ∧ Hid (rowsApart (Value.slice A n c).ownBlock (Value.slice A7 p c7).ownBlock) ∧ Hid (rowsApart (Value.slice (some ⟨bl, ol, none⟩) q c5).ownBlock (Value.slice A7 p c7).ownBlock) ∧ Hid (rowsApart (Value.slice A n c).ownBlock (Value.slice (some ⟨bl, ol, none⟩) q c5).ownBlock) ∧ Hid (TD w g wj A n c ps none 0 0 [])) (fun _ vv _ => (intOf vv).toNat)
          case atStart => exact ⟨1 + v2, A7, p, c7, nx, A, n, c, ps, by omega, by omega, rfl, rfl, hpn, HNL, HNR2, HNO, HLR2, HAN, HLN, HAL, HD2⟩
          case round =>
            obtain ⟨v, A7, p, c7, nx, A, n, c, ps, hv0, hv3, rfl, rfl, hpn, HNL, HNR, HNO, HLR, HAN, HLN, HAL, HD⟩ := hrel
            have t0 := HD.out.t0
            have f0 := HD.out.f0
            have hl0 := HD.out.le
            have hn18 := HD.out.p2
            rcases (show (0 < v ∧ n < 18) ∨ ¬ 0 < v ∨ (0 < v ∧ ¬ n < 18) by omega) with ⟨h1, h2⟩ | h1 | ⟨h1, h2⟩
            · go_wp2_with (first | (at_builtin; (with_reducible refine wpList_append_r (enc := encInt) (ok := In64) (.tmp 44) (.tmp 46) _ (w.heap.size + 1) 3 i0 _ 1 8 (.slice A n c) n _ (some ⟨wr.heap.size, 0, none⟩) 1 1 [s] rfl rfl Tryz.underlying22 hi hI0 hI1 hI2 rfl (by omega) rfl (owns_ext HD.out.row ((Ext.refl _).alloc _)) rfl (sl_one_r wr s 3 rfl HSO.out) (fun _ => rfl) TInt.one (by unfold maxLen; omega) (by omega) (by simp; omega) ?_); intro A9 c9 w3 ha3; have x3 := ha3.cell (Ext.cell ((Ext.refl _).alloc _) t0) (block_ne (owns_ext HD.out.row ((Ext.refl _).alloc _)) (HD.out.ext ((Ext.refl _).alloc (.cells #[.int .i64 s] 3))).tb (by decide)); have z3 := ha3.frozen ((Ext.frozenEq ((Ext.refl _).alloc (.cells #[.int .i64 s] 3)) (lt_of_cell t0)).trans f0) (by simp; omega) (block_ne (owns_ext HD.out.row ((Ext.refl _).alloc _)) (HD.out.ext ((Ext.refl _).alloc (.cells #[.int .i64 s] 3))).tb (by decide)); have hl3 : w.heap.size + 1 + 1 < w3.heap.size := lt_of_cell x3; have HA3 := Lib.hid ha3; have HD3 := Lib.hid ((HD.out.ext ((Ext.refl _).alloc (.cells #[.int .i64 s] 3))).push hgw (by simpa using ha3) HSO.out (by omega)); have HTB := Lib.hid (HD.out.ext ((Ext.refl _).alloc (.cells #[.int .i64 s] 3))).tb; have HN3 := Lib.hid (owns_other (p := ⟨w.heap.size + 1 + 1, 0, none⟩) (HA3.out.other (owns_ext HNR.out ((Ext.refl _).alloc _)) HAN.out.symm) (ne_at (block_ne (owns_ext HNR.out ((Ext.refl _).alloc (.cells #[.int .i64 s] 3))) HTB.out (by decide))) (.slice A9 (n + 1) c9)); have HL3 := Lib.hid (owns_other (p := ⟨w.heap.size + 1 + 1, 0, none⟩) (HA3.out.other (owns_ext HLR.out ((Ext.refl _).alloc _)) HAL.out.symm) (ne_at (block_ne (owns_ext HLR.out ((Ext.refl _).alloc (.cells #[.int .i64 s] 3))) HTB.out (by decide))) (.slice A9 (n + 1) c9)); have HAN3 := Lib.hid (HA3.out.apart (owns_ext HNR.out ((Ext.refl _).alloc _)) HAN.out.symm).symm; have HAL3 := Lib.hid (HA3.out.apart (owns_ext HLR.out ((Ext.refl _).alloc _)) HAL.out.symm).symm; clear ha3 t0 f0) | (at_builtin; go_must (refine wpList_append_r (enc := encInt) (ok := In64) (.tmp 49) (.tmp 54) _ (w.heap.size + 1) 3 i0 _ 1 8 (.slice A7 p c7) p _ (some ⟨w3.heap.size, 0, none⟩) 1 1 [(n : Int)] rfl rfl Tryz.underlying22 hi hI0 hI1 hI2 rfl (by omega) rfl (owns_ext HN3.out ((Ext.refl _).alloc _)) rfl (by have h := sl_one_r (enc := encInt) (ok := In64) (w3.setCell ⟨w.heap.size + 1 + 1, 0, none⟩ (.slice A9 (n + 1) c9)) (n : Int) 3 rfl (in64_of (n := (n : Int)) (by omega) (by omega)); simpa [encInt] using h) (fun _ => rfl) TInt.one (by unfold maxLen; omega) (by omega) (by simp; omega) ?_); intro A5' c5' w5 ha5))
              have HD5 := Lib.hid ((HD3.out.ext ((Ext.refl _).alloc (.cells #[.int .i64 (n : Int)] 3))).side hgw (owns_ext HN3.out ((Ext.refl _).alloc _)) ha5 (Nat.le_refl _) HAN3.out)
              have HL5 := Lib.hid (ha5.other (owns_ext HL3.out ((Ext.refl _).alloc (.cells #[.int .i64 (n : Int)] 3))) HLN.out)
              have HAN5 := Lib.hid (ha5.apart (owns_ext HD3.out.row ((Ext.refl _).alloc (.cells #[.int .i64 (n : Int)] 3))) HAN3.out)
              have HLN5 := Lib.hid (ha5.apart (owns_ext HL3.out ((Ext.refl _).alloc (.cells #[.int .i64 (n : Int)] 3))) HLN.out)
              have HR5 := Lib.hid ha5.row
              have HIN := Lib.hid (all_snoc (ok := In64) HNO.out (in64_of (n := (n : Int)) (by omega) (by omega)))
              clear ha5
              go_wp2
              go_roundw
              case rel => exact ⟨v - 1, A5', p + 1, c5', nx ++ [(n : Int)], A9, n + 1, c9, ps ++ [s], by omega, by omega, by go_num, rfl, by omega, Lib.hid (by rw [List.length_append, HNL.out]; rfl), Lib.hid (by rw [List.flatMap_append]; simpa using HR5.out), HIN, HL5, HAN5, HLN5, HAL3, HD5⟩
              case measure => simp [intOf]; omega
            all_goals
              go_wp2
              go_roundw
              case rel => exact ⟨j + 1, A7, p, c7, nx, A, n, c, ps, by omega, by go_num, rfl, hpn, HNL, HNR, HNO, HLR, HAN, HLN, HAL, HD⟩
              case measure => simp [intOf]; omega
        · by_cases hp : 0 < p
          · have hn18 := HD.out.p2
            go_wp2
            go_roundw
            case rel => exact ⟨k + 1, A7, p, c7, nx, A, n, c, ps, by omega, by go_num, rfl, by omega, by omega, HNL, HNR, HNO, HAN, HD⟩
            case measure => simp [intOf]; omega
          · go_wp2
            go_roundw
            case rel => exact ⟨k + 1, A5, q, c5, la, A, n, c, ps, by omega, by go_num, rfl, hq1, hq18, HLA, HLR, HLO, HAL, HD⟩
            case measure => simp [intOf]; omega
    · clear HD0 HD1
      go_wp2_with fail
      refine (HB.out 10 (H9.out _ (by omega) (by omega)) _ HD.out.cur).mono ?_
      rintro e w2 ⟨v2, rfl, ⟨hv2a, hv2b⟩, ht2, hc2⟩
      have HD2 := Lib.hid (HD.out.draw hgw ht2 hc2)
      have HLR2 := Lib.hid (ownsT HLR.out ht2 (by omega))
      clear ht2 hc2
      go_wp2
      go_loopw [11] (fun nv wj => ∃ (v : Int) (B : Option Addr) (m d : Nat) (ns : List Node), 0 ≤ v ∧ v ≤ 10 ∧ nv = .int .i64 v ∧ m + v ≤ 10 ∧ Hid (wj.ownsRow (w.heap.size + 1) 3 1 (.slice A5 q c5) q (la.flatMap encInt)) ∧ Hid (TD w g wj A n c ps B m d ns)) (fun nv _ => (intOf nv).toNat)
      case atStart => exact ⟨1 + v2, none, 0, 0, [], by omega, by omega, rfl, by omega, HLR2, HD2⟩
      case round =>
        obtain ⟨v, B, m, d, ns, hv0, hv10, rfl, hmv, HLR, HD⟩ := hrel
        by_cases hv : 0 < v
        · go_wp2_with fail
          refine (HB.out q (H9.out _ (by omega) (by omega)) _ HD.out.cur).mono ?_
          rintro e w3 ⟨v3, rfl, ⟨hv3a, hv3b⟩, ht3, hc3⟩
          have HD3 := Lib.hid (HD.out.draw hgw ht3 hc3)
          have HLR3 := Lib.hid (ownsT HLR.out ht3 (by omega))
          clear ht3 hc3
          obtain ⟨j, rfl⟩ := Int.eq_ofNat_of_zero_le hv3a
          have hjq : j < q := by omega
          obtain ⟨bl, ol, s, cs, rfl, hbl, hx, _, hcl, rfl, hso⟩ := (show SlAt RInt 1 w3 A5 q la by have h := HLR3.out; rw [← HLA.out] at h ⊢; exact rowD_sl (enc := encInt) (ok := In64) (fun _ => rfl) h HLO.out).at_ hjq
          have e0 := hcl 0 _ rfl
          simp only [Nat.mul_one, Nat.add_zero] at e0
          have HSO := Lib.hid hso
          have t0 := HD3.out.t0
          have t1 := HD3.out.t1
          have hl3 := HD3.out.le
          have HKD := Lib.hid (l02Kids_c ps s A n c B m d w3 (by have h := HD3.out.row; have hn := HD3.out.hn; rw [← hn] at h ⊢; exact rowD_sl (enc := encInt) (ok := In64) (fun _ => rfl) h HD3.out.pok) (by have := HD3.out.p2; omega))
          clear hcl hx hso
          go_wp2_with fail
          refine HKD.out.mono ?_
          rintro e w4 ⟨A4, c4, rfl, ho4, hb4⟩
          have HD4 := Lib.hid (HD3.out.ext hb4)
          have HLR4 := Lib.hid (owns_ext HLR3.out hb4)
          clear t0 t1 hl3 ho4 hb4 HKD e0
          generalize (kidsL ps s).length = kl at *
          by_cases hkl : kl = 0
          · subst hkl
            go_wp2
            have x4 := HD4.out.t1
            have hl4 := HD4.out.le
            go_region_law (first | (go_simp; go_at_call 89; (with_reducible refine (HB.out 5 (H9.out _ (by omega) (by omega)) _ (HD4.out.ext (by repeat (first | exact Ext.refl _ | apply Ext.alloc | apply Ext.drew | apply Ext.drewN))).cur).mono ?_); rintro e w5 ⟨v5, rfl, ⟨hv5a, hv5b⟩, ht5, hc5⟩; have HD5 := Lib.hid ((HD4.out.ext (by repeat (first | exact Ext.refl _ | apply Ext.alloc | apply Ext.drew | apply Ext.drewN))).draw hgw ht5 hc5); have HLR5 := Lib.hid (ownsT (owns_ext HLR4.out (by repeat (first | exact Ext.refl _ | apply Ext.alloc | apply Ext.drew | apply Ext.drewN))) ht5 (by omega)); have x5 := HD5.out.t1; have hl5 := HD5.out.le; clear ht5 hc5) | (go_simp; go_at_call 89; (with_reducible refine (HB.out 9 (H9.out _ (by omega) (by omega)) _ (HD5.out.ext (by repeat (first | exact Ext.refl _ | apply Ext.alloc | apply Ext.drew | apply Ext.drewN))).cur).mono ?_); rintro e w6 ⟨v6, rfl, ⟨hv6a, hv6b⟩, ht6, hc6⟩; have HD6 := Lib.hid ((HD5.out.ext (by repeat (first | exact Ext.refl _ | apply Ext.alloc | apply Ext.drew | apply Ext.drewN))).draw hgw ht6 hc6); have HLR6 := Lib.hid (ownsT (owns_ext HLR5.out (by repeat (first | exact Ext.refl _ | apply Ext.alloc | apply Ext.drew | apply Ext.drewN))) ht6 (by omega)); have x6 := HD6.out.t1; have hl6 := HD6.out.le; clear ht6 hc6) | (go_simp; go_at_call 89; (with_reducible refine (HB.out 3 (H9.out _ (by omega) (by omega)) _ (HD6.out.ext (by repeat (first | exact Ext.refl _ | apply Ext.alloc | apply Ext.drew | apply Ext.drewN))).cur).mono ?_); rintro e w7 ⟨v7, rfl, ⟨hv7a, hv7b⟩, ht7, hc7⟩; have HD7 := Lib.hid ((HD6.out.ext (by repeat (first | exact Ext.refl _ | apply Ext.alloc | apply Ext.drew | apply Ext.drewN))).draw hgw ht7 hc7); have HLR7 := Lib.hid (ownsT (owns_ext HLR6.out (by repeat (first | exact Ext.refl _ | apply Ext.alloc | apply Ext.drew | apply Ext.drewN))) ht7 (by omega)); have x7 := HD7.out.t1; have hl7 := HD7.out.le; clear ht7 hc7) | (refine step_append_r (enc := Node.enc) (ok := Node.ok) (by rfl) _ _ _ (by rfl) (w.heap.size + 1) 130 i1 _ 4 32 Tryz.underlying36 hi1 hJ0 hJ1 hJ2 rfl (by omega) (.slice B m d) m _ _ 1 1 [⟨s, ⟨IntKind.i64.wrap (4 + v5), IntKind.i64.wrap (8 + v6), v7⟩⟩] (m + 1) rfl (by rfl) (by rfl) (owns_ext HD7.out.nrow ((Ext.refl _).alloc _)) (by exact sl_one_r w7 ⟨s, ⟨IntKind.i64.wrap (4 + v5), IntKind.i64.wrap (8 + v6), v7⟩⟩ 130 (Node.size _) (show Node.ok ⟨s, ⟨IntKind.i64.wrap (4 + v5), IntKind.i64.wrap (8 + v6), v7⟩⟩ from ⟨HSO.out, wrap_in64 _, wrap_in64 _, in64_of (n := v7) (by omega) (by omega)⟩)) Node.size Node.one (by unfold maxLen; omega) (by omega) (by simp; omega) ?_; intro B8 d8 w8 ha8; have HA8 := Lib.hid ha8; have HDP := Lib.hid ((HD7.out.ext ((Ext.refl _).alloc _)).pushN hgw ha8.one (show Node.ok ⟨s, ⟨IntKind.i64.wrap (4 + v5), IntKind.i64.wrap (8 + v6), v7⟩⟩ from ⟨HSO.out, wrap_in64 _, wrap_in64 _, in64_of (n := v7) (by omega) (by omega)⟩)); have HTB := Lib.hid ((HD7.out.ext ((Ext.refl w7).alloc (.cells (Node.enc ⟨s, ⟨IntKind.i64.wrap (4 + v5), IntKind.i64.wrap (8 + v6), v7⟩⟩).toArray 130))).tb); have hTn := block_ne (owns_ext HD7.out.nrow ((Ext.refl w7).alloc (.cells (Node.enc ⟨s, ⟨IntKind.i64.wrap (4 + v5), IntKind.i64.wrap (8 + v6), v7⟩⟩).toArray 130))) HTB.out (by decide); have x8 := ha8.cell (Ext.cell ((Ext.refl _).alloc _) x7) hTn; have z8 := ha8.frozen ((Ext.frozenEq ((Ext.refl w7).alloc (.cells (Node.enc ⟨s, ⟨IntKind.i64.wrap (4 + v5), IntKind.i64.wrap (8 + v6), v7⟩⟩).toArray 130)) (lt_of_cell x7)).trans HD7.out.f1) (by have := lt_of_cell x7; simp at this ⊢; omega) hTn; have hl8 : w.heap.size + 1 + 1 < w8.heap.size := lt_of_cell x8; have HLR8 := Lib.hid (owns_other (p := ⟨w.heap.size + 1 + 1, 1, none⟩) (ha8.other (owns_ext HLR7.out ((Ext.refl _).alloc _)) (type_apart HLR7.out HD7.out.nrow (by decide))) (ne_at (block_ne HLR7.out HD7.out.tb (by decide))) (.slice B8 (m + 1) d8)); clear ha8))
            all_goals
              clear x4 x5 x6 x7 x8 z8 hTn hl4 hl5 hl6 hl7 hl8
              go_wp2
              go_roundw
              case rel => exact ⟨v - 1, B8, m + 1, d8, _, by omega, by omega, by go_num, by omega, HLR8, HDP⟩
              case measure => simp [intOf]; omega
          · go_wp2
            go_roundw
            case rel => exact ⟨v - 1, B, m, d, ns, by omega, by omega, by go_num, by omega, HLR4, HD4⟩
            case measure => simp [intOf]; omega
        · have hv : v = 0 := by omega
          subst hv
          have t0 := HD.out.t0
          have t1 := HD.out.t1
          have r0 := HD.out.r0
          have r1 := HD.out.r1
          have g0 := HD.out.g0
          have g1 := HD.out.g1
          have hl0 := HD.out.le
          have hl1 : w.heap.size < wr.heap.size := by omega
          have hn := HD.out.hn
          have hm := HD.out.hm
          have HO1 := Lib.hid (show ((wr.setCell ⟨w.heap.size, 0, none⟩ (.slice A n c)).setCell ⟨w.heap.size, 1, none⟩ (.slice B m d)).ownsRow (w.heap.size + 1) 3 1 (.slice A n c) n (ps.flatMap encInt) from owns_other (owns_other HD.out.row (ne_at (block_low HD.out.row (by omega))) _) (ne_at (block_low HD.out.row (by omega))) _)
          have HO2 := Lib.hid (show ((wr.setCell ⟨w.heap.size, 0, none⟩ (.slice A n c)).setCell ⟨w.heap.size, 1, none⟩ (.slice B m d)).ownsRow (w.heap.size + 1) 130 4 (.slice B m d) m (ns.flatMap Node.enc) from owns_other (owns_other HD.out.nrow (ne_at (block_low HD.out.nrow (by omega))) _) (ne_at (block_low HD.out.nrow (by omega))) _)
          have HHN := Lib.hid hn
          have HHM := Lib.hid hm
          have HPP := Lib.hid (show 1 ≤ n ∧ n ≤ 18 from ⟨HD.out.p1, HD.out.p2⟩)
          clear hn hm
          go_wp2
          exact bodyPost_ret (v := .agg #[.slice A n c, .slice B m d]) (by simp [results, Tryz.results109, go_sem, *]) rfl ⟨A, c, ps, B, d, ns, by rw [HHN.out, HHM.out], by rw [HHN.out]; exact HO1.out, HD.out.pok, by rw [HHM.out]; exact HO2.out, HD.out.nok, by rw [HHN.out]; exact HPP.out.1, by rw [HHN.out]; exact HPP.out.2, by rw [HHM.out]; omega, turned_own (turned_own HD.out.turned (Nat.le_refl _)) (Nat.le_refl _), (HD.out.cur.put hgw).put hgw⟩
end Go.Proofs.YtgmlcohffdeplaaGreat
/-! DTopoA -/
namespace Go.Proofs.YtgmlcohffdeplaaGreat
open Go.RowKit
set_option linter.unusedVariables false
/-- A tree, right or not. -/
def RetTopoA (w : World) (g : Nat) : Ending → World → Prop := fun e w' => ∃ (A : Option Addr) (c : Nat) (ps : List Int) (B : Option Addr) (d : Nat) (ns : List Node), e = .returned (.agg #[.slice A ps.length c, .slice B ns.length d]) ∧ w'.ownsRow (w.heap.size + 1) 3 1 (.slice A ps.length c) ps.length (ps.flatMap encInt) ∧ (∀ y ∈ ps, In64 y) ∧ w'.ownsRow (w.heap.size + 1) 130 4 (.slice B ns.length d) ns.length (ns.flatMap Node.enc) ∧ (∀ y ∈ ns, y.ok) ∧ ps.length ≤ 19 ∧ ns.length ≤ 10 ∧ Turned g (g + 1) w w' ∧ Cur w' g
theorem topoA_ret {w u : World} {g : Nat} (hg : g < w.heap.size) {A : Option Addr} {c : Nat} {ps : List Int} {B : Option Addr} {d : Nat} {ns : List Node} (h1 : u.ownsRow (w.heap.size + 1) 3 1 (.slice A ps.length c) ps.length (ps.flatMap encInt)) (k1 : ∀ y ∈ ps, In64 y) (h2 : u.ownsRow (w.heap.size + 1) 130 4 (.slice B ns.length d) ns.length (ns.flatMap Node.enc)) (k2 : ∀ y ∈ ns, y.ok) (hp : ps.length ≤ 19) (hn : ns.length ≤ 10) (ht : Turned g (g + 1) w u) (hc : Cur u g) {a0 a1 v : Value} (hv : v = .agg #[.slice A ps.length c, .slice B ns.length d]) : RetTopoA w g (.returned v) ((u.setCell ⟨w.heap.size, 0, none⟩ a0).setCell ⟨w.heap.size, 1, none⟩ a1) :=
  ⟨A, c, ps, B, d, ns, by rw [hv], own_set (own_set h1 (Nat.lt_succ_self _)) (Nat.lt_succ_self _), k1, own_set (own_set h2 (Nat.lt_succ_self _)) (Nat.lt_succ_self _), k2, hp, hn, turned_own (turned_own ht (Nat.le_refl _)) (Nat.le_refl _), (hc.put hg).put hg⟩
set_option maxHeartbeats 8000000 in
set_option maxRecDepth 10000 in
theorem l02Any_c (g : Nat) (w : World) (hc : Cur w g) : Calls Tryz.prog 90 #[.pointer (some ⟨g, 0, none⟩)] w (RetTopoA w g) := by
  obtain ⟨i0, hi, hI0, hI1, hI2⟩ := info_parts TInt.info
  have hgw := hc.lt
  have HB := Lib.hid (fun (n : Int) (hn : In64 n) (u : World) (hu : Cur u g) => l01Below_c g n u hu hn)
  have HRW := Lib.hid (fun (u : World) (hu : Cur u g) => l01Raw_c g u hu)
  have HAY := Lib.hid (fun (u : World) (hu : Cur u g) => l01Any_c g u hu)
  have H9 : Hid (∀ n : Int, -1000000 ≤ n → n ≤ 1000000 → In64 n) := Lib.hid (fun n h1 h2 => by unfold In64; omega)
  have HDR := Lib.hid (l02Draw_c g _ (hc.ext ((Ext.refl w).alloc (.cells #[.slice none 0 0, .slice none 0 0] 38))))
  clear hc
  go_enter Tryz.func90, Tryz.ntmps90
  go_wp2_with fail
  refine HDR.out.mono ?_
  rintro e w1 ⟨A, c, ps, B, d, ns, rfl, ho1, hk1, ho2, hk2, hps1, hps, hns, ht1, hc1⟩
  have HT1 := Lib.hid ((Ext.turned ((Ext.refl w).alloc (.cells #[.slice none 0 0, .slice none 0 0] 38)) g (g + 1)).trans ht1)
  have HZ1 := Lib.hid (ownsT (owns_base (gbox w [.slice none 0 0, .slice none 0 0] 38 2 rfl) (show g + 1 ≤ w.heap.size by omega)) ht1 (Nat.le_refl _))
  have hs1 : w.heap.size + 1 ≤ w1.heap.size := by have := ht1.le; simp at this; omega
  have HO1 := Lib.hid (show w1.ownsRow (w.heap.size + 1) 3 1 (.slice A ps.length c) ps.length (ps.flatMap encInt) from owns_base ho1 (by simp))
  have HO2 := Lib.hid (show w1.ownsRow (w.heap.size + 1) 130 4 (.slice B ns.length d) ns.length (ns.flatMap Node.enc) from owns_base ho2 (by simp))
  have HK1 := Lib.hid hk1
  have HK2 := Lib.hid hk2
  have HC1 := Lib.hid (hc1.ext ((Ext.refl _).alloc (.cells #[.slice A ps.length c, .slice B ns.length d] 38)))
  clear ho1 ho2 hk1 hk2 ht1 hc1 HDR
  go_wp2_with fail
  refine (HB.out 14 (H9.out _ (by omega) (by omega)) _ HC1.out).mono ?_
  rintro e w2 ⟨v2, rfl, ⟨hv2a, hv2b⟩, ht2, hc2⟩
  have EX : Ext w1 (w1.alloc (.cells #[.slice A ps.length c, .slice B ns.length d] 38)) := (Ext.refl _).alloc _
  have HT2 := Lib.hid ((HT1.out.ext EX).trans ht2)
  have HC2 := Lib.hid hc2
  have HP2 := Lib.hid (ownsT (owns_ext HO1.out EX) ht2 (by omega))
  have HN2 := Lib.hid (ownsT (owns_ext HO2.out EX) ht2 (by omega))
  have HX2 := Lib.hid (ownsT (owns_base (gbox w1 [.slice A ps.length c, .slice B ns.length d] 38 2 rfl) (show g + 1 ≤ w1.heap.size by omega)) ht2 (Nat.le_refl _))
  have HZ2 := Lib.hid (ownsT (owns_ext HZ1.out EX) ht2 (Nat.le_refl _))
  obtain ⟨bx, hbx⟩ : ∃ bx, bx = w1.heap.size := ⟨_, rfl⟩
  rw [← hbx] at HX2 ⊢
  have hbw : w.heap.size + 1 ≤ bx := by omega
  have n1 : ¬ bx = w.heap.size := by omega
  have n2 : ¬ w.heap.size = bx := by omega
  obtain ⟨b, rfl, hb1, hb2⟩ := down_form HO1.out (by omega)
  have n3 : b < bx := by omega
  have n4 : ¬ b = bx := by omega
  have n5 : ¬ bx = b := by omega
  have n6 : ¬ b = w.heap.size := by omega
  have n7 : ¬ w.heap.size = b := by omega
  have hbg : g < bx := by omega
  clear ht2 hc2 EX HT1 HZ1 HO1 HO2 HC1 hbx hs1 hb2
  by_cases hk0 : v2 = 0
  · subst hk0
    obtain ⟨x0, x1, xf0, xf1, xl⟩ := gcells2 HX2.out
    go_upto_region 4 with fail
    go_region_held3 (fun u => u.cell? ⟨bx, 0, none⟩ = some (.slice (some ⟨b, 0, none⟩) ps.length c)) ((first | exact x4 | exact x3 | exact x0 | exact Ext.cell ((Ext.refl _).drew) x0 | (rw [World.cell?_setCell_other] <;> first | exact x4 | (intro e; injection e with e; omega)))) (first | (go_at_call 89; (with_reducible refine (HB.out ps.length (H9.out _ (by omega) (by omega)) _ (HC2.out.ext ((Ext.refl _).drew))).mono ?_); rintro e w3 ⟨v3, rfl, ⟨hv3a, hv3b⟩, ht3, hc3⟩; have HQ3 := Lib.hid ((Ext.turned (w := w2) ((Ext.refl _).drew) g (g + 1)).trans ht3); have HC3 := Lib.hid hc3; have x3 := cellT HQ3.out x0 (by omega); obtain ⟨j, rfl⟩ := Int.eq_ofNat_of_zero_le hv3a; have hj : j < ps.length := (by omega); clear ht3 hc3) | (go_at_call 93; (with_reducible refine (HRW.out _ HC3.out).mono ?_); rintro e w4 ⟨v4, rfl, hv4, ht4, hc4⟩; have HQ4 := Lib.hid (HQ3.out.trans ht4); have HC4 := Lib.hid hc4; have x4 := cellT HQ4.out x0 (by omega); have HV4 := Lib.hid hv4; have HP4 := Lib.hid (ownsT HP2.out HQ4.out (by omega)); obtain ⟨y0, hy0⟩ := owns_cell HP4.out (j := j) (by omega); have yf0 := HP4.out.frozenAt j; clear ht4 hc4 hv4))
    all_goals
      obtain ⟨xx, hxx⟩ : ∃ xx, ps[j]? = some xx := ⟨_, List.getElem?_eq_getElem hj⟩
      have HW := Lib.hid (show (w4.setCell ⟨b, j, none⟩ (.int .i64 v4)).ownsRow (w.heap.size + 1) 3 1 (.slice (some ⟨b, 0, none⟩) (ps.set j v4).length c) (ps.set j v4).length ((ps.set j v4).flatMap encInt) from by have h := owns_put (j := 0) (x' := v4) encInt_size (by omega) hxx (u := .int .i64 v4) rfl HP4.out; simpa using h)
      have HKK := Lib.hid (all_set (k := j) HK1.out HV4.out)
      have HNW := Lib.hid (show (w4.setCell ⟨b, j, none⟩ (.int .i64 v4)).ownsRow (w.heap.size + 1) 130 4 (.slice B ns.length d) ns.length (ns.flatMap Node.enc) from g_far (ownsT HN2.out HQ4.out (by omega)) (fun e => g_apart (ownsT HN2.out HQ4.out (show g + 1 ≤ w.heap.size + 1 by omega)) HP4.out (by decide) _ e rfl))
      have HTW := Lib.hid (turned_own (j := j) (u := .int .i64 v4) (HT2.out.trans HQ4.out) (show w.heap.size ≤ b by omega))
      have HCW := Lib.hid (HC4.out.put (j := j) (b := b) (u := .int .i64 v4) (by omega))
      obtain ⟨x5, x6, xf5, xf6, xl5⟩ := gcells2 (ownsT HX2.out HQ4.out (Nat.le_refl _))
      obtain ⟨z5, z6, zf5, zf6, zl5⟩ := gcells2 (ownsT HZ2.out HQ4.out (Nat.le_refl _))
      have hyl := lt_of_cell hy0
      clear x0 x1 xf0 xf1 x3 x4 hxx HP2 HN2 HX2 HZ2 HP4 HQ4 HQ3
      go_wp2
      exact bodyPost_ret (v := .agg #[.slice (some ⟨b, 0, none⟩) ps.length c, .slice B ns.length d]) (by simp [results, Tryz.results90, go_sem, *]) rfl (topoA_ret hgw (ps := ps.set j v4) (ns := ns) HW.out HKK.out HNW.out HK2.out (by rw [List.length_set]; omega) hns HTW.out HCW.out (by rw [List.length_set]))
  by_cases hk1 : v2 = 1
  · subst hk1
    obtain ⟨x0, x1, xf0, xf1, xl⟩ := gcells2 HX2.out
    by_cases hn0 : ns.length = 0
    · obtain ⟨z5, z6, zf5, zf6, zl5⟩ := gcells2 HZ2.out
      have hd0 : decide (0 < ns.length) = false := by rw [decide_eq_false_iff_not]; omega
      have hd1 : decide ((0 : Int) < (ns.length : Int)) = false := by rw [decide_eq_false_iff_not]; omega
      clear hn0
      go_wp2
      exact bodyPost_ret (v := .agg #[.slice (some ⟨b, 0, none⟩) ps.length c, .slice B ns.length d]) (by simp [results, Tryz.results90, go_sem, *]) rfl (topoA_ret hgw (ps := ps) (ns := ns) HP2.out HK1.out HN2.out HK2.out (by omega) hns HT2.out HC2.out (rfl))
    · have hd0 : decide (0 < ns.length) = true := by rw [decide_eq_true_iff]; omega
      have hd1 : decide ((0 : Int) < (ns.length : Int)) = true := by rw [decide_eq_true_iff]; omega
      have hn1 : 0 < ns.length := by omega
      clear hn0
      obtain ⟨bn, rfl, hbn1, hbn2⟩ := down_form HN2.out hn1
      have m1 : ¬ bn = bx := fun e => by subst e; exact g_apart HN2.out HX2.out (by decide) _ rfl rfl
      have m2 : ¬ bx = bn := fun e => m1 e.symm
      have m3 : ¬ bn = w.heap.size := by omega
      have m4 : ¬ w.heap.size = bn := by omega
      go_upto_region 6 with fail
      go_region_held3 (fun u => u.cell? ⟨bx, 1, none⟩ = some (.slice (some ⟨bn, 0, none⟩) ns.length d)) ((first | exact x4 | exact x1 | exact Ext.cell ((Ext.refl _).drew) x1 | (repeat (first | exact x4 | (rw [World.cell?_setCell_other] <;> try (intro e; injection e with e; omega)))))) ((go_at_call 93; (with_reducible refine (HRW.out _ (HC2.out.ext ((Ext.refl _).drew))).mono ?_); rintro e w4 ⟨v4, rfl, hv4, ht4, hc4⟩; have HQ4 := Lib.hid ((Ext.turned (w := w2) ((Ext.refl _).drew) g (g + 1)).trans ht4); have HC4 := Lib.hid hc4; have x4 := cellT HQ4.out x1 (by omega); have HV4 := Lib.hid hv4; have HN4 := Lib.hid (ownsT HN2.out HQ4.out (by omega)); obtain ⟨y0, hy0⟩ := owns_cell HN4.out (j := 0) (by omega); have yf0 := HN4.out.frozenAt 0; have hyl := lt_of_cell hy0; clear ht4 hc4 hv4))
      all_goals
        obtain ⟨xx, hxx⟩ : ∃ xx, ns[0]? = some xx := ⟨_, List.getElem?_eq_getElem hn1⟩
        have HW0 := Lib.hid (show (w4.setCell ⟨bn, 0, none⟩ (.int .i64 v4)).ownsRow (w.heap.size + 1) 130 4 (.slice (some ⟨bn, 0, none⟩) (ns.set 0 ⟨v4, xx.Cap⟩).length d) (ns.set 0 ⟨v4, xx.Cap⟩).length ((ns.set 0 ⟨v4, xx.Cap⟩).flatMap Node.enc) from by have h := owns_put (k := 0) (j := 0) (x' := ⟨v4, xx.Cap⟩) Node.size (by omega) hxx (u := .int .i64 v4) rfl HN4.out; simpa using h)
        have m5 : ¬ b = bn := fun e => by subst e; exact g_apart HP2.out HN2.out (by decide) _ rfl rfl
        have HPW := Lib.hid (g_far (g := bn) (p := 0) (u := .int .i64 v4) (ownsT HP2.out HQ4.out (by omega)) (fun e => m5 (Option.some.inj e)))
        have HTW := Lib.hid (turned_own (base := bn) (j := 0) (u := .int .i64 v4) (HT2.out.trans HQ4.out) (by omega))
        have HCW := Lib.hid (HC4.out.put (b := bn) (j := 0) (u := .int .i64 v4) (by omega))
        have HKW := Lib.hid (show ∀ y ∈ (ns.set 0 ⟨v4, xx.Cap⟩), y.ok from all_set (k := 0) HK2.out (show Node.ok ⟨v4, xx.Cap⟩ from ⟨HV4.out, (HK2.out xx (List.mem_of_getElem? hxx)).2⟩))
        have HLW := Lib.hid (show (ns.set 0 ⟨v4, xx.Cap⟩).length = ns.length by simp only [List.length_set])
        obtain ⟨x5, x6, xf5, xf6, xl5⟩ := gcells2 (ownsT HX2.out HQ4.out (Nat.le_refl _))
        obtain ⟨z5, z6, zf5, zf6, zl5⟩ := gcells2 (ownsT HZ2.out HQ4.out (Nat.le_refl _))
        clear x0 x1 xf0 xf1 x4 HP2 HN2 HX2 HZ2 HN4 HQ4
        go_wp2
        exact bodyPost_ret (v := .agg #[.slice (some ⟨b, 0, none⟩) ps.length c, .slice (some ⟨bn, 0, none⟩) ns.length d]) (by simp [results, Tryz.results90, go_sem, *]) rfl (topoA_ret hgw (ps := ps) (ns := (ns.set 0 ⟨v4, xx.Cap⟩)) HPW.out HK1.out HW0.out HKW.out (by omega) (by rw [HLW.out]; exact hns) HTW.out HCW.out (by rw [HLW.out]))
  by_cases hk2 : v2 = 2
  · subst hk2
    obtain ⟨x0, x1, xf0, xf1, xl⟩ := gcells2 HX2.out
    by_cases hn0 : ns.length = 0
    · obtain ⟨z5, z6, zf5, zf6, zl5⟩ := gcells2 HZ2.out
      have hd0 : decide (0 < ns.length) = false := by rw [decide_eq_false_iff_not]; omega
      have hd1 : decide ((0 : Int) < (ns.length : Int)) = false := by rw [decide_eq_false_iff_not]; omega
      clear hn0
      go_wp2
      exact bodyPost_ret (v := .agg #[.slice (some ⟨b, 0, none⟩) ps.length c, .slice B ns.length d]) (by simp [results, Tryz.results90, go_sem, *]) rfl (topoA_ret hgw (ps := ps) (ns := ns) HP2.out HK1.out HN2.out HK2.out (by omega) hns HT2.out HC2.out (rfl))
    · have hd0 : decide (0 < ns.length) = true := by rw [decide_eq_true_iff]; omega
      have hd1 : decide ((0 : Int) < (ns.length : Int)) = true := by rw [decide_eq_true_iff]; omega
      have hn1 : 0 < ns.length := by omega
      clear hn0
      obtain ⟨bn, rfl, hbn1, hbn2⟩ := down_form HN2.out hn1
      have m1 : ¬ bn = bx := fun e => by subst e; exact g_apart HN2.out HX2.out (by decide) _ rfl rfl
      have m2 : ¬ bx = bn := fun e => m1 e.symm
      have m3 : ¬ bn = w.heap.size := by omega
      have m4 : ¬ w.heap.size = bn := by omega
      go_upto_region 8 with fail
      go_region_held3 (fun u => u.cell? ⟨bx, 1, none⟩ = some (.slice (some ⟨bn, 0, none⟩) ns.length d)) ((first | exact x4 | exact x1 | exact Ext.cell ((Ext.refl _).drew) x1 | (repeat (first | exact x4 | (rw [World.cell?_setCell_other] <;> try (intro e; injection e with e; omega)))))) ((go_at_call 115; (with_reducible refine (HAY.out _ (HC2.out.ext ((Ext.refl _).drew))).mono ?_); rintro e w4 ⟨v4, rfl, hv4, ht4, hc4⟩; have HQ4 := Lib.hid ((Ext.turned (w := w2) ((Ext.refl _).drew) g (g + 1)).trans ht4); have HC4 := Lib.hid hc4; have x4 := cellT HQ4.out x1 (by omega); have HV4 := Lib.hid hv4; have HN4 := Lib.hid (ownsT HN2.out HQ4.out (by omega)); obtain ⟨y1, hy1⟩ := owns_cell HN4.out (j := 1) (by omega); obtain ⟨y2, hy2⟩ := owns_cell HN4.out (j := 2) (by omega); obtain ⟨y3, hy3⟩ := owns_cell HN4.out (j := 3) (by omega); have yf1 := HN4.out.frozenAt 1; have yf2 := HN4.out.frozenAt 2; have yf3 := HN4.out.frozenAt 3; have hyl := lt_of_cell hy1; clear ht4 hc4 hv4))
      all_goals
        obtain ⟨xx, hxx⟩ : ∃ xx, ns[0]? = some xx := ⟨_, List.getElem?_eq_getElem hn1⟩
        have HW0 := Lib.hid (show (w4.setCell ⟨bn, 1, none⟩ (.int .i64 v4.A)).ownsRow (w.heap.size + 1) 130 4 (.slice (some ⟨bn, 0, none⟩) (ns.set 0 ⟨xx.Leaf, ⟨v4.A, xx.Cap.B, xx.Cap.C⟩⟩).length d) (ns.set 0 ⟨xx.Leaf, ⟨v4.A, xx.Cap.B, xx.Cap.C⟩⟩).length ((ns.set 0 ⟨xx.Leaf, ⟨v4.A, xx.Cap.B, xx.Cap.C⟩⟩).flatMap Node.enc) from by have h := owns_put (k := 0) (j := 1) (x' := ⟨xx.Leaf, ⟨v4.A, xx.Cap.B, xx.Cap.C⟩⟩) Node.size (by omega) hxx (u := .int .i64 v4.A) rfl HN4.out; simpa using h)
        have hx0 : (ns.set 0 ⟨xx.Leaf, ⟨v4.A, xx.Cap.B, xx.Cap.C⟩⟩)[0]? = some ⟨xx.Leaf, ⟨v4.A, xx.Cap.B, xx.Cap.C⟩⟩ := by rw [List.getElem?_set_self (by first | omega | (simp only [List.length_set]; omega))]
        have HW1 := Lib.hid (show ((w4.setCell ⟨bn, 1, none⟩ (.int .i64 v4.A)).setCell ⟨bn, 2, none⟩ (.int .i64 v4.B)).ownsRow (w.heap.size + 1) 130 4 (.slice (some ⟨bn, 0, none⟩) ((ns.set 0 ⟨xx.Leaf, ⟨v4.A, xx.Cap.B, xx.Cap.C⟩⟩).set 0 ⟨xx.Leaf, ⟨v4.A, v4.B, xx.Cap.C⟩⟩).length d) ((ns.set 0 ⟨xx.Leaf, ⟨v4.A, xx.Cap.B, xx.Cap.C⟩⟩).set 0 ⟨xx.Leaf, ⟨v4.A, v4.B, xx.Cap.C⟩⟩).length (((ns.set 0 ⟨xx.Leaf, ⟨v4.A, xx.Cap.B, xx.Cap.C⟩⟩).set 0 ⟨xx.Leaf, ⟨v4.A, v4.B, xx.Cap.C⟩⟩).flatMap Node.enc) from by have h := owns_put (k := 0) (j := 2) (x' := ⟨xx.Leaf, ⟨v4.A, v4.B, xx.Cap.C⟩⟩) Node.size (by omega) hx0 (u := .int .i64 v4.B) rfl HW0.out; simpa using h)
        have hx1 : ((ns.set 0 ⟨xx.Leaf, ⟨v4.A, xx.Cap.B, xx.Cap.C⟩⟩).set 0 ⟨xx.Leaf, ⟨v4.A, v4.B, xx.Cap.C⟩⟩)[0]? = some ⟨xx.Leaf, ⟨v4.A, v4.B, xx.Cap.C⟩⟩ := by rw [List.getElem?_set_self (by first | omega | (simp only [List.length_set]; omega))]
        have HW2 := Lib.hid (show (((w4.setCell ⟨bn, 1, none⟩ (.int .i64 v4.A)).setCell ⟨bn, 2, none⟩ (.int .i64 v4.B)).setCell ⟨bn, 3, none⟩ (.int .i64 v4.C)).ownsRow (w.heap.size + 1) 130 4 (.slice (some ⟨bn, 0, none⟩) (((ns.set 0 ⟨xx.Leaf, ⟨v4.A, xx.Cap.B, xx.Cap.C⟩⟩).set 0 ⟨xx.Leaf, ⟨v4.A, v4.B, xx.Cap.C⟩⟩).set 0 ⟨xx.Leaf, ⟨v4.A, v4.B, v4.C⟩⟩).length d) (((ns.set 0 ⟨xx.Leaf, ⟨v4.A, xx.Cap.B, xx.Cap.C⟩⟩).set 0 ⟨xx.Leaf, ⟨v4.A, v4.B, xx.Cap.C⟩⟩).set 0 ⟨xx.Leaf, ⟨v4.A, v4.B, v4.C⟩⟩).length ((((ns.set 0 ⟨xx.Leaf, ⟨v4.A, xx.Cap.B, xx.Cap.C⟩⟩).set 0 ⟨xx.Leaf, ⟨v4.A, v4.B, xx.Cap.C⟩⟩).set 0 ⟨xx.Leaf, ⟨v4.A, v4.B, v4.C⟩⟩).flatMap Node.enc) from by have h := owns_put (k := 0) (j := 3) (x' := ⟨xx.Leaf, ⟨v4.A, v4.B, v4.C⟩⟩) Node.size (by omega) hx1 (u := .int .i64 v4.C) rfl HW1.out; simpa using h)
        have m5 : ¬ b = bn := fun e => by subst e; exact g_apart HP2.out HN2.out (by decide) _ rfl rfl
        have HPW := Lib.hid (g_far (g := bn) (p := 3) (u := .int .i64 v4.C) (g_far (g := bn) (p := 2) (u := .int .i64 v4.B) (g_far (g := bn) (p := 1) (u := .int .i64 v4.A) (ownsT HP2.out HQ4.out (by omega)) (fun e => m5 (Option.some.inj e))) (fun e => m5 (Option.some.inj e))) (fun e => m5 (Option.some.inj e)))
        have HTW := Lib.hid (turned_own (base := bn) (j := 3) (u := .int .i64 v4.C) (turned_own (base := bn) (j := 2) (u := .int .i64 v4.B) (turned_own (base := bn) (j := 1) (u := .int .i64 v4.A) (HT2.out.trans HQ4.out) (by omega)) (by omega)) (by omega))
        have HCW := Lib.hid (((HC4.out.put (b := bn) (j := 1) (u := .int .i64 v4.A) (by omega)).put (b := bn) (j := 2) (u := .int .i64 v4.B) (by omega)).put (b := bn) (j := 3) (u := .int .i64 v4.C) (by omega))
        have HKW := Lib.hid (show ∀ y ∈ (((ns.set 0 ⟨xx.Leaf, ⟨v4.A, xx.Cap.B, xx.Cap.C⟩⟩).set 0 ⟨xx.Leaf, ⟨v4.A, v4.B, xx.Cap.C⟩⟩).set 0 ⟨xx.Leaf, ⟨v4.A, v4.B, v4.C⟩⟩), y.ok from by have hxo := HK2.out xx (List.mem_of_getElem? hxx); exact all_set (k := 0) (all_set (k := 0) (all_set (k := 0) HK2.out (show Node.ok ⟨xx.Leaf, ⟨v4.A, xx.Cap.B, xx.Cap.C⟩⟩ from ⟨hxo.1, HV4.out.1, hxo.2.2.1, hxo.2.2.2⟩)) (show Node.ok ⟨xx.Leaf, ⟨v4.A, v4.B, xx.Cap.C⟩⟩ from ⟨hxo.1, HV4.out.1, HV4.out.2.1, hxo.2.2.2⟩)) (show Node.ok ⟨xx.Leaf, ⟨v4.A, v4.B, v4.C⟩⟩ from ⟨hxo.1, HV4.out.1, HV4.out.2.1, HV4.out.2.2⟩))
        have HLW := Lib.hid (show (((ns.set 0 ⟨xx.Leaf, ⟨v4.A, xx.Cap.B, xx.Cap.C⟩⟩).set 0 ⟨xx.Leaf, ⟨v4.A, v4.B, xx.Cap.C⟩⟩).set 0 ⟨xx.Leaf, ⟨v4.A, v4.B, v4.C⟩⟩).length = ns.length by simp only [List.length_set])
        obtain ⟨x5, x6, xf5, xf6, xl5⟩ := gcells2 (ownsT HX2.out HQ4.out (Nat.le_refl _))
        obtain ⟨z5, z6, zf5, zf6, zl5⟩ := gcells2 (ownsT HZ2.out HQ4.out (Nat.le_refl _))
        clear x0 x1 xf0 xf1 x4 HP2 HN2 HX2 HZ2 HN4 HQ4
        go_wp2
        exact bodyPost_ret (v := .agg #[.slice (some ⟨b, 0, none⟩) ps.length c, .slice (some ⟨bn, 0, none⟩) ns.length d]) (by simp [results, Tryz.results90, go_sem, *]) rfl (topoA_ret hgw (ps := ps) (ns := (((ns.set 0 ⟨xx.Leaf, ⟨v4.A, xx.Cap.B, xx.Cap.C⟩⟩).set 0 ⟨xx.Leaf, ⟨v4.A, v4.B, xx.Cap.C⟩⟩).set 0 ⟨xx.Leaf, ⟨v4.A, v4.B, v4.C⟩⟩)) HPW.out HK1.out HW2.out HKW.out (by omega) (by rw [HLW.out]; exact hns) HTW.out HCW.out (by rw [HLW.out]))
  by_cases hk3 : v2 = 3
  · subst hk3
    obtain ⟨x0, x1, xf0, xf1, xl⟩ := gcells2 HX2.out
    go_upto_region 10 with fail
    go_region_law (first
      | (go_simp; go_at_call 89; (with_reducible refine (HB.out ps.length (H9.out _ (by omega) (by omega)) _ (HC2.out.ext ((Ext.refl _).drew))).mono ?_); rintro e w3 ⟨v3, rfl, ⟨hv3a, hv3b⟩, ht3, hc3⟩; have HQ3 := Lib.hid ((Ext.turned (w := w2) ((Ext.refl _).drew) g (g + 1)).trans ht3); have HC3 := Lib.hid hc3; have x3 := cellT HQ3.out x0 (by omega); have hx3 : bx < w3.heap.size := lt_of_cell x3; have HP3 := Lib.hid (ownsT HP2.out HQ3.out (by omega)); clear ht3 hc3)
      | (refine step_append_r (enc := encInt) (ok := In64) (by rfl) _ _ _ (by rfl) (w.heap.size + 1) 3 i0 _ 1 8 Tryz.underlying22 hi hI0 hI1 hI2 rfl (by omega) (.slice (some ⟨b, 0, none⟩) ps.length c) ps.length (ps.flatMap encInt) _ 1 1 [v3] (ps.length + 1) rfl (by rfl) (by rfl) (owns_ext HP3.out ((Ext.refl _).alloc _)) (by exact sl_one_r (enc := encInt) w3 v3 3 rfl ⟨by omega, by omega⟩) (fun _ => rfl) TInt.one (by unfold maxLen; omega) (by omega) (by simp; omega) ?_; intro A10 c10 w8 hr8; have HR8 := Lib.hid hr8; have HX8 := Lib.hid (hr8.other (owns_ext (ownsT HX2.out HQ3.out (Nat.le_refl _)) ((Ext.refl w3).alloc (.cells (encInt v3).toArray 3))) (g_apart (ownsT HX2.out HQ3.out (Nat.le_refl _)) HP3.out (by decide))); have x8 := (gcells2 HX8.out).1; have xf8 := HX8.out.frozenAt 0; have hl8 := (HX8.out.lt bx rfl).2; clear hr8))
    all_goals
      have HZ8 := Lib.hid (HR8.out.other (owns_ext (ownsT HZ2.out HQ3.out (Nat.le_refl _)) ((Ext.refl w3).alloc (.cells (encInt v3).toArray 3))) (g_apart (ownsT HZ2.out HQ3.out (Nat.le_refl _)) HP3.out (by decide)))
      have HN8 := Lib.hid (HR8.out.other (owns_ext (ownsT HN2.out HQ3.out (by omega)) ((Ext.refl w3).alloc (.cells (encInt v3).toArray 3))) (g_apart (ownsT HN2.out HQ3.out (show g + 1 ≤ w.heap.size + 1 by omega)) HP3.out (by decide)))
      have HT8 := Lib.hid (turned_low ((HT2.out.trans HQ3.out).ext ((Ext.refl w3).alloc (.cells (encInt v3).toArray 3))) (HR8.out.turned (lo := w.heap.size + 1) (fun q hq => (HP3.out.lt q hq).1)) (by omega))
      have HC8 := Lib.hid ((HC3.out.ext ((Ext.refl w3).alloc (.cells (encInt v3).toArray 3))).keep (HR8.out.turned (lo := w.heap.size + 1) (fun q hq => (HP3.out.lt q hq).1)) (by omega))
      have HP8 := Lib.hid (show w8.ownsRow (w.heap.size + 1) 3 1 (.slice A10 (ps ++ [v3]).length c10) (ps ++ [v3]).length ((ps ++ [v3]).flatMap encInt) from by rw [List.flatMap_append, List.length_append]; exact HR8.out.row)
      have HKW := Lib.hid (all_snoc HK1.out (show In64 v3 from ⟨by omega, by omega⟩))
      have HPW := Lib.hid (g_far (g := bx) (p := 0) (u := .slice A10 (ps.length + 1) c10) HP8.out (fun e => g_apart HP8.out HX8.out (by decide) _ e rfl))
      have HNW := Lib.hid (g_far (g := bx) (p := 0) (u := .slice A10 (ps.length + 1) c10) HN8.out (fun e => g_apart HN8.out HX8.out (by decide) _ e rfl))
      have HTW := Lib.hid (turned_own (base := bx) (j := 0) (u := .slice A10 (ps.length + 1) c10) HT8.out (by omega))
      have HCW := Lib.hid (HC8.out.put (b := bx) (j := 0) (u := .slice A10 (ps.length + 1) c10) hbg)
      obtain ⟨x5, x6, xf5, xf6, xl5⟩ := gcells2 HX8.out
      obtain ⟨z5, z6, zf5, zf6, zl5⟩ := gcells2 HZ8.out
      clear x0 x1 xf0 xf1 x3 HP2 HN2 HX2 HZ2 HP3 HQ3 HR8 HX8 HZ8 HN8 HT8 HC8 HP8 x8 xf8 hl8
      go_wp2
      exact bodyPost_ret (v := .agg #[.slice A10 (ps.length + 1) c10, .slice B ns.length d]) (by simp [results, Tryz.results90, go_sem, *]) rfl (topoA_ret hgw (ps := ps ++ [v3]) (ns := ns) HPW.out HKW.out HNW.out HK2.out (by rw [List.length_append]; simp; omega) hns HTW.out HCW.out (by rw [List.length_append]; rfl))
  by_cases hk4 : v2 = 4
  · subst hk4
    obtain ⟨x0, x1, xf0, xf1, xl⟩ := gcells2 HX2.out
    obtain ⟨z5, z6, zf5, zf6, zl5⟩ := gcells2 HZ2.out
    have HNW := Lib.hid (g_far (g := bx) (p := 0) (u := .slice none 0 0) HN2.out (fun e => g_apart HN2.out HX2.out (by decide) _ e rfl))
    have HTW := Lib.hid (turned_own (base := bx) (j := 0) (u := .slice none 0 0) HT2.out (by omega))
    have HCW := Lib.hid (HC2.out.put (b := bx) (j := 0) (u := .slice none 0 0) hbg)
    go_wp2
    exact bodyPost_ret (v := .agg #[.slice none 0 0, .slice B ns.length d]) (by simp [results, Tryz.results90, go_sem, *]) rfl (topoA_ret hgw (ps := ([] : List Int)) (ns := ns) (World.ownsRow_nil _ _ _ _) (fun y hy => by cases hy) HNW.out HK2.out (by simp) hns HTW.out HCW.out (rfl))
  · obtain ⟨x0, x1, xf0, xf1, xl⟩ := gcells2 HX2.out
    obtain ⟨z5, z6, zf5, zf6, zl5⟩ := gcells2 HZ2.out
    go_wp2
    exact bodyPost_ret (v := .agg #[.slice (some ⟨b, 0, none⟩) ps.length c, .slice B ns.length d]) (by simp [results, Tryz.results90, go_sem, *]) rfl (topoA_ret hgw (ps := ps) (ns := ns) HP2.out HK1.out HN2.out HK2.out (by omega) hns HT2.out HC2.out (rfl))
end Go.Proofs.YtgmlcohffdeplaaGreat
