/- The library's sort at dependencies: what it leaves in a row of the call's own. -/
import Derived.Test.YtgnbjnlcikpknaaAddLaw
import Derived.Test.YtgnbjnlcikpknaaShelf
import Derived.Sort.OwnSortedInts
namespace Go.Proofs.Ytgnbjnlcikpknaa
open Go.RowKit Go.Shelf Go.Sort
set_option linter.unusedVariables false
theorem heap_sortedV {w : World} {g n : Nat} {os : Array Obj} {cur : Array Value} {e : TypeId} {fr : Nat × Nat} (d : Array Value) (hb : w.heap[g]? = some (.cells cur e fr)) :
    (grow (putRow id (Sort.ahead w n) g 0 d) os).heap[g]? = some (.cells (putCells id 0 d cur) e fr) := by
  have hg : g < w.heap.size := (Array.getElem?_eq_some_iff.1 hb).1
  rw [heap_grow_old _ _ (by simpa using hg)]
  simp [putRow, mapBlock, Sort.ahead, Array.getElem?_modify, hb, onCells]
theorem grownBy_sortedV {w : World} {g n : Nat} {os : Array Obj} (d : Array Value) : w.grownBy (grow (putRow id (Sort.ahead w n) g 0 d) os) (some g) := by
  refine ⟨rfl, rfl, rfl, by simp, fun k hk hne => ?_⟩
  rw [heap_grow_old _ _ (by simpa using hk)]
  have : g ≠ k := fun e => hne (by rw [e])
  simp [putRow, mapBlock, Sort.ahead, Array.getElem?_modify, this]
theorem take_putCellsV (cur : Array Value) (ts : List Value) (h : ts.length ≤ cur.size) : (putCells id 0 ts.toArray cur).toList.take ts.length = ts := by
  apply List.ext_getElem?
  intro j
  by_cases hj : j < ts.length
  · rw [List.getElem?_take_of_lt hj, Array.getElem?_toList]
    simp [putCells, hj, show j < cur.size by omega]
  · rw [List.getElem?_take_eq_none (by omega), List.getElem?_eq_none (by omega)]
theorem ownsRow_sortedV {w : World} {base g cap n m sz : Nat} {e : TypeId} {os : Array Obj} {L L2 : List Value} (h : w.ownsRow base e sz (.slice (some ⟨g, 0, none⟩) m cap) m L) (hl : L2.length = m * sz) :
    (grow (putRow id (Sort.ahead w n) g 0 L2.toArray) os).ownsRow base e sz (.slice (some ⟨g, 0, none⟩) m cap) m L2 := by
  obtain ⟨h0, h1 | ⟨g', cap', cur, hv, hb, hh, hn, hc, hs, ht⟩⟩ := h
  · exact absurd h1.1 (by simp)
  · simp only [Value.slice.injEq, Option.some.injEq, Addr.mk.injEq, and_true, true_and] at hv
    obtain ⟨rfl, rfl⟩ := hv
    have : m * sz ≤ cap * sz := Nat.mul_le_mul_right _ hn
    exact ⟨hl, .inr ⟨g, cap, _, rfl, hb, heap_sortedV _ hh, hn, hc, by simp [putCells, hs], by rw [← hl]; exact take_putCellsV cur L2 (by omega)⟩⟩
theorem flatK_list {α : Type} [Inhabited α] {enc : α → List Value} {k : Nat} (hk : ∀ x, (enc x).length = k) (hk0 : 0 < k) (l : List α) : (flatK enc k l.toArray).toList = l.flatMap enc := by
  have hlen : ∀ l : List α, (l.flatMap enc).length = l.length * k := by
    intro l
    induction l with
    | nil => simp
    | cons a r ih => rw [List.flatMap_cons, List.length_append, hk, ih, List.length_cons, Nat.add_mul]; omega
  apply List.ext_getElem?
  intro t
  by_cases ht : t < l.length * k
  · have hq : t / k < l.length := by rw [Nat.div_lt_iff_lt_mul hk0]; exact ht
    have hx : l[t / k]? = some l[t / k] := List.getElem?_eq_getElem hq
    have hr : t % k < k := Nat.mod_lt _ hk0
    have e := flatMap_get (enc := enc) (j := t % k) hk hr hx
    rw [show t / k * k + t % k = t by rw [Nat.mul_comm]; exact Nat.div_add_mod t k] at e
    rw [e, Array.getElem?_toList, flatK]
    simp [ht, hq, List.getElem?_eq_getElem (show t % k < (enc l[t / k]).length by rw [hk]; exact hr)]
  · rw [List.getElem?_eq_none (by simp; omega), List.getElem?_eq_none (by rw [hlen]; omega)]
theorem holdsK_of_owns {α : Type} [Inhabited α] {enc : α → List Value} {k : Nat} (hk : ∀ x, (enc x).length = k) (hk0 : 0 < k) {w : World} {base g cap : Nat} {e : TypeId} {l : List α} (h : w.ownsRow base e k (.slice (some ⟨g, 0, none⟩) l.length cap) l.length (l.flatMap enc)) : HoldsK enc k w g 0 l.toArray := by
  intro j hj
  have hj' : j < l.length * k := by simpa using hj
  refine ⟨?_, by rw [Nat.zero_add]; exact h.frozenAt j⟩
  rw [Nat.zero_add, h.cellAt j hj']
  have e := flatK_list hk hk0 l
  rw [← e]
  simp [hj']
/-- A dependency whose two numbers are right. -/
structure DepS where
  val : Dep
  ok : depOkB val = true
instance : Inhabited DepS := ⟨⟨⟨1, 2⟩, rfl⟩⟩
def DepS.enc (d : DepS) : List Value := [.int .i64 d.val.Id, .int .i64 d.val.For]
theorem lt_cmp (x y : DepS) : ltOf (fun a b : DepS => cmpI a.val b.val) x y = depLtB x.val y.val := by
  show decide (cmpI x.val y.val < 0) = _; unfold cmpI depLtB; rw [decide_eq_decide]; split <;> omega
theorem swo_cmp : SWO (ltOf fun a b : DepS => cmpI a.val b.val) where
  irrefl x := by rw [lt_cmp]; unfold depLtB; rw [decide_eq_false_iff_not]; omega
  trans x y z h1 h2 := by rw [lt_cmp] at *; exact depLt_trans h1 h2
  ntrans x y z h1 h2 := by rw [lt_cmp] at *; exact depLt_ntrans h1 h2
theorem lift_deps {l : List Dep} (h : ∀ x ∈ l, depOkB x = true) : ∃ ls : List DepS, ls.map DepS.val = l := by
  induction l with
  | nil => exact ⟨[], rfl⟩
  | cons a r ih =>
    obtain ⟨ls, e⟩ := ih (fun x hx => h x (List.mem_cons_of_mem _ hx))
    exact ⟨⟨a, h a (List.mem_cons_self ..)⟩ :: ls, by rw [List.map_cons, e]⟩
theorem depS_flat (ls : List DepS) : ls.flatMap DepS.enc = (ls.map DepS.val).flatMap Dep.enc := by
  induction ls with
  | nil => rfl
  | cons a r ih => rw [List.flatMap_cons, ih]; rfl
theorem perm_sorted {ls : List DepS} {d' : Array DepS} {l : List Dep} {d : Dep} (hB : depsB l = true) (he : ls.map DepS.val = l ++ [d]) (hp : PermIn 0 ls.toArray.size ls.toArray d') (hs : SortedIn (ltOf fun a b : DepS => cmpI a.val b.val) 0 ls.toArray.size d') : d'.toList.map DepS.val = insD d l := by
  obtain ⟨p1, _, p3⟩ := hp
  have e1 : d'.extract 0 ls.toArray.size = d' := by rw [← p1]; exact Array.extract_size
  rw [e1, Array.extract_size] at p3
  refine sorted_ins hB ?_ ?_
  · rw [← he]; exact p3.map _
  · rw [List.pairwise_map, List.pairwise_iff_getElem]
    intro i j hi hj hij
    have h := hs i j (Nat.zero_le _) hij (by rw [← p1]; simpa using hj)
    rw [lt_cmp] at h
    simpa [show i < d'.size by simpa using hi, show j < d'.size by simpa using hj] using h
theorem cmp_lays (x y : DepS) (W : World) : Calls Try.prog 46 #[.agg #[.int .i64 x.val.Id, .int .i64 x.val.For], .agg #[.int .i64 y.val.Id, .int .i64 y.val.For]] W fun e w' => e = .returned (.int .i64 (cmpI x.val y.val)) ∧ ∃ q os', w' = grow (W.drewN q) os' := by
  obtain ⟨a, ha⟩ := x
  obtain ⟨b, hb⟩ := y
  unfold depOkB at ha hb
  simp only [decide_eq_true_eq] at ha hb
  obtain ⟨⟨a1, a2⟩, ⟨a3, a4⟩, _⟩ := ha
  obtain ⟨⟨b1, b2⟩, ⟨b3, b4⟩, _⟩ := hb
  by_cases h : a.Id = b.Id
  · have h1 : (a.Id != b.Id) = false := by simp [h]
    have H := Lib.hid (show cmpI a b = a.For - b.For by rw [cmpI, if_pos h])
    show Calls _ _ #[.agg #[.int .i64 a.Id, .int .i64 a.For], .agg #[.int .i64 b.Id, .int .i64 b.For]] W fun e w' => e = .returned (.int .i64 (cmpI a b)) ∧ ∃ q os', w' = grow (W.drewN q) os'
    rw [H.out]
    clear h H
    go_enter Try.func46, Try.ntmps46
    go_wp2
    go_ret
    exact ⟨rfl, 0, _, by rw [alloc_eq_grow, alloc_eq_grow, grow_grow]; rfl⟩
  · have h1 : (a.Id != b.Id) = true := by simp [h]
    have H := Lib.hid (show cmpI a b = a.Id - b.Id by rw [cmpI, if_neg h])
    show Calls _ _ #[.agg #[.int .i64 a.Id, .int .i64 a.For], .agg #[.int .i64 b.Id, .int .i64 b.For]] W fun e w' => e = .returned (.int .i64 (cmpI a b)) ∧ ∃ q os', w' = grow (W.drewN q) os'
    rw [H.out]
    clear h H
    go_enter Try.func46, Try.ntmps46
    go_wp2
    go_ret
    exact ⟨rfl, 0, _, by rw [alloc_eq_grow, alloc_eq_grow, grow_grow]; rfl⟩
theorem compare_run : ∀ args w, (callFunc 46 args).run Try.prog w = .ok (.enter 46 args) w := enters_of Try.func46 (by kernel_rfl) rfl
def RetSorted (w : World) (base g n c : Nat) (L : List Value) : Ending → World → Prop := fun e w' => e = .returned (.tuple #[]) ∧ w'.ownsRow base 31 2 (.slice (some ⟨g, 0, none⟩) n c) n L ∧ w.grownBy w' (some g)
theorem SortDeps_c (l : List Dep) (d : Dep) (hB : depsB l = true) (hd : depOkB d = true) (base g n c : Nat) (w : World) (hn : l.length + 1 = n) (h : w.ownsRow base 31 2 (.slice (some ⟨g, 0, none⟩) n c) n ((l ++ [d]).flatMap Dep.enc)) (hg : g < w.heap.size) : Calls Try.prog 45 #[.slice (some ⟨g, 0, none⟩) n c, .func (.func 46) #[] #[]] w (RetSorted w base g n c ((insD d l).flatMap Dep.enc)) := by
  subst hn
  obtain ⟨ls, e⟩ := lift_deps (l := l ++ [d]) (fun x hx => by
    rcases List.mem_append.1 hx with hx | hx
    · exact deps_all hB x hx
    · rw [List.mem_singleton.1 hx]; exact hd)
  have hlen : ls.length = l.length + 1 := by have := congrArg List.length e; simpa using this
  have hsz : ls.toArray.size = l.length + 1 := by simpa using hlen
  have hlen2 : (insD d l).length = l.length + 1 := insD_len d l
  rw [← e, ← depS_flat] at h
  have hb100 : l.length ≤ 100 := by unfold depsB at hB; rw [Bool.and_eq_true, decide_eq_true_iff] at hB; exact hB.2
  have hK : HoldsK DepS.enc 2 w g 0 ls.toArray := holdsK_of_owns (enc := DepS.enc) (fun _ => rfl) (by omega) (by rw [hlen]; exact h)
  have hcon := AnyQ.slices_SortFunc Try.sortDep 2 Try.isAgg31 Try.sizeOf31 DepS.enc (fun _ => rfl) (fun x v hv => by simp [DepS.enc] at hv; rcases hv with rfl | rfl <;> rfl) (fun a b : DepS => cmpI a.val b.val) swo_cmp 46 #[] g 0 c ls.toArray w compare_run (fun _ _ _ _ x y => cmp_lays x y _) hK hg (by rw [hsz]; omega)
  rw [hsz] at hcon
  refine Calls.mono hcon ?_
  rintro e' w' ⟨rfl, d', m, os, hp, hs, rfl⟩
  have hL := perm_sorted hB e (by rw [hsz]; exact hp) (by rw [hsz]; exact hs)
  have hfl : (flatK DepS.enc 2 d') = ((insD d l).flatMap Dep.enc).toArray := by
    have e1 := flatK_list (enc := DepS.enc) (k := 2) (fun _ => rfl) (by omega) d'.toList
    rw [depS_flat, hL] at e1
    rw [← e1]
  refine ⟨rfl, ?_, ?_⟩
  · unfold sortWorldK putRowK
    rw [hfl]
    exact ownsRow_sortedV h (by
      have : ∀ l : List Dep, (l.flatMap Dep.enc).length = l.length * 2 := by
        intro l
        induction l with
        | nil => rfl
        | cons a r ih => rw [List.flatMap_cons, List.length_append, ih, List.length_cons]; simp [Dep.enc]; omega
      rw [this, hlen2])
  · unfold sortWorldK putRowK
    exact grownBy_sortedV _
end Go.Proofs.Ytgnbjnlcikpknaa
