/- Structs that hold slices: how they read; the laws' own helpers over them. Written by gennest.py. -/
import Derived.Test.YtafccgnaifhnkaaHelp
import Derived.Test.YtafccgnaifhnkaaRead
import Derived.Test.YtafccgnaifhnkaaLaw
import Derived.Test.YtafccgnaifhnkaaMarkT
namespace Go.Proofs.Ytafccgnaifhnkaa
open Go.RowKit
set_option linter.unusedVariables false

theorem turned_set (w : World) (p : Addr) (u : Value) : Turned p.block (p.block + 1) w (w.setCell p u) :=
  ⟨rfl, rfl, rfl, by simp [World.setCell], fun k _ hr => Below.heap_setCell _ _ _ _ (by omega)⟩
theorem OwnAt.set {α : Type} {enc : α → List Value} {ok : α → Prop} {e : TypeId} {sz base : Nat} {w : World} {v : Value} {xs : List α} (h : OwnAt (Flat enc ok) e sz w base v xs) {p : Addr} (hp : p.block < base) (u : Value) : OwnAt (Flat enc ok) e sz (w.setCell p u) base v xs := by
  have hb := h.block
  exact (OwnIn.keep ⟨h, fun k hk => (hb k hk).2, Nat.le_refl _⟩ (turned_set w p u) (.inr hp)).1
theorem OwnAt.alloc {α : Type} {R : Rel α} {e : TypeId} {sz base : Nat} {w : World} {v : Value} {xs : List α} (h : OwnAt R e sz w base v xs) (hm : R.Mono) (o : Obj) : OwnAt R e sz (w.alloc o) base v xs := h.ext hm ((Ext.refl w).alloc o)
theorem RSl.mono {α : Type} {R : Rel α} {sz : Nat} (hm : R.Mono) : (RSl R sz).Mono := fun _ _ _ _ hb ⟨A, n, c, e, h, hl⟩ => ⟨A, n, c, e, h.ext hm hb, hl⟩
theorem RBool.mono : (RBool).Mono := fun _ _ _ _ _ h => h

def RSpec : Rel Spec := fun w cs x => ∃ c0 c1, cs = c0 ++ (c1) ∧ (RSl RSpan 3) w c0 x.Spans ∧ RInt w c1 x.Most
theorem RSpec.mono : RSpec.Mono := fun _ _ _ _ hb ⟨c0, c1, e, h0, h1⟩ => ⟨c0, c1, e, (RSl.mono (Flat.mono _ _)) _ _ _ _ hb h0, (Flat.mono _ _) _ _ _ _ hb h1⟩
theorem RSpec.open {w : World} {cs : Array Value} {x : Spec} (h : RSpec w cs.toList x) : ∃ (ASpans : Option Addr) (cSpans : Nat), cs = #[.slice ASpans x.Spans.length cSpans, .int .i64 x.Most] ∧ SlAt RSpan 3 w ASpans x.Spans.length x.Spans ∧ x.Spans.length ≤ maxLen ∧ In64 x.Most := by
  obtain ⟨p0, p1, e, ⟨ASpans, nSpans, cSpans, e0, hSpans, lSpans⟩, ⟨e1, hMost⟩⟩ := h
  obtain rfl := hSpans.len
  subst e0 e1
  refine ⟨ASpans, cSpans, ?_, hSpans, lSpans, hMost⟩
  cases cs; simp only [] at e; subst e; rfl
set_option maxHeartbeats 2000000 in
theorem eqSpec_t (x : Spec) (ASpans : Option Addr) (cSpans : Nat) (BSpans : Option Addr) (dSpans : Nat) (w : World) (hSpans : SlAt RSpan 3 w ASpans x.Spans.length x.Spans) (gSpans : SlAt RSpan 3 w BSpans x.Spans.length x.Spans) (hlSpans : x.Spans.length ≤ maxLen) : Calls Try.prog 30 #[.agg #[.slice ASpans x.Spans.length cSpans, .int .i64 x.Most], .agg #[.slice BSpans x.Spans.length dSpans, .int .i64 x.Most]] w (Ret w (.bool true)) := by
  go_enter Try.func30, Try.ntmps30
  have cESpans := Lib.hid (fun (u : World) (e : Ext w u) => eqSpanS_c x.Spans x.Spans ASpans BSpans _ cSpans _ dSpans u (hSpans.ext (Flat.mono _ _) e) (gSpans.ext (Flat.mono _ _) e) hlSpans)
  rw [show decide (x.Spans = x.Spans) = true from decide_eq_true rfl] at cESpans
  go_wp2_with fail
  refine (cESpans.out _ (by repeat (first | exact Ext.refl _ | assumption | apply Ext.alloc | (refine Ext.setCell ?_ (by first | (simp; done) | (simp; omega) | omega) _) | (refine Ext.trans ?_ (by assumption))))).mono ?_
  rintro e w1 ⟨rfl, hb1⟩
  obtain ⟨hcr1, hfr1, hz1⟩ := hb1.rules
  (try simp at hz1)
  have hy10 : w.heap.size < w1.heap.size := by omega
  have hy11 : w.heap.size + 1 < w1.heap.size := by omega
  go_wp2
  exact ret_bool rfl rfl rfl rfl (by repeat (first | exact Ext.refl _ | assumption | apply Ext.alloc | (refine Ext.setCell ?_ (by first | (simp; done) | (simp; omega) | omega) _) | (refine Ext.trans ?_ (by assumption))))
theorem markSpec_c (x : Spec) (ASpans : Option Addr) (cSpans : Nat) (base : Nat) (L0 : List Value) (k : Int) (w : World) (hown : w.ownsRow base 90 3 (.slice ASpans x.Spans.length cSpans) x.Spans.length L0) (hn : x.Spans.length ≤ 1048576) (hk0 : 0 < k) (hk1 : k ≤ 1125899906842624) : Calls Try.prog 31 #[.agg #[.slice ASpans x.Spans.length cSpans, .int .i64 x.Most], .int .i64 k] w (Marked mkSpan 3 90 w base (.slice ASpans x.Spans.length cSpans) k x.Spans.length) := by
  have hc := Lib.hid (fun (u : World) (e : Ext w u) => markSpanS_c ASpans x.Spans.length cSpans base L0 k u (owns_ext hown e) hn hk0 hk1)
  go_enter Try.func31, Try.ntmps31
  go_wp2_with fail
  refine (hc.out _ (by repeat (first | exact Ext.refl _ | assumption | apply Ext.alloc | (refine Ext.setCell ?_ (by first | (simp; done) | (simp; omega) | omega) _) | (refine Ext.trans ?_ (by assumption))))).mono ?_
  rintro e w1 ⟨rfl, hm, hg⟩
  go_wp2
  exact bodyPost_ret (results_tmp rfl _ _ _) rfl ⟨rfl, hm, ⟨hg.os, hg.tape, hg.output, by have := hg.size; simp at this; omega, fun k hk hr => (hg.block k (by simp; omega) hr).trans ((((Ext.refl w).alloc _)).block k hk)⟩⟩
def RTopo : Rel Topo := fun w cs x => ∃ c0 c1, cs = c0 ++ (c1) ∧ (RSl RInt 1) w c0 x.Parents ∧ (RSl RNode 4) w c1 x.Nodes
theorem RTopo.mono : RTopo.Mono := fun _ _ _ _ hb ⟨c0, c1, e, h0, h1⟩ => ⟨c0, c1, e, (RSl.mono (Flat.mono _ _)) _ _ _ _ hb h0, (RSl.mono (Flat.mono _ _)) _ _ _ _ hb h1⟩
theorem RTopo.open {w : World} {cs : Array Value} {x : Topo} (h : RTopo w cs.toList x) : ∃ (AParents : Option Addr) (cParents : Nat) (ANodes : Option Addr) (cNodes : Nat), cs = #[.slice AParents x.Parents.length cParents, .slice ANodes x.Nodes.length cNodes] ∧ SlAt RInt 1 w AParents x.Parents.length x.Parents ∧ x.Parents.length ≤ maxLen ∧ SlAt RNode 4 w ANodes x.Nodes.length x.Nodes ∧ x.Nodes.length ≤ maxLen := by
  obtain ⟨p0, p1, e, ⟨AParents, nParents, cParents, e0, hParents, lParents⟩, ⟨ANodes, nNodes, cNodes, e1, hNodes, lNodes⟩⟩ := h
  obtain rfl := hParents.len
  obtain rfl := hNodes.len
  subst e0 e1
  refine ⟨AParents, cParents, ANodes, cNodes, ?_, hParents, lParents, hNodes, lNodes⟩
  cases cs; simp only [] at e; subst e; rfl
/-- A copy in new memory. -/
def RetNTopo (w : World) (x : Topo) : Ending → World → Prop := fun e w' => ∃ (AParents : Option Addr) (cParents : Nat) (ANodes : Option Addr) (cNodes : Nat), e = .returned (.agg #[.slice AParents x.Parents.length cParents, .slice ANodes x.Nodes.length cNodes]) ∧ OwnAt RInt 3 1 w' w.heap.size (.slice AParents x.Parents.length cParents) x.Parents ∧ OwnAt RNode 101 4 w' w.heap.size (.slice ANodes x.Nodes.length cNodes) x.Nodes ∧ Ext w w'
set_option maxHeartbeats 2000000 in
theorem toTopo_c (x : Topo) (AParents : Option Addr) (cParents : Nat) (ANodes : Option Addr) (cNodes : Nat) (w : World) (hParents : SlAt RInt 1 w AParents x.Parents.length x.Parents) (hNodes : SlAt RNode 4 w ANodes x.Nodes.length x.Nodes) (hleParents : x.Parents.length ≤ 1048576) (hleNodes : x.Nodes.length ≤ 1048576) : Calls Try.prog 12 #[.agg #[.slice AParents x.Parents.length cParents, .slice ANodes x.Nodes.length cNodes]] w (RetNTopo w x) := by
  go_enter Try.func12, Try.ntmps12
  go_wp2_with fail
  refine (toIntS_c x.Parents AParents _ cParents _ (hParents.ext (Flat.mono _ _) (by repeat (first | exact Ext.refl _ | assumption | apply Ext.alloc | (refine Ext.setCell ?_ (by first | (simp; done) | (simp; omega) | omega) _) | (refine Ext.trans ?_ (by assumption))))) hleParents).mono ?_
  rintro e w1 ⟨BParents, dParents, rfl, hoParents, hb1⟩
  have hoParents := hoParents.mono (base' := w.heap.size + 3) (by simp; try omega)
  obtain ⟨hcr1, hfr1, hz1⟩ := hb1.rules
  (try simp at hz1)
  have hy10 : w.heap.size < w1.heap.size := by omega
  have hy11 : w.heap.size + 1 < w1.heap.size := by omega
  have hy12 : w.heap.size + 1 + 1 < w1.heap.size := by omega
  go_wp2_with fail
  refine (toNodeS_c x.Nodes ANodes _ cNodes _ (hNodes.ext (Flat.mono _ _) (by repeat (first | exact Ext.refl _ | assumption | apply Ext.alloc | (refine Ext.setCell ?_ (by first | (simp; done) | (simp; omega) | omega) _) | (refine Ext.trans ?_ (by assumption))))) hleNodes).mono ?_
  rintro e w2 ⟨BNodes, dNodes, rfl, hoNodes, hb2⟩
  have hoNodes := hoNodes.mono (base' := w.heap.size + 3) (by simp; omega)
  obtain ⟨hcr2, hfr2, hz2⟩ := hb2.rules
  (try simp at hz2)
  have hy20 : w.heap.size < w2.heap.size := by omega
  have hy21 : w.heap.size + 1 < w2.heap.size := by omega
  have hy22 : w.heap.size + 1 + 1 < w2.heap.size := by omega
  go_wp2
  refine bodyPost_ret (v := .agg #[.slice BParents x.Parents.length dParents, .slice BNodes x.Nodes.length dNodes]) (by simp [results, Try.results12, go_sem, *]) rfl ⟨BParents, dParents, BNodes, dNodes, rfl, ?_, ?_, (by repeat (first | exact Ext.refl _ | assumption | apply Ext.alloc | (refine Ext.setCell ?_ (by first | (simp; done) | (simp; omega) | omega) _) | (refine Ext.trans ?_ (by assumption))))⟩
  all_goals (refine OwnAt.mono (base := w.heap.size + 3) ?_ (by omega))
  all_goals (repeat (first | (with_reducible exact hoParents) | (with_reducible exact hoNodes) | (refine OwnAt.set ?_ (by simp) _) | (refine OwnAt.alloc ?_ (Flat.mono _ _) _) | (refine OwnAt.ext (Flat.mono _ _) ?_ (by assumption))))
set_option maxHeartbeats 2000000 in
theorem eqTopo_t (x : Topo) (AParents : Option Addr) (cParents : Nat) (ANodes : Option Addr) (cNodes : Nat) (BParents : Option Addr) (dParents : Nat) (BNodes : Option Addr) (dNodes : Nat) (w : World) (hParents : SlAt RInt 1 w AParents x.Parents.length x.Parents) (hNodes : SlAt RNode 4 w ANodes x.Nodes.length x.Nodes) (gParents : SlAt RInt 1 w BParents x.Parents.length x.Parents) (gNodes : SlAt RNode 4 w BNodes x.Nodes.length x.Nodes) (hlParents : x.Parents.length ≤ maxLen) (hlNodes : x.Nodes.length ≤ maxLen) : Calls Try.prog 15 #[.agg #[.slice AParents x.Parents.length cParents, .slice ANodes x.Nodes.length cNodes], .agg #[.slice BParents x.Parents.length dParents, .slice BNodes x.Nodes.length dNodes]] w (Ret w (.bool true)) := by
  go_enter Try.func15, Try.ntmps15
  have cEParents := Lib.hid (fun (u : World) (e : Ext w u) => eqIntS_c x.Parents x.Parents AParents BParents _ cParents _ dParents u (hParents.ext (Flat.mono _ _) e) (gParents.ext (Flat.mono _ _) e) hlParents)
  rw [show decide (x.Parents = x.Parents) = true from decide_eq_true rfl] at cEParents
  go_wp2_with fail
  refine (cEParents.out _ (by repeat (first | exact Ext.refl _ | assumption | apply Ext.alloc | (refine Ext.setCell ?_ (by first | (simp; done) | (simp; omega) | omega) _) | (refine Ext.trans ?_ (by assumption))))).mono ?_
  rintro e w1 ⟨rfl, hb1⟩
  obtain ⟨hcr1, hfr1, hz1⟩ := hb1.rules
  (try simp at hz1)
  have hy10 : w.heap.size < w1.heap.size := by omega
  have hy11 : w.heap.size + 1 < w1.heap.size := by omega
  have cENodes := Lib.hid (fun (u : World) (e : Ext w u) => eqNodeS_c x.Nodes x.Nodes ANodes BNodes _ cNodes _ dNodes u (hNodes.ext (Flat.mono _ _) e) (gNodes.ext (Flat.mono _ _) e) hlNodes)
  rw [show decide (x.Nodes = x.Nodes) = true from decide_eq_true rfl] at cENodes
  go_wp2_with fail
  refine (cENodes.out _ (by repeat (first | exact Ext.refl _ | assumption | apply Ext.alloc | (refine Ext.setCell ?_ (by first | (simp; done) | (simp; omega) | omega) _) | (refine Ext.trans ?_ (by assumption))))).mono ?_
  rintro e w2 ⟨rfl, hb2⟩
  obtain ⟨hcr2, hfr2, hz2⟩ := hb2.rules
  (try simp at hz2)
  have hy20 : w.heap.size < w2.heap.size := by omega
  have hy21 : w.heap.size + 1 < w2.heap.size := by omega
  go_wp2
  exact ret_bool rfl rfl rfl rfl (by repeat (first | exact Ext.refl _ | assumption | apply Ext.alloc | (refine Ext.setCell ?_ (by first | (simp; done) | (simp; omega) | omega) _) | (refine Ext.trans ?_ (by assumption))))
end Go.Proofs.Ytafccgnaifhnkaa
