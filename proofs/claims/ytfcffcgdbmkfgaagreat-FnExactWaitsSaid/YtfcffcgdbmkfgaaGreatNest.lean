/- Structs that hold slices: how they read; the laws' own helpers over them. Written by gennest.py. -/
import Derived.Test.YtfcffcgdbmkfgaaGreatHelp
import Derived.Test.YtfcffcgdbmkfgaaGreatRead
import Derived.Test.YtfcffcgdbmkfgaaGreatLaw
import Derived.Test.YtfcffcgdbmkfgaaGreatMarkT
namespace Go.Proofs.YtfcffcgdbmkfgaaGreat
open Go.RowKit
set_option linter.unusedVariables false

theorem turned_set (w : World) (p : Addr) (u : Value) : Turned p.block (p.block + 1) w (w.setCell p u) :=
  ⟨rfl, rfl, rfl, by simp [World.setCell], fun k _ hr => Below.heap_setCell _ _ _ _ (by omega)⟩
theorem OwnAt.set {α : Type} {enc : α → List Value} {ok : α → Prop} {e : TypeId} {sz base : Nat} {w : World} {v : Value} {xs : List α} (h : OwnAt (Flat enc ok) e sz w base v xs) {p : Addr} (hp : p.block < base) (u : Value) : OwnAt (Flat enc ok) e sz (w.setCell p u) base v xs := by
  have hb := h.block
  exact (OwnIn.keep ⟨h, fun k hk => (hb k hk).2, Nat.le_refl _⟩ (turned_set w p u) (.inr hp)).1
theorem OwnAt.alloc {α : Type} {R : Rel α} {e : TypeId} {sz base : Nat} {w : World} {v : Value} {xs : List α} (h : OwnAt R e sz w base v xs) (hm : R.Mono) (o : Obj) : OwnAt R e sz (w.alloc o) base v xs := h.ext hm ((Ext.refl w).alloc o)
theorem RSl.mono {α : Type} {R : Rel α} {sz : Nat} (hm : R.Mono) : (RSl R sz).Mono := fun _ _ _ _ hb ⟨A, n, c, e, h, hl⟩ => ⟨A, n, c, e, h.ext hm hb, hl⟩
theorem RBool.mono : (RBool).Mono := fun _ _ _ _ _ h => h

def RTopo : Rel Topo := fun w cs x => ∃ c0 c1, cs = c0 ++ (c1) ∧ (RSl RInt 1) w c0 x.Parents ∧ (RSl RNode 4) w c1 x.Nodes
theorem RTopo.mono : RTopo.Mono := fun _ _ _ _ hb ⟨c0, c1, e, h0, h1⟩ => ⟨c0, c1, e, (RSl.mono (Flat.mono _ _)) _ _ _ _ hb h0, (RSl.mono (Flat.mono _ _)) _ _ _ _ hb h1⟩
theorem RTopo.open {w : World} {cs : Array Value} {x : Topo} (h : RTopo w cs.toList x) : ∃ (AParents : Option Addr) (cParents : Nat) (ANodes : Option Addr) (cNodes : Nat), cs = #[.slice AParents x.Parents.length cParents, .slice ANodes x.Nodes.length cNodes] ∧ SlAt RInt 1 w AParents x.Parents.length x.Parents ∧ x.Parents.length ≤ maxLen ∧ SlAt RNode 4 w ANodes x.Nodes.length x.Nodes ∧ x.Nodes.length ≤ maxLen := by
  obtain ⟨p0, p1, e, ⟨AParents, nParents, cParents, e0, hParents, lParents⟩, ⟨ANodes, nNodes, cNodes, e1, hNodes, lNodes⟩⟩ := h
  obtain rfl := hParents.len
  obtain rfl := hNodes.len
  subst e0 e1
  refine ⟨AParents, cParents, ANodes, cNodes, ?_, hParents, lParents, hNodes, lNodes⟩
  cases cs; simp only [] at e; subst e; rfl
/-- A copy in new memory. -/
def RetNTopo (w : World) (x : Topo) : Ending → World → Prop := fun e w' => ∃ (AParents : Option Addr) (cParents : Nat) (ANodes : Option Addr) (cNodes : Nat), e = .returned (.agg #[.slice AParents x.Parents.length cParents, .slice ANodes x.Nodes.length cNodes]) ∧ OwnAt RInt 3 1 w' w.heap.size (.slice AParents x.Parents.length cParents) x.Parents ∧ OwnAt RNode 84 4 w' w.heap.size (.slice ANodes x.Nodes.length cNodes) x.Nodes ∧ Ext w w'
set_option maxHeartbeats 2000000 in
theorem toTopo_c (x : Topo) (AParents : Option Addr) (cParents : Nat) (ANodes : Option Addr) (cNodes : Nat) (w : World) (hParents : SlAt RInt 1 w AParents x.Parents.length x.Parents) (hNodes : SlAt RNode 4 w ANodes x.Nodes.length x.Nodes) (hleParents : x.Parents.length ≤ 1048576) (hleNodes : x.Nodes.length ≤ 1048576) : Calls Tryz.prog 26 #[.agg #[.slice AParents x.Parents.length cParents, .slice ANodes x.Nodes.length cNodes]] w (RetNTopo w x) := by
  go_enter Tryz.func26, Tryz.ntmps26
  go_wp2_with fail
  refine (toIntS_c x.Parents AParents _ cParents _ (hParents.ext (Flat.mono _ _) (by repeat (first | exact Ext.refl _ | assumption | apply Ext.alloc | (refine Ext.setCell ?_ (by first | (simp; done) | (simp; omega) | omega) _) | (refine Ext.trans ?_ (by assumption))))) hleParents).mono ?_
  rintro e w1 ⟨BParents, dParents, rfl, hoParents, hb1⟩
  have hoParents := hoParents.mono (base' := w.heap.size + 3) (by simp; try omega)
  obtain ⟨hcr1, hfr1, hz1⟩ := hb1.rules
  (try simp at hz1)
  have hy10 : w.heap.size < w1.heap.size := by omega
  have hy11 : w.heap.size + 1 < w1.heap.size := by omega
  have hy12 : w.heap.size + 1 + 1 < w1.heap.size := by omega
  go_wp2_with fail
  refine (toNodeS_c x.Nodes ANodes _ cNodes _ (hNodes.ext (Flat.mono _ _) (by repeat (first | exact Ext.refl _ | assumption | apply Ext.alloc | (refine Ext.setCell ?_ (by first | (simp; done) | (simp; omega) | omega) _) | (refine Ext.trans ?_ (by assumption))))) hleNodes).mono ?_
  rintro e w2 ⟨BNodes, dNodes, rfl, hoNodes, hb2⟩
  have hoNodes := hoNodes.mono (base' := w.heap.size + 3) (by simp; omega)
  obtain ⟨hcr2, hfr2, hz2⟩ := hb2.rules
  (try simp at hz2)
  have hy20 : w.heap.size < w2.heap.size := by omega
  have hy21 : w.heap.size + 1 < w2.heap.size := by omega
  have hy22 : w.heap.size + 1 + 1 < w2.heap.size := by omega
  go_wp2
  refine bodyPost_ret (v := .agg #[.slice BParents x.Parents.length dParents, .slice BNodes x.Nodes.length dNodes]) (by simp [results, Tryz.results26, go_sem, *]) rfl ⟨BParents, dParents, BNodes, dNodes, rfl, ?_, ?_, (by repeat (first | exact Ext.refl _ | assumption | apply Ext.alloc | (refine Ext.setCell ?_ (by first | (simp; done) | (simp; omega) | omega) _) | (refine Ext.trans ?_ (by assumption))))⟩
  all_goals (refine OwnAt.mono (base := w.heap.size + 3) ?_ (by omega))
  all_goals (repeat (first | (with_reducible exact hoParents) | (with_reducible exact hoNodes) | (refine OwnAt.set ?_ (by simp) _) | (refine OwnAt.alloc ?_ (Flat.mono _ _) _) | (refine OwnAt.ext (Flat.mono _ _) ?_ (by assumption))))
set_option maxHeartbeats 2000000 in
theorem eqTopo_t (x : Topo) (AParents : Option Addr) (cParents : Nat) (ANodes : Option Addr) (cNodes : Nat) (BParents : Option Addr) (dParents : Nat) (BNodes : Option Addr) (dNodes : Nat) (w : World) (hParents : SlAt RInt 1 w AParents x.Parents.length x.Parents) (hNodes : SlAt RNode 4 w ANodes x.Nodes.length x.Nodes) (gParents : SlAt RInt 1 w BParents x.Parents.length x.Parents) (gNodes : SlAt RNode 4 w BNodes x.Nodes.length x.Nodes) (hlParents : x.Parents.length ≤ maxLen) (hlNodes : x.Nodes.length ≤ maxLen) : Calls Tryz.prog 33 #[.agg #[.slice AParents x.Parents.length cParents, .slice ANodes x.Nodes.length cNodes], .agg #[.slice BParents x.Parents.length dParents, .slice BNodes x.Nodes.length dNodes]] w (Ret w (.bool true)) := by
  go_enter Tryz.func33, Tryz.ntmps33
  have cEParents := Lib.hid (fun (u : World) (e : Ext w u) => eqIntS_c x.Parents x.Parents AParents BParents _ cParents _ dParents u (hParents.ext (Flat.mono _ _) e) (gParents.ext (Flat.mono _ _) e) hlParents)
  rw [show decide (x.Parents = x.Parents) = true from decide_eq_true rfl] at cEParents
  go_wp2_with fail
  refine (cEParents.out _ (by repeat (first | exact Ext.refl _ | assumption | apply Ext.alloc | (refine Ext.setCell ?_ (by first | (simp; done) | (simp; omega) | omega) _) | (refine Ext.trans ?_ (by assumption))))).mono ?_
  rintro e w1 ⟨rfl, hb1⟩
  obtain ⟨hcr1, hfr1, hz1⟩ := hb1.rules
  (try simp at hz1)
  have hy10 : w.heap.size < w1.heap.size := by omega
  have hy11 : w.heap.size + 1 < w1.heap.size := by omega
  have cENodes := Lib.hid (fun (u : World) (e : Ext w u) => eqNodeS_c x.Nodes x.Nodes ANodes BNodes _ cNodes _ dNodes u (hNodes.ext (Flat.mono _ _) e) (gNodes.ext (Flat.mono _ _) e) hlNodes)
  rw [show decide (x.Nodes = x.Nodes) = true from decide_eq_true rfl] at cENodes
  go_wp2_with fail
  refine (cENodes.out _ (by repeat (first | exact Ext.refl _ | assumption | apply Ext.alloc | (refine Ext.setCell ?_ (by first | (simp; done) | (simp; omega) | omega) _) | (refine Ext.trans ?_ (by assumption))))).mono ?_
  rintro e w2 ⟨rfl, hb2⟩
  obtain ⟨hcr2, hfr2, hz2⟩ := hb2.rules
  (try simp at hz2)
  have hy20 : w.heap.size < w2.heap.size := by omega
  have hy21 : w.heap.size + 1 < w2.heap.size := by omega
  go_wp2
  exact ret_bool rfl rfl rfl rfl (by repeat (first | exact Ext.refl _ | assumption | apply Ext.alloc | (refine Ext.setCell ?_ (by first | (simp; done) | (simp; omega) | omega) _) | (refine Ext.trans ?_ (by assumption))))
end Go.Proofs.YtfcffcgdbmkfgaaGreat
