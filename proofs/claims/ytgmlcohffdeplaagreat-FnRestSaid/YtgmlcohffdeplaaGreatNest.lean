/- Structs that hold slices: how they read; the laws' own helpers over them. Written by gennest.py. -/
import Derived.Test.YtgmlcohffdeplaaGreatHelp
import Derived.Test.YtgmlcohffdeplaaGreatRead
import Derived.Test.YtgmlcohffdeplaaGreatLaw
import Derived.Test.YtgmlcohffdeplaaGreatMarkT
namespace Go.Proofs.YtgmlcohffdeplaaGreat
open Go.RowKit
set_option linter.unusedVariables false

theorem turned_set (w : World) (p : Addr) (u : Value) : Turned p.block (p.block + 1) w (w.setCell p u) :=
  ⟨rfl, rfl, rfl, by simp [World.setCell], fun k _ hr => Below.heap_setCell _ _ _ _ (by omega)⟩
theorem OwnAt.set {α : Type} {enc : α → List Value} {ok : α → Prop} {e : TypeId} {sz base : Nat} {w : World} {v : Value} {xs : List α} (h : OwnAt (Flat enc ok) e sz w base v xs) {p : Addr} (hp : p.block < base) (u : Value) : OwnAt (Flat enc ok) e sz (w.setCell p u) base v xs := by
  have hb := h.block
  exact (OwnIn.keep ⟨h, fun k hk => (hb k hk).2, Nat.le_refl _⟩ (turned_set w p u) (.inr hp)).1
theorem OwnAt.alloc {α : Type} {R : Rel α} {e : TypeId} {sz base : Nat} {w : World} {v : Value} {xs : List α} (h : OwnAt R e sz w base v xs) (hm : R.Mono) (o : Obj) : OwnAt R e sz (w.alloc o) base v xs := h.ext hm ((Ext.refl w).alloc o)
theorem RSl.mono {α : Type} {R : Rel α} {sz : Nat} (hm : R.Mono) : (RSl R sz).Mono := fun _ _ _ _ hb ⟨A, n, c, e, h, hl⟩ => ⟨A, n, c, e, h.ext hm hb, hl⟩
theorem RBool.mono : (RBool).Mono := fun _ _ _ _ _ h => h

def RProf : Rel Prof := fun w cs x => ∃ c0, cs = c0 ∧ (RSl RPt 4) w c0 x.Pts
theorem RProf.mono : RProf.Mono := fun _ _ _ _ hb ⟨c0, e, h0⟩ => ⟨c0, e, (RSl.mono (Flat.mono _ _)) _ _ _ _ hb h0⟩
theorem RProf.open {w : World} {cs : Array Value} {x : Prof} (h : RProf w cs.toList x) : ∃ (APts : Option Addr) (cPts : Nat), cs = #[.slice APts x.Pts.length cPts] ∧ SlAt RPt 4 w APts x.Pts.length x.Pts ∧ x.Pts.length ≤ maxLen := by
  obtain ⟨p0, e, ⟨APts, nPts, cPts, e0, hPts, lPts⟩⟩ := h
  obtain rfl := hPts.len
  subst e0
  refine ⟨APts, cPts, ?_, hPts, lPts⟩
  cases cs; simp only [] at e; subst e; rfl
/-- A copy in new memory. -/
def RetNProf (w : World) (x : Prof) : Ending → World → Prop := fun e w' => ∃ (APts : Option Addr) (cPts : Nat), e = .returned (.agg #[.slice APts x.Pts.length cPts]) ∧ OwnAt RPt 107 4 w' w.heap.size (.slice APts x.Pts.length cPts) x.Pts ∧ Ext w w'
set_option maxHeartbeats 2000000 in
theorem toProf_c (x : Prof) (APts : Option Addr) (cPts : Nat) (w : World) (hPts : SlAt RPt 4 w APts x.Pts.length x.Pts) (hlePts : x.Pts.length ≤ 1048576) : Calls Tryz.prog 32 #[.agg #[.slice APts x.Pts.length cPts]] w (RetNProf w x) := by
  go_enter Tryz.func32, Tryz.ntmps32
  go_wp2_with fail
  refine (toPtS_c x.Pts APts _ cPts _ (hPts.ext (Flat.mono _ _) (by repeat (first | exact Ext.refl _ | assumption | apply Ext.alloc | (refine Ext.setCell ?_ (by first | (simp; done) | (simp; omega) | omega) _) | (refine Ext.trans ?_ (by assumption))))) hlePts).mono ?_
  rintro e w1 ⟨BPts, dPts, rfl, hoPts, hb1⟩
  have hoPts := hoPts.mono (base' := w.heap.size + 3) (by simp; try omega)
  obtain ⟨hcr1, hfr1, hz1⟩ := hb1.rules
  (try simp at hz1)
  have hy10 : w.heap.size < w1.heap.size := by omega
  have hy11 : w.heap.size + 1 < w1.heap.size := by omega
  have hy12 : w.heap.size + 1 + 1 < w1.heap.size := by omega
  go_wp2
  refine bodyPost_ret (v := .agg #[.slice BPts x.Pts.length dPts]) (by simp [results, Tryz.results32, go_sem, *]) rfl ⟨BPts, dPts, rfl, ?_, (by repeat (first | exact Ext.refl _ | assumption | apply Ext.alloc | (refine Ext.setCell ?_ (by first | (simp; done) | (simp; omega) | omega) _) | (refine Ext.trans ?_ (by assumption))))⟩
  all_goals (refine OwnAt.mono (base := w.heap.size + 3) ?_ (by omega))
  all_goals (repeat (first | (with_reducible exact hoPts) | (refine OwnAt.set ?_ (by simp) _) | (refine OwnAt.alloc ?_ (Flat.mono _ _) _) | (refine OwnAt.ext (Flat.mono _ _) ?_ (by assumption))))
set_option maxHeartbeats 2000000 in
theorem eqProf_t (x : Prof) (APts : Option Addr) (cPts : Nat) (BPts : Option Addr) (dPts : Nat) (w : World) (hPts : SlAt RPt 4 w APts x.Pts.length x.Pts) (gPts : SlAt RPt 4 w BPts x.Pts.length x.Pts) (hlPts : x.Pts.length ≤ maxLen) : Calls Tryz.prog 41 #[.agg #[.slice APts x.Pts.length cPts], .agg #[.slice BPts x.Pts.length dPts]] w (Ret w (.bool true)) := by
  go_enter Tryz.func41, Tryz.ntmps41
  have cEPts := Lib.hid (fun (u : World) (e : Ext w u) => eqPtS_c x.Pts x.Pts APts BPts _ cPts _ dPts u (hPts.ext (Flat.mono _ _) e) (gPts.ext (Flat.mono _ _) e) hlPts)
  rw [show decide (x.Pts = x.Pts) = true from decide_eq_true rfl] at cEPts
  go_wp2_with fail
  refine (cEPts.out _ (by repeat (first | exact Ext.refl _ | assumption | apply Ext.alloc | (refine Ext.setCell ?_ (by first | (simp; done) | (simp; omega) | omega) _) | (refine Ext.trans ?_ (by assumption))))).mono ?_
  rintro e w1 ⟨rfl, hb1⟩
  obtain ⟨hcr1, hfr1, hz1⟩ := hb1.rules
  (try simp at hz1)
  have hy10 : w.heap.size < w1.heap.size := by omega
  have hy11 : w.heap.size + 1 < w1.heap.size := by omega
  go_wp2
  exact ret_bool rfl rfl rfl rfl (by repeat (first | exact Ext.refl _ | assumption | apply Ext.alloc | (refine Ext.setCell ?_ (by first | (simp; done) | (simp; omega) | omega) _) | (refine Ext.trans ?_ (by assumption))))
theorem szProf_c (x : Prof) (APts : Option Addr) (cPts : Nat) (left : Int) (w : World) (hl : x.Pts.length ≤ maxLen) (h1 : left ≤ 1048576) (h0 : 0 ≤ left) : Calls Tryz.prog 23 #[.agg #[.slice APts x.Pts.length cPts], .int .i64 left] w (Ret w (.int .i64 (szM x.Pts.length left))) := by
  have hc := Lib.hid (fun u : World => szPtS_c APts x.Pts.length cPts left u hl h1 h0)
  have hs := Lib.hid (show szM x.Pts.length left < 0 → szM x.Pts.length left = -1 by unfold szM; split <;> omega)
  generalize szM x.Pts.length left = z at *
  go_enter Tryz.func23, Tryz.ntmps23
  by_cases hz : z < 0
  · have HZ := Lib.hid (hs.out hz)
    go_wp2_with fail
    refine (hc.out _).mono ?_
    rintro e w1 ⟨rfl, hb1⟩
    go_wp2
    rw [HZ.out]
    exact ret_is (by simp [results, Tryz.results23, go_sem]) rfl (by repeat (first | exact Ext.refl _ | assumption | apply Ext.alloc | (refine Ext.setCell ?_ (by first | (simp; done) | (simp; omega) | omega) _) | (refine Ext.trans ?_ (by assumption))))
  · go_wp2_with fail
    refine (hc.out _).mono ?_
    rintro e w1 ⟨rfl, hb1⟩
    go_wp2
    exact ret_int rfl rfl rfl rfl (by repeat (first | exact Ext.refl _ | assumption | apply Ext.alloc | (refine Ext.setCell ?_ (by first | (simp; done) | (simp; omega) | omega) _) | (refine Ext.trans ?_ (by assumption))))
theorem markProf_c (x : Prof) (APts : Option Addr) (cPts : Nat) (base : Nat) (L0 : List Value) (k : Int) (w : World) (hown : w.ownsRow base 107 4 (.slice APts x.Pts.length cPts) x.Pts.length L0) (hn : x.Pts.length ≤ 1048576) (hk0 : 0 < k) (hk1 : k ≤ 1125899906842624) : Calls Tryz.prog 46 #[.agg #[.slice APts x.Pts.length cPts], .int .i64 k] w (Marked mkPt 4 107 w base (.slice APts x.Pts.length cPts) k x.Pts.length) := by
  have hc := Lib.hid (fun (u : World) (e : Ext w u) => markPtS_c APts x.Pts.length cPts base L0 k u (owns_ext hown e) hn hk0 hk1)
  go_enter Tryz.func46, Tryz.ntmps46
  go_wp2_with fail
  refine (hc.out _ (by repeat (first | exact Ext.refl _ | assumption | apply Ext.alloc | (refine Ext.setCell ?_ (by first | (simp; done) | (simp; omega) | omega) _) | (refine Ext.trans ?_ (by assumption))))).mono ?_
  rintro e w1 ⟨rfl, hm, hg⟩
  go_wp2
  exact bodyPost_ret (results_tmp rfl _ _ _) rfl ⟨rfl, hm, ⟨hg.os, hg.tape, hg.output, by have := hg.size; simp at this; omega, fun k hk hr => (hg.block k (by simp; omega) hr).trans ((((Ext.refl w).alloc _)).block k hk)⟩⟩
def RTopo : Rel Topo := fun w cs x => ∃ c0 c1, cs = c0 ++ (c1) ∧ (RSl RInt 1) w c0 x.Parents ∧ (RSl RNode 4) w c1 x.Nodes
theorem RTopo.mono : RTopo.Mono := fun _ _ _ _ hb ⟨c0, c1, e, h0, h1⟩ => ⟨c0, c1, e, (RSl.mono (Flat.mono _ _)) _ _ _ _ hb h0, (RSl.mono (Flat.mono _ _)) _ _ _ _ hb h1⟩
theorem RTopo.open {w : World} {cs : Array Value} {x : Topo} (h : RTopo w cs.toList x) : ∃ (AParents : Option Addr) (cParents : Nat) (ANodes : Option Addr) (cNodes : Nat), cs = #[.slice AParents x.Parents.length cParents, .slice ANodes x.Nodes.length cNodes] ∧ SlAt RInt 1 w AParents x.Parents.length x.Parents ∧ x.Parents.length ≤ maxLen ∧ SlAt RNode 4 w ANodes x.Nodes.length x.Nodes ∧ x.Nodes.length ≤ maxLen := by
  obtain ⟨p0, p1, e, ⟨AParents, nParents, cParents, e0, hParents, lParents⟩, ⟨ANodes, nNodes, cNodes, e1, hNodes, lNodes⟩⟩ := h
  obtain rfl := hParents.len
  obtain rfl := hNodes.len
  subst e0 e1
  refine ⟨AParents, cParents, ANodes, cNodes, ?_, hParents, lParents, hNodes, lNodes⟩
  cases cs; simp only [] at e; subst e; rfl
/-- A copy in new memory. -/
def RetNTopo (w : World) (x : Topo) : Ending → World → Prop := fun e w' => ∃ (AParents : Option Addr) (cParents : Nat) (ANodes : Option Addr) (cNodes : Nat), e = .returned (.agg #[.slice AParents x.Parents.length cParents, .slice ANodes x.Nodes.length cNodes]) ∧ OwnAt RInt 3 1 w' w.heap.size (.slice AParents x.Parents.length cParents) x.Parents ∧ OwnAt RNode 130 4 w' w.heap.size (.slice ANodes x.Nodes.length cNodes) x.Nodes ∧ Ext w w'
set_option maxHeartbeats 2000000 in
theorem toTopo_c (x : Topo) (AParents : Option Addr) (cParents : Nat) (ANodes : Option Addr) (cNodes : Nat) (w : World) (hParents : SlAt RInt 1 w AParents x.Parents.length x.Parents) (hNodes : SlAt RNode 4 w ANodes x.Nodes.length x.Nodes) (hleParents : x.Parents.length ≤ 1048576) (hleNodes : x.Nodes.length ≤ 1048576) : Calls Tryz.prog 29 #[.agg #[.slice AParents x.Parents.length cParents, .slice ANodes x.Nodes.length cNodes]] w (RetNTopo w x) := by
  go_enter Tryz.func29, Tryz.ntmps29
  go_wp2_with fail
  refine (toIntS_c x.Parents AParents _ cParents _ (hParents.ext (Flat.mono _ _) (by repeat (first | exact Ext.refl _ | assumption | apply Ext.alloc | (refine Ext.setCell ?_ (by first | (simp; done) | (simp; omega) | omega) _) | (refine Ext.trans ?_ (by assumption))))) hleParents).mono ?_
  rintro e w1 ⟨BParents, dParents, rfl, hoParents, hb1⟩
  have hoParents := hoParents.mono (base' := w.heap.size + 3) (by simp; try omega)
  obtain ⟨hcr1, hfr1, hz1⟩ := hb1.rules
  (try simp at hz1)
  have hy10 : w.heap.size < w1.heap.size := by omega
  have hy11 : w.heap.size + 1 < w1.heap.size := by omega
  have hy12 : w.heap.size + 1 + 1 < w1.heap.size := by omega
  go_wp2_with fail
  refine (toNodeS_c x.Nodes ANodes _ cNodes _ (hNodes.ext (Flat.mono _ _) (by repeat (first | exact Ext.refl _ | assumption | apply Ext.alloc | (refine Ext.setCell ?_ (by first | (simp; done) | (simp; omega) | omega) _) | (refine Ext.trans ?_ (by assumption))))) hleNodes).mono ?_
  rintro e w2 ⟨BNodes, dNodes, rfl, hoNodes, hb2⟩
  have hoNodes := hoNodes.mono (base' := w.heap.size + 3) (by simp; omega)
  obtain ⟨hcr2, hfr2, hz2⟩ := hb2.rules
  (try simp at hz2)
  have hy20 : w.heap.size < w2.heap.size := by omega
  have hy21 : w.heap.size + 1 < w2.heap.size := by omega
  have hy22 : w.heap.size + 1 + 1 < w2.heap.size := by omega
  go_wp2
  refine bodyPost_ret (v := .agg #[.slice BParents x.Parents.length dParents, .slice BNodes x.Nodes.length dNodes]) (by simp [results, Tryz.results29, go_sem, *]) rfl ⟨BParents, dParents, BNodes, dNodes, rfl, ?_, ?_, (by repeat (first | exact Ext.refl _ | assumption | apply Ext.alloc | (refine Ext.setCell ?_ (by first | (simp; done) | (simp; omega) | omega) _) | (refine Ext.trans ?_ (by assumption))))⟩
  all_goals (refine OwnAt.mono (base := w.heap.size + 3) ?_ (by omega))
  all_goals (repeat (first | (with_reducible exact hoParents) | (with_reducible exact hoNodes) | (refine OwnAt.set ?_ (by simp) _) | (refine OwnAt.alloc ?_ (Flat.mono _ _) _) | (refine OwnAt.ext (Flat.mono _ _) ?_ (by assumption))))
set_option maxHeartbeats 2000000 in
theorem eqTopo_t (x : Topo) (AParents : Option Addr) (cParents : Nat) (ANodes : Option Addr) (cNodes : Nat) (BParents : Option Addr) (dParents : Nat) (BNodes : Option Addr) (dNodes : Nat) (w : World) (hParents : SlAt RInt 1 w AParents x.Parents.length x.Parents) (hNodes : SlAt RNode 4 w ANodes x.Nodes.length x.Nodes) (gParents : SlAt RInt 1 w BParents x.Parents.length x.Parents) (gNodes : SlAt RNode 4 w BNodes x.Nodes.length x.Nodes) (hlParents : x.Parents.length ≤ maxLen) (hlNodes : x.Nodes.length ≤ maxLen) : Calls Tryz.prog 38 #[.agg #[.slice AParents x.Parents.length cParents, .slice ANodes x.Nodes.length cNodes], .agg #[.slice BParents x.Parents.length dParents, .slice BNodes x.Nodes.length dNodes]] w (Ret w (.bool true)) := by
  go_enter Tryz.func38, Tryz.ntmps38
  have cEParents := Lib.hid (fun (u : World) (e : Ext w u) => eqIntS_c x.Parents x.Parents AParents BParents _ cParents _ dParents u (hParents.ext (Flat.mono _ _) e) (gParents.ext (Flat.mono _ _) e) hlParents)
  rw [show decide (x.Parents = x.Parents) = true from decide_eq_true rfl] at cEParents
  go_wp2_with fail
  refine (cEParents.out _ (by repeat (first | exact Ext.refl _ | assumption | apply Ext.alloc | (refine Ext.setCell ?_ (by first | (simp; done) | (simp; omega) | omega) _) | (refine Ext.trans ?_ (by assumption))))).mono ?_
  rintro e w1 ⟨rfl, hb1⟩
  obtain ⟨hcr1, hfr1, hz1⟩ := hb1.rules
  (try simp at hz1)
  have hy10 : w.heap.size < w1.heap.size := by omega
  have hy11 : w.heap.size + 1 < w1.heap.size := by omega
  have cENodes := Lib.hid (fun (u : World) (e : Ext w u) => eqNodeS_c x.Nodes x.Nodes ANodes BNodes _ cNodes _ dNodes u (hNodes.ext (Flat.mono _ _) e) (gNodes.ext (Flat.mono _ _) e) hlNodes)
  rw [show decide (x.Nodes = x.Nodes) = true from decide_eq_true rfl] at cENodes
  go_wp2_with fail
  refine (cENodes.out _ (by repeat (first | exact Ext.refl _ | assumption | apply Ext.alloc | (refine Ext.setCell ?_ (by first | (simp; done) | (simp; omega) | omega) _) | (refine Ext.trans ?_ (by assumption))))).mono ?_
  rintro e w2 ⟨rfl, hb2⟩
  obtain ⟨hcr2, hfr2, hz2⟩ := hb2.rules
  (try simp at hz2)
  have hy20 : w.heap.size < w2.heap.size := by omega
  have hy21 : w.heap.size + 1 < w2.heap.size := by omega
  go_wp2
  exact ret_bool rfl rfl rfl rfl (by repeat (first | exact Ext.refl _ | assumption | apply Ext.alloc | (refine Ext.setCell ?_ (by first | (simp; done) | (simp; omega) | omega) _) | (refine Ext.trans ?_ (by assumption))))
end Go.Proofs.YtgmlcohffdeplaaGreat
