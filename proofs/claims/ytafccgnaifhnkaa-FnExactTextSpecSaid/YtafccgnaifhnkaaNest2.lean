/- Structs that hold slices: how they read; the laws' own helpers over them. Written by gennest.py. -/
import Derived.Test.YtafccgnaifhnkaaHelp
import Derived.Test.YtafccgnaifhnkaaRead
import Derived.Test.YtafccgnaifhnkaaLaw
import Derived.Test.YtafccgnaifhnkaaNest
namespace Go.Proofs.Ytafccgnaifhnkaa
open Go.RowKit
set_option linter.unusedVariables false

def RWindow : Rel Window := fun w cs x => ∃ c0 c1 c2, cs = c0 ++ (c1 ++ (c2)) ∧ RInt w c0 x.From ∧ RInt w c1 x.To ∧ (RSl RInt 1) w c2 x.Nodes
theorem RWindow.mono : RWindow.Mono := fun _ _ _ _ hb ⟨c0, c1, c2, e, h0, h1, h2⟩ => ⟨c0, c1, c2, e, (Flat.mono _ _) _ _ _ _ hb h0, (Flat.mono _ _) _ _ _ _ hb h1, (RSl.mono (Flat.mono _ _)) _ _ _ _ hb h2⟩
theorem RWindow.open {w : World} {cs : Array Value} {x : Window} (h : RWindow w cs.toList x) : ∃ (ANodes : Option Addr) (cNodes : Nat), cs = #[.int .i64 x.From, .int .i64 x.To, .slice ANodes x.Nodes.length cNodes] ∧ In64 x.From ∧ In64 x.To ∧ SlAt RInt 1 w ANodes x.Nodes.length x.Nodes ∧ x.Nodes.length ≤ maxLen := by
  obtain ⟨p0, p1, p2, e, ⟨e0, hFrom⟩, ⟨e1, hTo⟩, ⟨ANodes, nNodes, cNodes, e2, hNodes, lNodes⟩⟩ := h
  obtain rfl := hNodes.len
  subst e0 e1 e2
  refine ⟨ANodes, cNodes, ?_, hFrom, hTo, hNodes, lNodes⟩
  cases cs; simp only [] at e; subst e; rfl
/-- A copy in new memory. -/
def RetNWindow (w : World) (x : Window) : Ending → World → Prop := fun e w' => ∃ (ANodes : Option Addr) (cNodes : Nat), e = .returned (.agg #[.int .i64 x.From, .int .i64 x.To, .slice ANodes x.Nodes.length cNodes]) ∧ OwnAt RInt 3 1 w' w.heap.size (.slice ANodes x.Nodes.length cNodes) x.Nodes ∧ Ext w w'
set_option maxHeartbeats 2000000 in
theorem toWindow_c (x : Window) (ANodes : Option Addr) (cNodes : Nat) (w : World) (hNodes : SlAt RInt 1 w ANodes x.Nodes.length x.Nodes) (hleNodes : x.Nodes.length ≤ 1048576) : Calls Try.prog 40 #[.agg #[.int .i64 x.From, .int .i64 x.To, .slice ANodes x.Nodes.length cNodes]] w (RetNWindow w x) := by
  go_enter Try.func40, Try.ntmps40
  go_wp2_with fail
  refine (toIntS_c x.Nodes ANodes _ cNodes _ (hNodes.ext (Flat.mono _ _) (by repeat (first | exact Ext.refl _ | assumption | apply Ext.alloc | (refine Ext.setCell ?_ (by first | (simp; done) | (simp; omega) | omega) _) | (refine Ext.trans ?_ (by assumption))))) hleNodes).mono ?_
  rintro e w1 ⟨BNodes, dNodes, rfl, hoNodes, hb1⟩
  have hoNodes := hoNodes.mono (base' := w.heap.size + 3) (by simp; try omega)
  obtain ⟨hcr1, hfr1, hz1⟩ := hb1.rules
  (try simp at hz1)
  have hy10 : w.heap.size < w1.heap.size := by omega
  have hy11 : w.heap.size + 1 < w1.heap.size := by omega
  have hy12 : w.heap.size + 1 + 1 < w1.heap.size := by omega
  go_wp2
  refine bodyPost_ret (v := .agg #[.int .i64 x.From, .int .i64 x.To, .slice BNodes x.Nodes.length dNodes]) (by simp [results, Try.results40, go_sem, *]) rfl ⟨BNodes, dNodes, rfl, ?_, (by repeat (first | exact Ext.refl _ | assumption | apply Ext.alloc | (refine Ext.setCell ?_ (by first | (simp; done) | (simp; omega) | omega) _) | (refine Ext.trans ?_ (by assumption))))⟩
  all_goals (refine OwnAt.mono (base := w.heap.size + 3) ?_ (by omega))
  all_goals (repeat (first | (with_reducible exact hoNodes) | (refine OwnAt.set ?_ (by simp) _) | (refine OwnAt.alloc ?_ (Flat.mono _ _) _) | (refine OwnAt.ext (Flat.mono _ _) ?_ (by assumption))))
set_option maxHeartbeats 2000000 in
theorem eqWindow_t (x : Window) (ANodes : Option Addr) (cNodes : Nat) (BNodes : Option Addr) (dNodes : Nat) (w : World) (hNodes : SlAt RInt 1 w ANodes x.Nodes.length x.Nodes) (gNodes : SlAt RInt 1 w BNodes x.Nodes.length x.Nodes) (hlNodes : x.Nodes.length ≤ maxLen) : Calls Try.prog 46 #[.agg #[.int .i64 x.From, .int .i64 x.To, .slice ANodes x.Nodes.length cNodes], .agg #[.int .i64 x.From, .int .i64 x.To, .slice BNodes x.Nodes.length dNodes]] w (Ret w (.bool true)) := by
  go_enter Try.func46, Try.ntmps46
  have cENodes := Lib.hid (fun (u : World) (e : Ext w u) => eqIntS_c x.Nodes x.Nodes ANodes BNodes _ cNodes _ dNodes u (hNodes.ext (Flat.mono _ _) e) (gNodes.ext (Flat.mono _ _) e) hlNodes)
  rw [show decide (x.Nodes = x.Nodes) = true from decide_eq_true rfl] at cENodes
  go_wp2_with fail
  refine (cENodes.out _ (by repeat (first | exact Ext.refl _ | assumption | apply Ext.alloc | (refine Ext.setCell ?_ (by first | (simp; done) | (simp; omega) | omega) _) | (refine Ext.trans ?_ (by assumption))))).mono ?_
  rintro e w1 ⟨rfl, hb1⟩
  obtain ⟨hcr1, hfr1, hz1⟩ := hb1.rules
  (try simp at hz1)
  have hy10 : w.heap.size < w1.heap.size := by omega
  have hy11 : w.heap.size + 1 < w1.heap.size := by omega
  go_wp2
  exact ret_bool rfl rfl rfl rfl (by repeat (first | exact Ext.refl _ | assumption | apply Ext.alloc | (refine Ext.setCell ?_ (by first | (simp; done) | (simp; omega) | omega) _) | (refine Ext.trans ?_ (by assumption))))
end Go.Proofs.Ytafccgnaifhnkaa
