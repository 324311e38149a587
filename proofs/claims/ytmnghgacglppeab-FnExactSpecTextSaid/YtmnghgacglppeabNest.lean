/- Structs that hold slices: how they read; the laws' own helpers over them. Written by gennest.py. -/
import Derived.Test.YtmnghgacglppeabHelp
import Derived.Test.YtmnghgacglppeabRead
import Derived.Test.YtmnghgacglppeabLaw
import Derived.Test.YtmnghgacglppeabMarkT
namespace Go.Proofs.Ytmnghgacglppeab
open Go.RowKit
set_option linter.unusedVariables false

theorem turned_set (w : World) (p : Addr) (u : Value) : Turned p.block (p.block + 1) w (w.setCell p u) :=
  ⟨rfl, rfl, rfl, by simp [World.setCell], fun k _ hr => Below.heap_setCell _ _ _ _ (by omega)⟩
theorem OwnAt.set {α : Type} {enc : α → List Value} {ok : α → Prop} {e : TypeId} {sz base : Nat} {w : World} {v : Value} {xs : List α} (h : OwnAt (Flat enc ok) e sz w base v xs) {p : Addr} (hp : p.block < base) (u : Value) : OwnAt (Flat enc ok) e sz (w.setCell p u) base v xs := by
  have hb := h.block
  exact (OwnIn.keep ⟨h, fun k hk => (hb k hk).2, Nat.le_refl _⟩ (turned_set w p u) (.inr hp)).1
theorem OwnAt.alloc {α : Type} {R : Rel α} {e : TypeId} {sz base : Nat} {w : World} {v : Value} {xs : List α} (h : OwnAt R e sz w base v xs) (hm : R.Mono) (o : Obj) : OwnAt R e sz (w.alloc o) base v xs := h.ext hm ((Ext.refl w).alloc o)
theorem RSl.mono {α : Type} {R : Rel α} {sz : Nat} (hm : R.Mono) : (RSl R sz).Mono := fun _ _ _ _ hb ⟨A, n, c, e, h, hl⟩ => ⟨A, n, c, e, h.ext hm hb, hl⟩
theorem RBool.mono : (RBool).Mono := fun _ _ _ _ _ h => h

def RSpec : Rel Spec := fun w cs x => ∃ c0 c1, cs = c0 ++ (c1) ∧ (RSl RSpan 3) w c0 x.Spans ∧ RInt w c1 x.Most
theorem RSpec.mono : RSpec.Mono := fun _ _ _ _ hb ⟨c0, c1, e, h0, h1⟩ => ⟨c0, c1, e, (RSl.mono (Flat.mono _ _)) _ _ _ _ hb h0, (Flat.mono _ _) _ _ _ _ hb h1⟩
theorem RSpec.open {w : World} {cs : Array Value} {x : Spec} (h : RSpec w cs.toList x) : ∃ (ASpans : Option Addr) (cSpans : Nat), cs = #[.slice ASpans x.Spans.length cSpans, .int .i64 x.Most] ∧ SlAt RSpan 3 w ASpans x.Spans.length x.Spans ∧ x.Spans.length ≤ maxLen ∧ In64 x.Most := by
  obtain ⟨p0, p1, e, ⟨ASpans, nSpans, cSpans, e0, hSpans, lSpans⟩, ⟨e1, hMost⟩⟩ := h
  obtain rfl := hSpans.len
  subst e0 e1
  refine ⟨ASpans, cSpans, ?_, hSpans, lSpans, hMost⟩
  cases cs; simp only [] at e; subst e; rfl
/-- A copy in new memory. -/
def RetNSpec (w : World) (x : Spec) : Ending → World → Prop := fun e w' => ∃ (ASpans : Option Addr) (cSpans : Nat), e = .returned (.agg #[.slice ASpans x.Spans.length cSpans, .int .i64 x.Most]) ∧ OwnAt RSpan 61 3 w' w.heap.size (.slice ASpans x.Spans.length cSpans) x.Spans ∧ Ext w w'
set_option maxHeartbeats 2000000 in
theorem toSpec_c (x : Spec) (ASpans : Option Addr) (cSpans : Nat) (w : World) (hSpans : SlAt RSpan 3 w ASpans x.Spans.length x.Spans) (hleSpans : x.Spans.length ≤ 1048576) : Calls Try.prog 11 #[.agg #[.slice ASpans x.Spans.length cSpans, .int .i64 x.Most]] w (RetNSpec w x) := by
  go_enter Try.func11, Try.ntmps11
  go_wp2_with fail
  refine (toSpanS_c x.Spans ASpans _ cSpans _ (hSpans.ext (Flat.mono _ _) (by repeat (first | exact Ext.refl _ | assumption | apply Ext.alloc | (refine Ext.setCell ?_ (by first | (simp; done) | (simp; omega) | omega) _) | (refine Ext.trans ?_ (by assumption))))) hleSpans).mono ?_
  rintro e w1 ⟨BSpans, dSpans, rfl, hoSpans, hb1⟩
  have hoSpans := hoSpans.mono (base' := w.heap.size + 3) (by simp; try omega)
  obtain ⟨hcr1, hfr1, hz1⟩ := hb1.rules
  (try simp at hz1)
  have hy10 : w.heap.size < w1.heap.size := by omega
  have hy11 : w.heap.size + 1 < w1.heap.size := by omega
  have hy12 : w.heap.size + 1 + 1 < w1.heap.size := by omega
  go_wp2
  refine bodyPost_ret (v := .agg #[.slice BSpans x.Spans.length dSpans, .int .i64 x.Most]) (by simp [results, Try.results11, go_sem, *]) rfl ⟨BSpans, dSpans, rfl, ?_, (by repeat (first | exact Ext.refl _ | assumption | apply Ext.alloc | (refine Ext.setCell ?_ (by first | (simp; done) | (simp; omega) | omega) _) | (refine Ext.trans ?_ (by assumption))))⟩
  all_goals (refine OwnAt.mono (base := w.heap.size + 3) ?_ (by omega))
  all_goals (repeat (first | (refine OwnAt.set ?_ (by simp) _) | (refine OwnAt.ext ?_ (Flat.mono _ _) (by assumption)) | (refine OwnAt.alloc ?_ (Flat.mono _ _) _)))
  · exact hoSpans
set_option maxHeartbeats 2000000 in
theorem eqSpec_t (x : Spec) (ASpans : Option Addr) (cSpans : Nat) (BSpans : Option Addr) (dSpans : Nat) (w : World) (hSpans : SlAt RSpan 3 w ASpans x.Spans.length x.Spans) (gSpans : SlAt RSpan 3 w BSpans x.Spans.length x.Spans) (hlSpans : x.Spans.length ≤ maxLen) : Calls Try.prog 13 #[.agg #[.slice ASpans x.Spans.length cSpans, .int .i64 x.Most], .agg #[.slice BSpans x.Spans.length dSpans, .int .i64 x.Most]] w (Ret w (.bool true)) := by
  go_enter Try.func13, Try.ntmps13
  have cESpans := Lib.hid (fun (u : World) (e : Ext w u) => eqSpanS_c x.Spans x.Spans ASpans BSpans _ cSpans _ dSpans u (hSpans.ext (Flat.mono _ _) e) (gSpans.ext (Flat.mono _ _) e) hlSpans)
  rw [show decide (x.Spans = x.Spans) = true from decide_eq_true rfl] at cESpans
  go_wp2_with fail
  refine (cESpans.out _ (by repeat (first | exact Ext.refl _ | assumption | apply Ext.alloc | (refine Ext.setCell ?_ (by first | (simp; done) | (simp; omega) | omega) _) | (refine Ext.trans ?_ (by assumption))))).mono ?_
  rintro e w1 ⟨rfl, hb1⟩
  obtain ⟨hcr1, hfr1, hz1⟩ := hb1.rules
  (try simp at hz1)
  have hy10 : w.heap.size < w1.heap.size := by omega
  have hy11 : w.heap.size + 1 < w1.heap.size := by omega
  go_wp2
  exact ret_bool rfl rfl rfl rfl (by repeat (first | exact Ext.refl _ | assumption | apply Ext.alloc | (refine Ext.setCell ?_ (by first | (simp; done) | (simp; omega) | omega) _) | (refine Ext.trans ?_ (by assumption))))
theorem szSpec_c (x : Spec) (ASpans : Option Addr) (cSpans : Nat) (left : Int) (w : World) (hl : x.Spans.length ≤ maxLen) (h1 : left ≤ 1048576) (h0 : 0 ≤ left) : Calls Try.prog 9 #[.agg #[.slice ASpans x.Spans.length cSpans, .int .i64 x.Most], .int .i64 left] w (Ret w (.int .i64 (szM x.Spans.length left))) := by
  have hc := Lib.hid (fun u : World => szSpanS_c ASpans x.Spans.length cSpans left u hl h1 h0)
  have hs := Lib.hid (show szM x.Spans.length left < 0 → szM x.Spans.length left = -1 by unfold szM; split <;> omega)
  generalize szM x.Spans.length left = z at *
  go_enter Try.func9, Try.ntmps9
  by_cases hz : z < 0
  · have HZ := Lib.hid (hs.out hz)
    go_wp2_with fail
    refine (hc.out _).mono ?_
    rintro e w1 ⟨rfl, hb1⟩
    go_wp2
    rw [HZ.out]
    exact ret_is (by simp [results, Try.results9, go_sem]) rfl (by repeat (first | exact Ext.refl _ | assumption | apply Ext.alloc | (refine Ext.setCell ?_ (by first | (simp; done) | (simp; omega) | omega) _) | (refine Ext.trans ?_ (by assumption))))
  · go_wp2_with fail
    refine (hc.out _).mono ?_
    rintro e w1 ⟨rfl, hb1⟩
    go_wp2
    exact ret_int rfl rfl rfl rfl (by repeat (first | exact Ext.refl _ | assumption | apply Ext.alloc | (refine Ext.setCell ?_ (by first | (simp; done) | (simp; omega) | omega) _) | (refine Ext.trans ?_ (by assumption))))
theorem markSpec_c (x : Spec) (ASpans : Option Addr) (cSpans : Nat) (base : Nat) (L0 : List Value) (k : Int) (w : World) (hown : w.ownsRow base 61 3 (.slice ASpans x.Spans.length cSpans) x.Spans.length L0) (hn : x.Spans.length ≤ 1048576) (hk0 : 0 < k) (hk1 : k ≤ 1125899906842624) : Calls Try.prog 17 #[.agg #[.slice ASpans x.Spans.length cSpans, .int .i64 x.Most], .int .i64 k] w (Marked mkSpan 3 61 w base (.slice ASpans x.Spans.length cSpans) k x.Spans.length) := by
  have hc := Lib.hid (fun (u : World) (e : Ext w u) => markSpanS_c ASpans x.Spans.length cSpans base L0 k u (owns_ext hown e) hn hk0 hk1)
  go_enter Try.func17, Try.ntmps17
  go_wp2_with fail
  refine (hc.out _ (by repeat (first | exact Ext.refl _ | assumption | apply Ext.alloc | (refine Ext.setCell ?_ (by first | (simp; done) | (simp; omega) | omega) _) | (refine Ext.trans ?_ (by assumption))))).mono ?_
  rintro e w1 ⟨rfl, hm, hg⟩
  go_wp2
  exact bodyPost_ret (results_tmp rfl _ _ _) rfl ⟨rfl, hm, ⟨hg.os, hg.tape, hg.output, by have := hg.size; simp at this; omega, fun k hk hr => (hg.block k (by simp; omega) hr).trans ((((Ext.refl w).alloc _)).block k hk)⟩⟩
end Go.Proofs.Ytmnghgacglppeab
