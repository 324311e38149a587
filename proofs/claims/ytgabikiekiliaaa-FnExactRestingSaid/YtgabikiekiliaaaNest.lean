/- Structs that hold slices: how they read; the laws' own helpers over them. Written by gennest.py. -/
import Derived.Test.YtgabikiekiliaaaHelp
import Derived.Test.YtgabikiekiliaaaRead
import Derived.Test.YtgabikiekiliaaaLaw
namespace Go.Proofs.Ytgabikiekiliaaa
open Go.RowKit
set_option linter.unusedVariables false

theorem turned_set (w : World) (p : Addr) (u : Value) : Turned p.block (p.block + 1) w (w.setCell p u) :=
  ⟨rfl, rfl, rfl, by simp [World.setCell], fun k _ hr => Below.heap_setCell _ _ _ _ (by omega)⟩
theorem OwnAt.set {α : Type} {enc : α → List Value} {ok : α → Prop} {e : TypeId} {sz base : Nat} {w : World} {v : Value} {xs : List α} (h : OwnAt (Flat enc ok) e sz w base v xs) {p : Addr} (hp : p.block < base) (u : Value) : OwnAt (Flat enc ok) e sz (w.setCell p u) base v xs := by
  have hb := h.block
  exact (OwnIn.keep ⟨h, fun k hk => (hb k hk).2, Nat.le_refl _⟩ (turned_set w p u) (.inr hp)).1
theorem OwnAt.alloc {α : Type} {R : Rel α} {e : TypeId} {sz base : Nat} {w : World} {v : Value} {xs : List α} (h : OwnAt R e sz w base v xs) (hm : R.Mono) (o : Obj) : OwnAt R e sz (w.alloc o) base v xs := h.ext hm ((Ext.refl w).alloc o)
theorem RSl.mono {α : Type} {R : Rel α} {sz : Nat} (hm : R.Mono) : (RSl R sz).Mono := fun _ _ _ _ hb ⟨A, n, c, e, h, hl⟩ => ⟨A, n, c, e, h.ext hm hb, hl⟩
theorem RBool.mono : (RBool).Mono := fun _ _ _ _ _ h => h

def RProf : Rel Prof := fun w cs x => ∃ c0, cs = c0 ∧ (RSl RPt 4) w c0 x.Pts
theorem RProf.mono : RProf.Mono := fun _ _ _ _ hb ⟨c0, e, h0⟩ => ⟨c0, e, (RSl.mono (Flat.mono _ _)) _ _ _ _ hb h0⟩
theorem RProf.open {w : World} {cs : Array Value} {x : Prof} (h : RProf w cs.toList x) : ∃ (APts : Option Addr) (cPts : Nat), cs = #[.slice APts x.Pts.length cPts] ∧ SlAt RPt 4 w APts x.Pts.length x.Pts ∧ x.Pts.length ≤ maxLen := by
  obtain ⟨p0, e, ⟨APts, nPts, cPts, e0, hPts, lPts⟩⟩ := h
  obtain rfl := hPts.len
  subst e0
  refine ⟨APts, cPts, ?_, hPts, lPts⟩
  cases cs; simp only [] at e; subst e; rfl
/-- A copy in new memory. -/
def RetNProf (w : World) (x : Prof) : Ending → World → Prop := fun e w' => ∃ (APts : Option Addr) (cPts : Nat), e = .returned (.agg #[.slice APts x.Pts.length cPts]) ∧ OwnAt RPt 67 4 w' w.heap.size (.slice APts x.Pts.length cPts) x.Pts ∧ Ext w w'
set_option maxHeartbeats 2000000 in
theorem toProf_c (x : Prof) (APts : Option Addr) (cPts : Nat) (w : World) (hPts : SlAt RPt 4 w APts x.Pts.length x.Pts) (hlePts : x.Pts.length ≤ 1048576) : Calls Try.prog 11 #[.agg #[.slice APts x.Pts.length cPts]] w (RetNProf w x) := by
  go_enter Try.func11, Try.ntmps11
  go_wp2_with fail
  refine (toPtS_c x.Pts APts _ cPts _ (hPts.ext (Flat.mono _ _) (by repeat (first | exact Ext.refl _ | assumption | apply Ext.alloc | (refine Ext.setCell ?_ (by first | (simp; done) | (simp; omega) | omega) _) | (refine Ext.trans ?_ (by assumption))))) hlePts).mono ?_
  rintro e w1 ⟨BPts, dPts, rfl, hoPts, hb1⟩
  have hoPts := hoPts.mono (base' := w.heap.size + 3) (by simp; try omega)
  obtain ⟨hcr1, hfr1, hz1⟩ := hb1.rules
  (try simp at hz1)
  have hy10 : w.heap.size < w1.heap.size := by omega
  have hy11 : w.heap.size + 1 < w1.heap.size := by omega
  have hy12 : w.heap.size + 1 + 1 < w1.heap.size := by omega
  go_wp2
  refine bodyPost_ret (v := .agg #[.slice BPts x.Pts.length dPts]) (by simp [results, Try.results11, go_sem, *]) rfl ⟨BPts, dPts, rfl, ?_, (by repeat (first | exact Ext.refl _ | assumption | apply Ext.alloc | (refine Ext.setCell ?_ (by first | (simp; done) | (simp; omega) | omega) _) | (refine Ext.trans ?_ (by assumption))))⟩
  all_goals (refine OwnAt.mono (base := w.heap.size + 3) ?_ (by omega))
  all_goals (repeat (first | (refine OwnAt.set ?_ (by simp) _) | (refine OwnAt.ext ?_ (Flat.mono _ _) (by assumption)) | (refine OwnAt.alloc ?_ (Flat.mono _ _) _)))
  · exact hoPts
set_option maxHeartbeats 2000000 in
theorem eqProf_t (x : Prof) (APts : Option Addr) (cPts : Nat) (BPts : Option Addr) (dPts : Nat) (w : World) (hPts : SlAt RPt 4 w APts x.Pts.length x.Pts) (gPts : SlAt RPt 4 w BPts x.Pts.length x.Pts) (hlPts : x.Pts.length ≤ maxLen) : Calls Try.prog 14 #[.agg #[.slice APts x.Pts.length cPts], .agg #[.slice BPts x.Pts.length dPts]] w (Ret w (.bool true)) := by
  go_enter Try.func14, Try.ntmps14
  have cEPts := Lib.hid (fun (u : World) (e : Ext w u) => eqPtS_c x.Pts x.Pts APts BPts _ cPts _ dPts u (hPts.ext (Flat.mono _ _) e) (gPts.ext (Flat.mono _ _) e) hlPts)
  rw [show decide (x.Pts = x.Pts) = true from decide_eq_true rfl] at cEPts
  go_wp2_with fail
  refine (cEPts.out _ (by repeat (first | exact Ext.refl _ | assumption | apply Ext.alloc | (refine Ext.setCell ?_ (by first | (simp; done) | (simp; omega) | omega) _) | (refine Ext.trans ?_ (by assumption))))).mono ?_
  rintro e w1 ⟨rfl, hb1⟩
  obtain ⟨hcr1, hfr1, hz1⟩ := hb1.rules
  (try simp at hz1)
  have hy10 : w.heap.size < w1.heap.size := by omega
  have hy11 : w.heap.size + 1 < w1.heap.size := by omega
  go_wp2
  exact ret_bool rfl rfl rfl rfl (by repeat (first | exact Ext.refl _ | assumption | apply Ext.alloc | (refine Ext.setCell ?_ (by first | (simp; done) | (simp; omega) | omega) _) | (refine Ext.trans ?_ (by assumption))))
theorem szProf_c (x : Prof) (APts : Option Addr) (cPts : Nat) (left : Int) (w : World) (hl : x.Pts.length ≤ maxLen) (h1 : left ≤ 1048576) (h0 : 0 ≤ left) : Calls Try.prog 9 #[.agg #[.slice APts x.Pts.length cPts], .int .i64 left] w (Ret w (.int .i64 (szM x.Pts.length left))) := by
  have hc := Lib.hid (fun u : World => szPtS_c APts x.Pts.length cPts left u hl h1 h0)
  have hs := Lib.hid (show szM x.Pts.length left < 0 → szM x.Pts.length left = -1 by unfold szM; split <;> omega)
  generalize szM x.Pts.length left = z at *
  go_enter Try.func9, Try.ntmps9
  by_cases hz : z < 0
  · have HZ := Lib.hid (hs.out hz)
    go_wp2_with fail
    refine (hc.out _).mono ?_
    rintro e w1 ⟨rfl, hb1⟩
    go_wp2
    rw [HZ.out]
    exact ret_is (by simp [results, Try.results9, go_sem]) rfl (by repeat (first | exact Ext.refl _ | assumption | apply Ext.alloc | (refine Ext.setCell ?_ (by first | (simp; done) | (simp; omega) | omega) _) | (refine Ext.trans ?_ (by assumption))))
  · go_wp2_with fail
    refine (hc.out _).mono ?_
    rintro e w1 ⟨rfl, hb1⟩
    go_wp2
    exact ret_int rfl rfl rfl rfl (by repeat (first | exact Ext.refl _ | assumption | apply Ext.alloc | (refine Ext.setCell ?_ (by first | (simp; done) | (simp; omega) | omega) _) | (refine Ext.trans ?_ (by assumption))))
end Go.Proofs.Ytgabikiekiliaaa
