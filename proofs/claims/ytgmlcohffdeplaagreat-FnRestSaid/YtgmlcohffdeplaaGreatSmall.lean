/- Contracts of the small functions that only compare numbers. -/
import Derived.Test.YtgmlcohffdeplaaGreatHelp
namespace Go.Proofs.YtgmlcohffdeplaaGreat
open Go.RowKit

def withinB (x lo hi : Int) : Bool := decide (lo ≤ x ∧ x ≤ hi)
def resB (x : Int) : Bool := decide (0 ≤ x ∧ x ≤ 1000000)
def timeB (x : Int) : Bool := decide (0 ≤ x ∧ x ≤ 1000000000)
def vecB (v : Vec) : Bool := decide ((0 ≤ v.A ∧ v.A ≤ 1000000) ∧ (0 ≤ v.B ∧ v.B ≤ 1000000) ∧ (0 ≤ v.C ∧ v.C ≤ 1000000))
def billB (b : Bill) : Bool := decide ((1 ≤ b.Id ∧ b.Id ≤ 999) ∧ (0 ≤ b.From ∧ b.From ≤ 1000000000) ∧ (0 ≤ b.To ∧ b.To ≤ 1000000000) ∧ b.From ≤ b.To ∧ (1 ≤ b.Nodes ∧ b.Nodes ≤ 24)) && vecB b.Need

/-- What a call hands back, the world as it was. -/
def Same (w : World) (v : Value) : Ending → World → Prop := fun e w' => e = .returned v ∧ w = w'
theorem Same.ret {P : Program} {f : FuncId} {args : Array Value} {w : World} {v : Value} (h : Calls P f args w (Same w v)) : Calls P f args w (Ret w v) :=
  h.mono fun _ _ ⟨he, hw⟩ => ⟨he, hw ▸ Ext.refl _⟩
theorem same_bool {w : World} {P : Program} {fn : Func} {a : Act} {b b' : Bool} {t : Tmp} (hr : fn.results = #[.tmp t]) (hv : a.tmps.getD t undef = .bool b) (hd : a.defers = []) (e : b = b') : bodyPost P fn (Same w (.bool b')) .ret a w :=
  bodyPost_ret (results_tmp hr _ _ _) hd ⟨by rw [hv, e], rfl⟩
theorem same_int {w : World} {P : Program} {fn : Func} {a : Act} {b b' : Int} {t : Tmp} (hr : fn.results = #[.tmp t]) (hv : a.tmps.getD t undef = .int .i64 b) (hd : a.defers = []) (e : b = b') : bodyPost P fn (Same w (.int .i64 b')) .ret a w :=
  bodyPost_ret (results_tmp hr _ _ _) hd ⟨by rw [hv, e], rfl⟩

theorem within_c (x lo hi : Int) (w : World) : Calls Tryz.prog 94 #[.int .i64 x, .int .i64 lo, .int .i64 hi] w (Same w (.bool (withinB x lo hi))) := by
  go_enter Tryz.func94, Tryz.ntmps94
  go_wp2
  all_goals (refine same_bool rfl rfl rfl ?_; unfold withinB; first | (symm; rw [decide_eq_true_iff]; omega) | (symm; rw [decide_eq_false_iff_not]; omega) | (rw [decide_eq_decide]; omega))
theorem isTime_c (x : Int) (w : World) : Calls Tryz.prog 56 #[.int .i64 x] w (Same w (.bool (timeB x))) := by
  go_enter Tryz.func56, Tryz.ntmps56
  go_wp2
  all_goals (refine same_bool rfl rfl rfl ?_; unfold timeB; first | (symm; rw [decide_eq_true_iff]; omega) | (symm; rw [decide_eq_false_iff_not]; omega) | (rw [decide_eq_decide]; omega))
theorem sTime_c (x : Int) (w : World) : Calls Tryz.prog 65 #[.int .i64 x] w (Same w (.bool (timeB x))) := by
  go_enter Tryz.func65, Tryz.ntmps65
  go_wp2
  all_goals (refine same_bool rfl rfl rfl ?_; unfold timeB; first | (symm; rw [decide_eq_true_iff]; omega) | (symm; rw [decide_eq_false_iff_not]; omega) | (rw [decide_eq_decide]; omega))
theorem sRes_c (x : Int) (w : World) : Calls Tryz.prog 117 #[.int .i64 x] w (Same w (.bool (resB x))) := by
  go_enter Tryz.func117, Tryz.ntmps117
  go_wp2
  all_goals (refine same_bool rfl rfl rfl ?_; unfold resB; first | (symm; rw [decide_eq_true_iff]; omega) | (symm; rw [decide_eq_false_iff_not]; omega) | (rw [decide_eq_decide]; omega))
theorem VecOk_c (v : Vec) (w : World) : Calls Tryz.prog 95 #[.agg #[.int .i64 v.A, .int .i64 v.B, .int .i64 v.C]] w (Ret w (.bool (vecB v))) := by
  go_enter Tryz.func95, Tryz.ntmps95
  go_wp2
  all_goals (refine ret_bool rfl rfl rfl ?_ (by repeat (first | exact Ext.refl _ | assumption | apply Ext.alloc | apply Ext.drewN | apply Ext.drew | (refine Ext.setCell ?_ (by first | (simp; done) | (simp; omega) | omega) _) | (refine Ext.trans ?_ (by assumption)))); unfold vecB; first | (symm; rw [decide_eq_true_iff]; omega) | (symm; rw [decide_eq_false_iff_not]; omega) | (rw [decide_eq_decide]; omega))
theorem sVecOk_c (v : Vec) (w : World) : Calls Tryz.prog 100 #[.agg #[.int .i64 v.A, .int .i64 v.B, .int .i64 v.C]] w (Ret w (.bool (vecB v))) := by
  go_enter Tryz.func100, Tryz.ntmps100
  go_wp2
  all_goals (refine ret_bool rfl rfl rfl ?_ (by repeat (first | exact Ext.refl _ | assumption | apply Ext.alloc | apply Ext.drewN | apply Ext.drew | (refine Ext.setCell ?_ (by first | (simp; done) | (simp; omega) | omega) _) | (refine Ext.trans ?_ (by assumption)))); unfold vecB; first | (symm; rw [decide_eq_true_iff]; omega) | (symm; rw [decide_eq_false_iff_not]; omega) | (rw [decide_eq_decide]; omega))
end Go.Proofs.YtgmlcohffdeplaaGreat
