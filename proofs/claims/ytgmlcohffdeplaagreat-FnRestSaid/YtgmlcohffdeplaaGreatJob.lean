/- Contracts over one job. -/
import Derived.Test.YtgmlcohffdeplaaGreatSmall
namespace Go.Proofs.YtgmlcohffdeplaaGreat
open Go.RowKit
theorem vecB_iffJ (v : Vec) : vecB v = true ↔ (0 ≤ v.A ∧ v.A ≤ 1000000) ∧ (0 ≤ v.B ∧ v.B ≤ 1000000) ∧ (0 ≤ v.C ∧ v.C ≤ 1000000) := by unfold vecB; rw [decide_eq_true_iff]
def jobB (j : Job) : Bool := decide ((1 ≤ j.Id ∧ j.Id ≤ 999) ∧ (0 ≤ j.Prio ∧ j.Prio ≤ 999) ∧ (1 ≤ j.Nodes ∧ j.Nodes ≤ 24) ∧ (1 ≤ j.Wall ∧ j.Wall ≤ 1000000) ∧ (0 ≤ j.Level ∧ j.Level ≤ 24)) && (vecB j.Need && vecB j.Lic)
theorem jobB_iff (j : Job) : jobB j = true ↔ ((1 ≤ j.Id ∧ j.Id ≤ 999) ∧ (0 ≤ j.Prio ∧ j.Prio ≤ 999) ∧ (1 ≤ j.Nodes ∧ j.Nodes ≤ 24) ∧ (1 ≤ j.Wall ∧ j.Wall ≤ 1000000) ∧ (0 ≤ j.Level ∧ j.Level ≤ 24)) ∧ ((0 ≤ j.Need.A ∧ j.Need.A ≤ 1000000) ∧ (0 ≤ j.Need.B ∧ j.Need.B ≤ 1000000) ∧ (0 ≤ j.Need.C ∧ j.Need.C ≤ 1000000)) ∧ ((0 ≤ j.Lic.A ∧ j.Lic.A ≤ 1000000) ∧ (0 ≤ j.Lic.B ∧ j.Lic.B ≤ 1000000) ∧ (0 ≤ j.Lic.C ∧ j.Lic.C ≤ 1000000)) := by
  unfold jobB; rw [Bool.and_eq_true, Bool.and_eq_true, decide_eq_true_iff, vecB_iffJ, vecB_iffJ]
set_option maxHeartbeats 4000000 in
theorem sJobOk_c (x : Job) (w : World) : Calls Tryz.prog 131 #[.agg #[.int .i64 x.Id, .int .i64 x.Prio, .int .i64 x.Nodes, .int .i64 x.Need.A, .int .i64 x.Need.B, .int .i64 x.Need.C, .int .i64 x.Lic.A, .int .i64 x.Lic.B, .int .i64 x.Lic.C, .int .i64 x.Wall, .int .i64 x.Level]] w (Ret w (.bool (jobB x))) := by
  go_enter Tryz.func131, Tryz.ntmps131
  go_wp2
  all_goals (refine ret_bool rfl rfl rfl ?_ (by repeat (first | exact Ext.refl _ | assumption | apply Ext.alloc | apply Ext.drewN | apply Ext.drew | (refine Ext.setCell ?_ (by first | (simp; done) | (simp; omega) | omega) _) | (refine Ext.trans ?_ (by assumption)))))
  all_goals (rw [Bool.eq_iff_iff, jobB_iff]; simp; omega)
end Go.Proofs.YtgmlcohffdeplaaGreat
