/- Contracts over one bill. -/
import Derived.Test.YtfogmplpaopciaaSmall
namespace Go.Proofs.Ytfogmplpaopciaa
open Go.RowKit
theorem vecB_iff (v : Vec) : vecB v = true ↔ (0 ≤ v.A ∧ v.A ≤ 1000000) ∧ (0 ≤ v.B ∧ v.B ≤ 1000000) ∧ (0 ≤ v.C ∧ v.C ≤ 1000000) := by unfold vecB; rw [decide_eq_true_iff]
theorem billB_iff (b : Bill) : billB b = true ↔ ((1 ≤ b.Id ∧ b.Id ≤ 999) ∧ (0 ≤ b.From ∧ b.From ≤ 1000000000) ∧ (0 ≤ b.To ∧ b.To ≤ 1000000000) ∧ b.From ≤ b.To ∧ (1 ≤ b.Nodes ∧ b.Nodes ≤ 24)) ∧ (0 ≤ b.Need.A ∧ b.Need.A ≤ 1000000) ∧ (0 ≤ b.Need.B ∧ b.Need.B ≤ 1000000) ∧ (0 ≤ b.Need.C ∧ b.Need.C ≤ 1000000) := by
  unfold billB; rw [Bool.and_eq_true, decide_eq_true_iff, vecB_iff]
set_option maxHeartbeats 2000000 in
theorem BillOk_c (x : Bill) (w : World) : Calls Try.prog 38 #[.agg #[.int .i64 x.Id, .int .i64 x.From, .int .i64 x.To, .int .i64 x.Nodes, .int .i64 x.Need.A, .int .i64 x.Need.B, .int .i64 x.Need.C]] w (Ret w (.bool (billB x))) := by
  go_enter Try.func38, Try.ntmps38
  go_wp2
  all_goals (refine ret_bool rfl rfl rfl ?_ (by repeat (first | exact Ext.refl _ | assumption | apply Ext.alloc | apply Ext.drewN | apply Ext.drew | (refine Ext.setCell ?_ (by first | (simp; done) | (simp; omega) | omega) _) | (refine Ext.trans ?_ (by assumption)))))
  all_goals (rw [Bool.eq_iff_iff, billB_iff]; simp; omega)
set_option maxHeartbeats 2000000 in
theorem sBillOk_c (x : Bill) (w : World) : Calls Try.prog 36 #[.agg #[.int .i64 x.Id, .int .i64 x.From, .int .i64 x.To, .int .i64 x.Nodes, .int .i64 x.Need.A, .int .i64 x.Need.B, .int .i64 x.Need.C]] w (Ret w (.bool (billB x))) := by
  go_enter Try.func36, Try.ntmps36
  go_wp2
  all_goals (refine ret_bool rfl rfl rfl ?_ (by repeat (first | exact Ext.refl _ | assumption | apply Ext.alloc | apply Ext.drewN | apply Ext.drew | (refine Ext.setCell ?_ (by first | (simp; done) | (simp; omega) | omega) _) | (refine Ext.trans ?_ (by assumption)))))
  all_goals (rw [Bool.eq_iff_iff, billB_iff]; simp; omega)
def costI (x : Bill) : Int := if billB x = true then (x.To - x.From) * x.Nodes * max 1 x.Need.A else -1
theorem cost_bounds {x : Bill} (h : billB x = true) : (0 ≤ (x.To - x.From) * x.Nodes ∧ (x.To - x.From) * x.Nodes ≤ 24000000000) ∧ (0 ≤ (x.To - x.From) * x.Nodes * x.Need.A ∧ (x.To - x.From) * x.Nodes * x.Need.A ≤ 24000000000000000) := by
  obtain ⟨⟨⟨a1, a2⟩, ⟨a3, a4⟩, ⟨a5, a6⟩, a7, ⟨a8, a9⟩⟩, ⟨b1, b2⟩, _⟩ := (billB_iff x).1 h
  have h1 : 0 ≤ (x.To - x.From) * x.Nodes := Int.mul_nonneg (by omega) (by omega)
  have h2 : (x.To - x.From) * x.Nodes ≤ 1000000000 * 24 := Int.mul_le_mul (by omega) (by omega) (by omega) (by omega)
  have h3 : (x.To - x.From) * x.Nodes * x.Need.A ≤ 24000000000 * 1000000 := Int.mul_le_mul (by omega) (by omega) (by omega) (by omega)
  exact ⟨⟨h1, by omega⟩, Int.mul_nonneg h1 (by omega), by omega⟩
theorem costI_one {x : Bill} (h : billB x = true) (hA : x.Need.A ≤ 1) : (x.To - x.From) * x.Nodes = costI x := by
  rw [costI, if_pos h, show max 1 x.Need.A = 1 by omega, Int.mul_one]
theorem costI_more {x : Bill} (h : billB x = true) (hA : 1 ≤ x.Need.A) : (x.To - x.From) * x.Nodes * x.Need.A = costI x := by
  rw [costI, if_pos h, show max 1 x.Need.A = x.Need.A by omega]
theorem costI_range {x : Bill} (h : billB x = true) : 0 ≤ costI x ∧ costI x ≤ 24000000000000000 := by
  obtain ⟨⟨h1, h2⟩, ⟨h3, h4⟩⟩ := cost_bounds h
  rcases Int.le_total x.Need.A 1 with hA | hA
  · rw [← costI_one h hA]; omega
  · rw [← costI_more h hA]; omega
end Go.Proofs.Ytfogmplpaopciaa
