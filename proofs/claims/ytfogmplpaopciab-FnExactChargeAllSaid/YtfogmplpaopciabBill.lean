/- Contracts over one bill. -/
import Derived.Test.YtfogmplpaopciabSmall
namespace Go.Proofs.Ytfogmplpaopciab
open Go.RowKit
theorem vecB_iff (v : Vec) : vecB v = true ↔ (0 ≤ v.A ∧ v.A ≤ 1000000) ∧ (0 ≤ v.B ∧ v.B ≤ 1000000) ∧ (0 ≤ v.C ∧ v.C ≤ 1000000) := by unfold vecB; rw [decide_eq_true_iff]
theorem billB_iff (b : Bill) : billB b = true ↔ ((1 ≤ b.Id ∧ b.Id ≤ 999) ∧ (0 ≤ b.From ∧ b.From ≤ 1000000000) ∧ (0 ≤ b.To ∧ b.To ≤ 1000000000) ∧ b.From ≤ b.To ∧ (1 ≤ b.Nodes ∧ b.Nodes ≤ 24)) ∧ (0 ≤ b.Need.A ∧ b.Need.A ≤ 1000000) ∧ (0 ≤ b.Need.B ∧ b.Need.B ≤ 1000000) ∧ (0 ≤ b.Need.C ∧ b.Need.C ≤ 1000000) := by
  unfold billB; rw [Bool.and_eq_true, decide_eq_true_iff, vecB_iff]
set_option maxHeartbeats 2000000 in
theorem BillOk_c (x : Bill) (w : World) : Calls Try.prog 71 #[.agg #[.int .i64 x.Id, .int .i64 x.From, .int .i64 x.To, .int .i64 x.Nodes, .int .i64 x.Need.A, .int .i64 x.Need.B, .int .i64 x.Need.C]] w (Ret w (.bool (billB x))) := by
  go_enter Try.func71, Try.ntmps71
  go_wp2
  all_goals (refine ret_bool rfl rfl rfl ?_ (by repeat (first | exact Ext.refl _ | assumption | apply Ext.alloc | apply Ext.drewN | apply Ext.drew | (refine Ext.setCell ?_ (by first | (simp; done) | (simp; omega) | omega) _) | (refine Ext.trans ?_ (by assumption)))))
  all_goals (rw [Bool.eq_iff_iff, billB_iff]; simp; omega)
set_option maxHeartbeats 2000000 in
theorem sBillOk_c (x : Bill) (w : World) : Calls Try.prog 69 #[.agg #[.int .i64 x.Id, .int .i64 x.From, .int .i64 x.To, .int .i64 x.Nodes, .int .i64 x.Need.A, .int .i64 x.Need.B, .int .i64 x.Need.C]] w (Ret w (.bool (billB x))) := by
  go_enter Try.func69, Try.ntmps69
  go_wp2
  all_goals (refine ret_bool rfl rfl rfl ?_ (by repeat (first | exact Ext.refl _ | assumption | apply Ext.alloc | apply Ext.drewN | apply Ext.drew | (refine Ext.setCell ?_ (by first | (simp; done) | (simp; omega) | omega) _) | (refine Ext.trans ?_ (by assumption)))))
  all_goals (rw [Bool.eq_iff_iff, billB_iff]; simp; omega)
def costI (x : Bill) : Int := if billB x = true then (x.To - x.From) * x.Nodes * max 1 x.Need.A else -1
theorem cost_bounds {x : Bill} (h : billB x = true) : (0 ≤ (x.To - x.From) * x.Nodes ∧ (x.To - x.From) * x.Nodes ≤ 24000000000) ∧ (0 ≤ (x.To - x.From) * x.Nodes * x.Need.A ∧ (x.To - x.From) * x.Nodes * x.Need.A ≤ 24000000000000000) := by
  obtain ⟨⟨⟨a1, a2⟩, ⟨a3, a4⟩, ⟨a5, a6⟩, a7, ⟨a8, a9⟩⟩, ⟨b1, b2⟩, _⟩ := (billB_iff x).1 h
  have h1 : 0 ≤ (x.To - x.From) * x.Nodes := Int.mul_nonneg (by omega) (by omega)
  have h2 : (x.To - x.From) * x.Nodes ≤ 1000000000 * 24 := Int.mul_le_mul (by omega) (by omega) (by omega) (by omega)
  have h3 : (x.To - x.From) * x.Nodes * x.Need.A ≤ 24000000000 * 1000000 := Int.mul_le_mul (by omega) (by omega) (by omega) (by omega)
  exact ⟨⟨h1, by omega⟩, Int.mul_nonneg h1 (by omega), by omega⟩
theorem costI_one {x : Bill} (h : billB x = true) (hA : x.Need.A ≤ 1) : (x.To - x.From) * x.Nodes = costI x := by
  rw [costI, if_pos h, show max 1 x.Need.A = 1 by omega, Int.mul_one]
theorem costI_more {x : Bill} (h : billB x = true) (hA : 1 ≤ x.Need.A) : (x.To - x.From) * x.Nodes * x.Need.A = costI x := by
  rw [costI, if_pos h, show max 1 x.Need.A = x.Need.A by omega]
theorem costI_range {x : Bill} (h : billB x = true) : 0 ≤ costI x ∧ costI x ≤ 24000000000000000 := by
  obtain ⟨⟨h1, h2⟩, ⟨h3, h4⟩⟩ := cost_bounds h
  rcases Int.le_total x.Need.A 1 with hA | hA
  · rw [← costI_one h hA]; omega
  · rw [← costI_more h hA]; omega
set_option maxHeartbeats 2000000 in
theorem Cost_c (x : Bill) (w : World) : Calls Try.prog 63 #[.agg #[.int .i64 x.Id, .int .i64 x.From, .int .i64 x.To, .int .i64 x.Nodes, .int .i64 x.Need.A, .int .i64 x.Need.B, .int .i64 x.Need.C]] w (Ret w (.int .i64 (costI x))) := by
  go_enter Try.func63, Try.ntmps63
  rcases Bool.eq_false_or_eq_true (billB x) with hB | hB
  · obtain ⟨⟨⟨a1, a2⟩, ⟨a3, a4⟩, ⟨a5, a6⟩, a7, ⟨a8, a9⟩⟩, ⟨b1, b2⟩, _⟩ := (billB_iff x).1 hB
    obtain ⟨⟨p1, p2⟩, ⟨p3, p4⟩⟩ := cost_bounds hB
    have q1 : wrap64 ((x.To - x.From) * x.Nodes) = (x.To - x.From) * x.Nodes := IntWalk.wrap64_in _ ⟨by omega, by omega⟩
    have q2 : wrap64 ((x.To - x.From) * x.Nodes * x.Need.A) = (x.To - x.From) * x.Nodes * x.Need.A := IntWalk.wrap64_in _ ⟨by omega, by omega⟩
    go_wp2_with (first | (go_at_call 71; (with_reducible refine (BillOk_c x _).mono ?_); rintro e w1 ⟨rfl, hb1⟩; obtain ⟨hcr1, hfr1, hz1⟩ := hb1.rules; (try simp at hz1); (try have hy1a := Nat.lt_of_succ_le hz1); (try have hy1b := Nat.lt_of_succ_lt hy1a); (try have hy1c := Nat.lt_of_succ_lt hy1b); (try have hy1d := Nat.lt_of_succ_lt hy1c)))
    all_goals first | exact ret_int rfl rfl rfl (costI_one hB (by omega)) (by repeat (first | exact Ext.refl _ | assumption | apply Ext.alloc | apply Ext.drewN | apply Ext.drew | (refine Ext.setCell ?_ (by first | (simp; done) | (simp; omega) | omega) _) | (refine Ext.trans ?_ (by assumption)))) | exact ret_int rfl rfl rfl (costI_more hB (by omega)) (by repeat (first | exact Ext.refl _ | assumption | apply Ext.alloc | apply Ext.drewN | apply Ext.drew | (refine Ext.setCell ?_ (by first | (simp; done) | (simp; omega) | omega) _) | (refine Ext.trans ?_ (by assumption))))
  · go_wp2_with (first | (go_at_call 71; (with_reducible refine (BillOk_c x _).mono ?_); rintro e w1 ⟨rfl, hb1⟩; obtain ⟨hcr1, hfr1, hz1⟩ := hb1.rules; (try simp at hz1); (try have hy1a := Nat.lt_of_succ_le hz1); (try have hy1b := Nat.lt_of_succ_lt hy1a); (try have hy1c := Nat.lt_of_succ_lt hy1b); (try have hy1d := Nat.lt_of_succ_lt hy1c)))
    exact ret_int rfl rfl rfl (by rw [costI, hB]; rfl) (by repeat (first | exact Ext.refl _ | assumption | apply Ext.alloc | apply Ext.drewN | apply Ext.drew | (refine Ext.setCell ?_ (by first | (simp; done) | (simp; omega) | omega) _) | (refine Ext.trans ?_ (by assumption))))
set_option maxHeartbeats 2000000 in
theorem sCost_c (x : Bill) (w : World) : Calls Try.prog 58 #[.agg #[.int .i64 x.Id, .int .i64 x.From, .int .i64 x.To, .int .i64 x.Nodes, .int .i64 x.Need.A, .int .i64 x.Need.B, .int .i64 x.Need.C]] w (Ret w (.int .i64 (costI x))) := by
  go_enter Try.func58, Try.ntmps58
  rcases Bool.eq_false_or_eq_true (billB x) with hB | hB
  · obtain ⟨⟨⟨a1, a2⟩, ⟨a3, a4⟩, ⟨a5, a6⟩, a7, ⟨a8, a9⟩⟩, ⟨b1, b2⟩, _⟩ := (billB_iff x).1 hB
    obtain ⟨⟨p1, p2⟩, ⟨p3, p4⟩⟩ := cost_bounds hB
    rcases Bool.eq_false_or_eq_true (x.Need.A == 0) with h0 | h0
    · have H0 : x.Need.A ≤ 1 := by simp at h0; omega
      go_wp2_with (first | (go_at_call 69; (with_reducible refine (sBillOk_c x _).mono ?_); rintro e w1 ⟨rfl, hb1⟩; obtain ⟨hcr1, hfr1, hz1⟩ := hb1.rules; (try simp at hz1); (try have hy1a := Nat.lt_of_succ_le hz1); (try have hy1b := Nat.lt_of_succ_lt hy1a); (try have hy1c := Nat.lt_of_succ_lt hy1b); (try have hy1d := Nat.lt_of_succ_lt hy1c)))
      exact ret_int rfl rfl rfl (costI_one hB H0) (by repeat (first | exact Ext.refl _ | assumption | apply Ext.alloc | apply Ext.drewN | apply Ext.drew | (refine Ext.setCell ?_ (by first | (simp; done) | (simp; omega) | omega) _) | (refine Ext.trans ?_ (by assumption))))
    · have H0 : 1 ≤ x.Need.A := by simp at h0; omega
      go_wp2_with (first | (go_at_call 69; (with_reducible refine (sBillOk_c x _).mono ?_); rintro e w1 ⟨rfl, hb1⟩; obtain ⟨hcr1, hfr1, hz1⟩ := hb1.rules; (try simp at hz1); (try have hy1a := Nat.lt_of_succ_le hz1); (try have hy1b := Nat.lt_of_succ_lt hy1a); (try have hy1c := Nat.lt_of_succ_lt hy1b); (try have hy1d := Nat.lt_of_succ_lt hy1c)))
      exact ret_int rfl rfl rfl (costI_more hB H0) (by repeat (first | exact Ext.refl _ | assumption | apply Ext.alloc | apply Ext.drewN | apply Ext.drew | (refine Ext.setCell ?_ (by first | (simp; done) | (simp; omega) | omega) _) | (refine Ext.trans ?_ (by assumption))))
  · go_wp2_with (first | (go_at_call 69; (with_reducible refine (sBillOk_c x _).mono ?_); rintro e w1 ⟨rfl, hb1⟩; obtain ⟨hcr1, hfr1, hz1⟩ := hb1.rules; (try simp at hz1); (try have hy1a := Nat.lt_of_succ_le hz1); (try have hy1b := Nat.lt_of_succ_lt hy1a); (try have hy1c := Nat.lt_of_succ_lt hy1b); (try have hy1d := Nat.lt_of_succ_lt hy1c)))
    exact ret_int rfl rfl rfl (by rw [costI, hB]; rfl) (by repeat (first | exact Ext.refl _ | assumption | apply Ext.alloc | apply Ext.drewN | apply Ext.drew | (refine Ext.setCell ?_ (by first | (simp; done) | (simp; omega) | omega) _) | (refine Ext.trans ?_ (by assumption))))
end Go.Proofs.Ytfogmplpaopciab
