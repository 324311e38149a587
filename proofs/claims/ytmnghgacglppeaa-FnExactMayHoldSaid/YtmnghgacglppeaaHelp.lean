/- Contracts of the laws' own helpers. Written by gen.py. -/
import Derived.Test.YtmnghgacglppeaaRows
import Derived.Test.YtmnghgacglppeaaData
import Derived.Deep.Light
namespace Go.Proofs.Ytmnghgacglppeaa
open Go.RowKit

set_option maxHeartbeats 1000000 in
theorem toVec_x (a0 : Int) (a1 : Int) (a2 : Int) (w : World) : Calls Try.prog 54 #[.agg #[.int .i64 a0, .int .i64 a1, .int .i64 a2]] w fun e w' => e = .returned (.agg #[.int .i64 a0, .int .i64 a1, .int .i64 a2]) ∧
    (((w.alloc (.cells #[.int .i64 a0, .int .i64 a1, .int .i64 a2] 47)).alloc (.cells #[.int .i64 a0, .int .i64 a1, .int .i64 a2] 37)).alloc (.cells #[.int .i64 a0, .int .i64 a1, .int .i64 a2] 37)) = w' := by
  go_enter Try.func54, Try.ntmps54
  go_wp2
  exact bodyPost_ret (v := .agg #[.int .i64 a0, .int .i64 a1, .int .i64 a2]) (by simp [results, Try.results54, go_sem]) rfl ⟨rfl, rfl⟩
theorem toVec_c (x : Vec) (w : World) : Calls Try.prog 54 #[.agg #[.int .i64 x.A, .int .i64 x.B, .int .i64 x.C]] w (Ret w (.agg #[.int .i64 x.A, .int .i64 x.B, .int .i64 x.C])) :=
  (toVec_x _ _ _ w).mono fun e w' ⟨h, hw⟩ => ⟨h, by rw [← hw]; repeat (first | exact Ext.refl _ | apply Ext.alloc)⟩

set_option maxHeartbeats 1000000 in
theorem eqVec_c (x y : Vec) (w : World) : Calls Try.prog 21 #[.agg #[.int .i64 x.A, .int .i64 x.B, .int .i64 x.C], .agg #[.int .i64 y.A, .int .i64 y.B, .int .i64 y.C]] w (Ret w (.bool (decide (x = y)))) := by
  go_enter Try.func21, Try.ntmps21
  go_wp2
  all_goals refine ret_bool rfl rfl rfl ?_ (by repeat (first | exact Ext.refl _ | apply Ext.alloc))
  all_goals (symm; (try simp only [bne_iff_ne, ne_eq, bne_eq_false_iff_eq] at *); first | (rw [decide_eq_false_iff_not, Vec.eq_iff]; simp_all; done) | (rw [decide_eq_false_iff_not, Vec.eq_iff]; intro hh; simp_all; done) | (rw [decide_eq_true_iff, Vec.eq_iff]; simp_all; done))

set_option maxHeartbeats 1000000 in
theorem toJob_x (a0 : Int) (a1 : Int) (a2 : Int) (a3 : Int) (a4 : Int) (a5 : Int) (a6 : Int) (a7 : Int) (a8 : Int) (a9 : Int) (a10 : Int) (w : World) : Calls Try.prog 53 #[.agg #[.int .i64 a0, .int .i64 a1, .int .i64 a2, .int .i64 a3, .int .i64 a4, .int .i64 a5, .int .i64 a6, .int .i64 a7, .int .i64 a8, .int .i64 a9, .int .i64 a10]] w fun e w' => e = .returned (.agg #[.int .i64 a0, .int .i64 a1, .int .i64 a2, .int .i64 a3, .int .i64 a4, .int .i64 a5, .int .i64 a6, .int .i64 a7, .int .i64 a8, .int .i64 a9, .int .i64 a10]) ∧
    (((((((((w.alloc (.cells #[.int .i64 a0, .int .i64 a1, .int .i64 a2, .int .i64 a3, .int .i64 a4, .int .i64 a5, .int .i64 a6, .int .i64 a7, .int .i64 a8, .int .i64 a9, .int .i64 a10] 49)).alloc (.cells #[.int .i64 a0, .int .i64 a1, .int .i64 a2, .int .i64 a3, .int .i64 a4, .int .i64 a5, .int .i64 a6, .int .i64 a7, .int .i64 a8, .int .i64 a9, .int .i64 a10] 55)).alloc (.cells #[.int .i64 a0, .int .i64 a1, .int .i64 a2, .int .i64 a3, .int .i64 a4, .int .i64 a5, .int .i64 a6, .int .i64 a7, .int .i64 a8, .int .i64 a9, .int .i64 a10] 55)).alloc (.cells #[.int .i64 a3, .int .i64 a4, .int .i64 a5] 47)).alloc (.cells #[.int .i64 a3, .int .i64 a4, .int .i64 a5] 37)).alloc (.cells #[.int .i64 a3, .int .i64 a4, .int .i64 a5] 37)).alloc (.cells #[.int .i64 a6, .int .i64 a7, .int .i64 a8] 47)).alloc (.cells #[.int .i64 a6, .int .i64 a7, .int .i64 a8] 37)).alloc (.cells #[.int .i64 a6, .int .i64 a7, .int .i64 a8] 37)) = w' := by
  go_enter Try.func53, Try.ntmps53
  go_wp2_with (first | (go_at_call 54; refine (toVec_x _ _ _ _).mono ?_; rintro e w1 ⟨rfl, rfl⟩))
  exact bodyPost_ret (v := .agg #[.int .i64 a0, .int .i64 a1, .int .i64 a2, .int .i64 a3, .int .i64 a4, .int .i64 a5, .int .i64 a6, .int .i64 a7, .int .i64 a8, .int .i64 a9, .int .i64 a10]) (by simp [results, Try.results53, go_sem]) rfl ⟨rfl, rfl⟩
theorem toJob_c (x : Job) (w : World) : Calls Try.prog 53 #[.agg #[.int .i64 x.Id, .int .i64 x.Prio, .int .i64 x.Nodes, .int .i64 x.Need.A, .int .i64 x.Need.B, .int .i64 x.Need.C, .int .i64 x.Lic.A, .int .i64 x.Lic.B, .int .i64 x.Lic.C, .int .i64 x.Wall, .int .i64 x.Level]] w (Ret w (.agg #[.int .i64 x.Id, .int .i64 x.Prio, .int .i64 x.Nodes, .int .i64 x.Need.A, .int .i64 x.Need.B, .int .i64 x.Need.C, .int .i64 x.Lic.A, .int .i64 x.Lic.B, .int .i64 x.Lic.C, .int .i64 x.Wall, .int .i64 x.Level])) :=
  (toJob_x _ _ _ _ _ _ _ _ _ _ _ w).mono fun e w' ⟨h, hw⟩ => ⟨h, by rw [← hw]; repeat (first | exact Ext.refl _ | apply Ext.alloc)⟩

set_option maxHeartbeats 2000000 in
theorem eqJob_c (x y : Job) (w : World) : Calls Try.prog 56 #[.agg #[.int .i64 x.Id, .int .i64 x.Prio, .int .i64 x.Nodes, .int .i64 x.Need.A, .int .i64 x.Need.B, .int .i64 x.Need.C, .int .i64 x.Lic.A, .int .i64 x.Lic.B, .int .i64 x.Lic.C, .int .i64 x.Wall, .int .i64 x.Level], .agg #[.int .i64 y.Id, .int .i64 y.Prio, .int .i64 y.Nodes, .int .i64 y.Need.A, .int .i64 y.Need.B, .int .i64 y.Need.C, .int .i64 y.Lic.A, .int .i64 y.Lic.B, .int .i64 y.Lic.C, .int .i64 y.Wall, .int .i64 y.Level]] w (Ret w (.bool (decide (x = y)))) := by
  go_enter Try.func56, Try.ntmps56
  go_wp2
  all_goals refine ret_bool rfl rfl rfl ?_ (by repeat (first | exact Ext.refl _ | apply Ext.alloc))
  all_goals (symm; (try go_light); (try simp only [bne_iff_ne, ne_eq, bne_eq_false_iff_eq] at *); first | (rw [decide_eq_false_iff_not]; rintro rfl; simp_all; done) | (rw [decide_eq_false_iff_not, Job.eq_iff]; simp_all [Vec.eq_iff]; done) | (rw [decide_eq_true_iff, Job.eq_iff]; simp_all [Vec.eq_iff]; done))

set_option maxHeartbeats 1000000 in
theorem toQuota_x (a0 : ByteArray) (a1 : Int) (a2 : Int) (a3 : Int) (a4 : Int) (a5 : Int) (w : World) : Calls Try.prog 36 #[.agg #[.string a0, .int .i64 a1, .int .i64 a2, .int .i64 a3, .int .i64 a4, .int .i64 a5]] w fun e w' => e = .returned (.agg #[.string a0, .int .i64 a1, .int .i64 a2, .int .i64 a3, .int .i64 a4, .int .i64 a5]) ∧
    ((((((w.alloc (.cells #[.string a0, .int .i64 a1, .int .i64 a2, .int .i64 a3, .int .i64 a4, .int .i64 a5] 62)).alloc (.cells #[.string a0, .int .i64 a1, .int .i64 a2, .int .i64 a3, .int .i64 a4, .int .i64 a5] 64)).alloc (.cells #[.string a0, .int .i64 a1, .int .i64 a2, .int .i64 a3, .int .i64 a4, .int .i64 a5] 64)).alloc (.cells #[.int .i64 a3, .int .i64 a4, .int .i64 a5] 47)).alloc (.cells #[.int .i64 a3, .int .i64 a4, .int .i64 a5] 37)).alloc (.cells #[.int .i64 a3, .int .i64 a4, .int .i64 a5] 37)) = w' := by
  go_enter Try.func36, Try.ntmps36
  go_wp2_with (first | (go_at_call 54; refine (toVec_x _ _ _ _).mono ?_; rintro e w1 ⟨rfl, rfl⟩))
  exact bodyPost_ret (v := .agg #[.string a0, .int .i64 a1, .int .i64 a2, .int .i64 a3, .int .i64 a4, .int .i64 a5]) (by simp [results, Try.results36, go_sem]) rfl ⟨rfl, rfl⟩
theorem toQuota_c (x : Quota) (w : World) : Calls Try.prog 36 #[.agg #[.string x.Name, .int .i64 x.Jobs, .int .i64 x.Nodes, .int .i64 x.Res.A, .int .i64 x.Res.B, .int .i64 x.Res.C]] w (Ret w (.agg #[.string x.Name, .int .i64 x.Jobs, .int .i64 x.Nodes, .int .i64 x.Res.A, .int .i64 x.Res.B, .int .i64 x.Res.C])) :=
  (toQuota_x _ _ _ _ _ _ w).mono fun e w' ⟨h, hw⟩ => ⟨h, by rw [← hw]; repeat (first | exact Ext.refl _ | apply Ext.alloc)⟩

set_option maxHeartbeats 2000000 in
theorem eqQuota_c (x y : Quota) (w : World) : Calls Try.prog 40 #[.agg #[.string x.Name, .int .i64 x.Jobs, .int .i64 x.Nodes, .int .i64 x.Res.A, .int .i64 x.Res.B, .int .i64 x.Res.C], .agg #[.string y.Name, .int .i64 y.Jobs, .int .i64 y.Nodes, .int .i64 y.Res.A, .int .i64 y.Res.B, .int .i64 y.Res.C]] w (Ret w (.bool (decide (x = y)))) := by
  go_enter Try.func40, Try.ntmps40
  go_wp2
  all_goals refine ret_bool rfl rfl rfl ?_ (by repeat (first | exact Ext.refl _ | apply Ext.alloc))
  all_goals (symm; (try go_light); (try simp only [bne_iff_ne, ne_eq, bne_eq_false_iff_eq] at *); first | (rw [decide_eq_false_iff_not]; rintro rfl; simp_all; done) | (rw [decide_eq_false_iff_not, Quota.eq_iff]; simp_all [Vec.eq_iff]; done) | (rw [decide_eq_true_iff, Quota.eq_iff]; simp_all [Vec.eq_iff, bytes_inj]; done))

set_option maxHeartbeats 1000000 in
theorem toHold_x (a0 : ByteArray) (a1 : Int) (a2 : Int) (a3 : Int) (a4 : Int) (a5 : Int) (a6 : Int) (a7 : Int) (a8 : Int) (a9 : Int) (a10 : Int) (a11 : Int) (w : World) : Calls Try.prog 30 #[.agg #[.string a0, .int .i64 a1, .int .i64 a2, .int .i64 a3, .int .i64 a4, .int .i64 a5, .int .i64 a6, .int .i64 a7, .int .i64 a8, .int .i64 a9, .int .i64 a10, .int .i64 a11]] w fun e w' => e = .returned (.agg #[.string a0, .int .i64 a1, .int .i64 a2, .int .i64 a3, .int .i64 a4, .int .i64 a5, .int .i64 a6, .int .i64 a7, .int .i64 a8, .int .i64 a9, .int .i64 a10, .int .i64 a11]) ∧
    ((((((((((((w.alloc (.cells #[.string a0, .int .i64 a1, .int .i64 a2, .int .i64 a3, .int .i64 a4, .int .i64 a5, .int .i64 a6, .int .i64 a7, .int .i64 a8, .int .i64 a9, .int .i64 a10, .int .i64 a11] 51)).alloc (.cells #[.string a0, .int .i64 a1, .int .i64 a2, .int .i64 a3, .int .i64 a4, .int .i64 a5, .int .i64 a6, .int .i64 a7, .int .i64 a8, .int .i64 a9, .int .i64 a10, .int .i64 a11] 57)).alloc (.cells #[.string a0, .int .i64 a1, .int .i64 a2, .int .i64 a3, .int .i64 a4, .int .i64 a5, .int .i64 a6, .int .i64 a7, .int .i64 a8, .int .i64 a9, .int .i64 a10, .int .i64 a11] 57)).alloc (.cells #[.int .i64 a1, .int .i64 a2, .int .i64 a3, .int .i64 a4, .int .i64 a5, .int .i64 a6, .int .i64 a7, .int .i64 a8, .int .i64 a9, .int .i64 a10, .int .i64 a11] 49)).alloc (.cells #[.int .i64 a1, .int .i64 a2, .int .i64 a3, .int .i64 a4, .int .i64 a5, .int .i64 a6, .int .i64 a7, .int .i64 a8, .int .i64 a9, .int .i64 a10, .int .i64 a11] 55)).alloc (.cells #[.int .i64 a1, .int .i64 a2, .int .i64 a3, .int .i64 a4, .int .i64 a5, .int .i64 a6, .int .i64 a7, .int .i64 a8, .int .i64 a9, .int .i64 a10, .int .i64 a11] 55)).alloc (.cells #[.int .i64 a4, .int .i64 a5, .int .i64 a6] 47)).alloc (.cells #[.int .i64 a4, .int .i64 a5, .int .i64 a6] 37)).alloc (.cells #[.int .i64 a4, .int .i64 a5, .int .i64 a6] 37)).alloc (.cells #[.int .i64 a7, .int .i64 a8, .int .i64 a9] 47)).alloc (.cells #[.int .i64 a7, .int .i64 a8, .int .i64 a9] 37)).alloc (.cells #[.int .i64 a7, .int .i64 a8, .int .i64 a9] 37)) = w' := by
  go_enter Try.func30, Try.ntmps30
  go_wp2_with (first | (go_at_call 53; refine (toJob_x _ _ _ _ _ _ _ _ _ _ _ _).mono ?_; rintro e w1 ⟨rfl, rfl⟩))
  exact bodyPost_ret (v := .agg #[.string a0, .int .i64 a1, .int .i64 a2, .int .i64 a3, .int .i64 a4, .int .i64 a5, .int .i64 a6, .int .i64 a7, .int .i64 a8, .int .i64 a9, .int .i64 a10, .int .i64 a11]) (by simp [results, Try.results30, go_sem]) rfl ⟨rfl, rfl⟩
theorem toHold_c (x : Hold) (w : World) : Calls Try.prog 30 #[.agg #[.string x.Name, .int .i64 x.Job.Id, .int .i64 x.Job.Prio, .int .i64 x.Job.Nodes, .int .i64 x.Job.Need.A, .int .i64 x.Job.Need.B, .int .i64 x.Job.Need.C, .int .i64 x.Job.Lic.A, .int .i64 x.Job.Lic.B, .int .i64 x.Job.Lic.C, .int .i64 x.Job.Wall, .int .i64 x.Job.Level]] w (Ret w (.agg #[.string x.Name, .int .i64 x.Job.Id, .int .i64 x.Job.Prio, .int .i64 x.Job.Nodes, .int .i64 x.Job.Need.A, .int .i64 x.Job.Need.B, .int .i64 x.Job.Need.C, .int .i64 x.Job.Lic.A, .int .i64 x.Job.Lic.B, .int .i64 x.Job.Lic.C, .int .i64 x.Job.Wall, .int .i64 x.Job.Level])) :=
  (toHold_x _ _ _ _ _ _ _ _ _ _ _ _ w).mono fun e w' ⟨h, hw⟩ => ⟨h, by rw [← hw]; repeat (first | exact Ext.refl _ | apply Ext.alloc)⟩

set_option maxHeartbeats 2000000 in
theorem eqHold_c (x y : Hold) (w : World) : Calls Try.prog 45 #[.agg #[.string x.Name, .int .i64 x.Job.Id, .int .i64 x.Job.Prio, .int .i64 x.Job.Nodes, .int .i64 x.Job.Need.A, .int .i64 x.Job.Need.B, .int .i64 x.Job.Need.C, .int .i64 x.Job.Lic.A, .int .i64 x.Job.Lic.B, .int .i64 x.Job.Lic.C, .int .i64 x.Job.Wall, .int .i64 x.Job.Level], .agg #[.string y.Name, .int .i64 y.Job.Id, .int .i64 y.Job.Prio, .int .i64 y.Job.Nodes, .int .i64 y.Job.Need.A, .int .i64 y.Job.Need.B, .int .i64 y.Job.Need.C, .int .i64 y.Job.Lic.A, .int .i64 y.Job.Lic.B, .int .i64 y.Job.Lic.C, .int .i64 y.Job.Wall, .int .i64 y.Job.Level]] w (Ret w (.bool (decide (x = y)))) := by
  go_enter Try.func45, Try.ntmps45
  go_wp2
  all_goals refine ret_bool rfl rfl rfl ?_ (by repeat (first | exact Ext.refl _ | apply Ext.alloc))
  all_goals (symm; (try go_light); (try simp only [bne_iff_ne, ne_eq, bne_eq_false_iff_eq] at *); first | (rw [decide_eq_false_iff_not]; rintro rfl; simp_all; done) | (rw [decide_eq_false_iff_not, Hold.eq_iff]; simp_all [Job.eq_iff, Vec.eq_iff]; done) | (rw [decide_eq_true_iff, Hold.eq_iff]; simp_all [Job.eq_iff, Vec.eq_iff, bytes_inj]; done))

set_option maxHeartbeats 2000000 in
theorem toQuotaS_c (xs : List Quota) (A : Option Addr) (n c : Nat) (w : World) (h : SlAt RQuota 6 w A n xs) (hn : n ≤ 1048576) :
    Calls Try.prog 11 #[.slice A n c] w (RetOwn RQuota 64 6 w xs) := by
  obtain ⟨i0, hi, hz0, hz1, hz2⟩ := info_parts (show (Try.prog.info? 64).map (fun i => (i.zero, i.size, i.bytes)) = some (some (.agg #[.string ByteArray.empty, .int .i64 0, .int .i64 0, .int .i64 0, .int .i64 0, .int .i64 0]), 6, 56) by kernel_rfl)
  go_enter Try.func11, Try.ntmps11
  go_wp2_with (at_make; refine wpList_make_full _ rfl _ _ 25 rfl w.heap.size 64 i0 _ 6 Try.underlying25 hi hz0 hz1 .i64 .i64 n n n rfl rfl rfl rfl (by rw [hz2]; omega) (by unfold maxLen; omega) (Nat.le_refl _) ?_; intro w1 hown hg; have hb1 : Ext w w1 := Below.grown (Below.refl _ _) hg (Nat.le_refl _) (by simp))
  clear hg hi hz0 hz1 hz2
  go_loopw [4] (fun i wr => ∃ (k : Nat) (L : List Value), k ≤ n ∧ i = .int .i64 k ∧ wr.ownsRow w.heap.size 64 6 (.slice (some ⟨w.heap.size, 0, none⟩) n n) n L ∧ L.take (k * 6) = (xs.take k).flatMap Quota.enc ∧ Ext w wr) (fun i _ => n - (intOf i).toNat)
  case atStart => exact ⟨0, _, Nat.zero_le _, rfl, hown, by simp, hb1⟩
  case round =>
    obtain ⟨k, L, hk, rfl, hownr, hL, hb⟩ := hrel
    clear hown hb1
    by_cases hlt : k < n
    · obtain ⟨b, o, x, cs, rfl, hbw, hx, _, hc, rfl, hok⟩ := (h.ext (Flat.mono _ _) hb).at_ hlt
      have c0 := hc 0 _ rfl
      have c1 := hc 1 _ rfl
      have c2 := hc 2 _ rfl
      have c3 := hc 3 _ rfl
      have c4 := hc 4 _ rfl
      have c5 := hc 5 _ rfl
      simp only [Nat.add_zero] at c0
      have HL := Lib.hid hL; have HX := Lib.hid hx; have HO := Lib.hid hownr
      clear hc hL hx hownr h
      go_wp2_with ((go_at_call 36; refine (toQuota_c x _).mono ?_; rintro e w2 ⟨rfl, hb2⟩; obtain ⟨y0, hy0⟩ := owns_cell (owns_ext HO.out hb2) (j := k * 6) (by omega); obtain ⟨y1, hy1⟩ := owns_cell (owns_ext HO.out hb2) (j := k * 6 + 1) (by omega); obtain ⟨y2, hy2⟩ := owns_cell (owns_ext HO.out hb2) (j := k * 6 + 2) (by omega); obtain ⟨y3, hy3⟩ := owns_cell (owns_ext HO.out hb2) (j := k * 6 + 3) (by omega); obtain ⟨y4, hy4⟩ := owns_cell (owns_ext HO.out hb2) (j := k * 6 + 4) (by omega); obtain ⟨y5, hy5⟩ := owns_cell (owns_ext HO.out hb2) (j := k * 6 + 5) (by omega); have z0 := (owns_ext HO.out hb2).frozenAt (k * 6); have z1 := (owns_ext HO.out hb2).frozenAt (k * 6 + 1); have z2 := (owns_ext HO.out hb2).frozenAt (k * 6 + 2); have z3 := (owns_ext HO.out hb2).frozenAt (k * 6 + 3); have z4 := (owns_ext HO.out hb2).frozenAt (k * 6 + 4); have z5 := (owns_ext HO.out hb2).frozenAt (k * 6 + 5)))
      go_roundw
      case rel => exact ⟨k + 1, setAll L (k * 6) (Quota.enc x), by omega, by go_num, owns_puts (Quota.enc x) _ _ _ (owns_ext HO.out hb2), flat_step HL.out HO.out.1 hlt HX.out (Quota.size x), Ext.puts (Quota.enc x) _ _ (hb.trans hb2) (Nat.le_refl _)⟩
      case measure => simp [intOf]; omega
    · have hkn : k = n := by omega
      have HO := Lib.hid hownr
      have HL := Lib.hid hL
      clear hownr hL
      go_wp2
      exact ret_own rfl h.len HO.out HL.out Quota.size h.all hkn hb

set_option maxHeartbeats 2000000 in
theorem eqQuotaS_c (xs ys : List Quota) (A A' : Option Addr) (n c n' c' : Nat) (w : World) (h1 : SlAt RQuota 6 w A n xs) (h2 : SlAt RQuota 6 w A' n' ys) (hl : n ≤ maxLen) :
    Calls Try.prog 13 #[.slice A n c, .slice A' n' c'] w (Ret w (.bool (decide (xs = ys)))) := by
  unfold maxLen at hl
  have hn := h1.len
  have hn' := h2.len
  go_enter Try.func13, Try.ntmps13
  by_cases hlen : n = n'
  · subst hlen
    have HN := Lib.hid hn; have HN' := Lib.hid hn'; clear hn hn'
    go_wp2
    go_loopw [5] (fun i wr => ∃ k : Nat, k ≤ n ∧ i = .int .i64 k ∧ decide (xs = ys) = decide (xs.drop k = ys.drop k) ∧ Ext w wr) (fun i _ => n - (intOf i).toNat)
    case atStart => exact ⟨0, Nat.zero_le _, rfl, rfl, Ext.refl _⟩
    case round =>
      obtain ⟨k, hk, rfl, hE, hb⟩ := hrel
      by_cases hlt : k < n
      · have HE := Lib.hid hE; clear hE
        obtain ⟨b, o, x, cs, rfl, hbw, hx, _, hc, rfl, _⟩ := (h1.ext (Flat.mono _ _) hb).at_ hlt
        obtain ⟨b', o', y, cs, rfl, hbw', hy, _, hc', rfl, _⟩ := (h2.ext (Flat.mono _ _) hb).at_ hlt
        have c0 := hc 0 _ rfl
        have c1 := hc 1 _ rfl
        have c2 := hc 2 _ rfl
        have c3 := hc 3 _ rfl
        have c4 := hc 4 _ rfl
        have c5 := hc 5 _ rfl
        simp only [Nat.add_zero] at c0
        have d0 := hc' 0 _ rfl
        have d1 := hc' 1 _ rfl
        have d2 := hc' 2 _ rfl
        have d3 := hc' 3 _ rfl
        have d4 := hc' 4 _ rfl
        have d5 := hc' 5 _ rfl
        simp only [Nat.add_zero] at d0
        have HX := Lib.hid hx; have HY := Lib.hid hy; have HB := Lib.hid hb
        clear hc hc' h1 h2 hx hy hb
        go_wp2
        have hcx := @Later.cell wr
        rcases Bool.eq_false_or_eq_true (decide (x = y)) with hxy | hxy
        all_goals
          refine wp_region_ext (by kernel_rfl) (by kernel_rfl) ?_
          repeat (go_big_quiet_step ((go_at_call 40; exact Calls.quiet_ext (eqQuota_c x y _))))
          refine wpQuiet_nil ?_
          intro w1 hb1
          have HB1 := Lib.hid hb1
          clear hcx c0 c1 c2 c3 c4 c5 d0 d1 d2 d3 d4 d5 hb1
          go_wp2
        · go_roundw
          case rel => exact ⟨k + 1, by omega, by go_num, by rw [HE.out, drop_cons HX.out, drop_cons HY.out, of_decide_eq_true hxy]; simp, HB.out.trans HB1.out⟩
          case measure => simp [intOf]; omega
        · refine ret_bool rfl rfl rfl ?_ (HB.out.trans HB1.out)
          rw [HE.out, drop_cons HX.out, drop_cons HY.out]; symm; rw [decide_eq_false_iff_not]; intro e; injection e with e _; exact of_decide_eq_false hxy e
      · have HE := Lib.hid hE; clear hE
        go_wp2
        refine ret_bool rfl rfl rfl ?_ hb
        rw [HE.out, List.drop_eq_nil_of_le (by have := HN.out; omega), List.drop_eq_nil_of_le (by have := HN'.out; omega)]; rfl
  · have HN := Lib.hid hn; have HN' := Lib.hid hn'; clear hn hn'
    go_wp2
    refine ret_bool rfl rfl rfl ?_ (Ext.refl _)
    symm; rw [decide_eq_false_iff_not]; rintro rfl; exact hlen (HN.out.symm.trans HN'.out)

set_option maxHeartbeats 1000000 in
theorem szQuota_c (x : Quota) (l : Int) (w : World) (hs : x.Name.size ≤ maxLen) (h0 : 0 ≤ l) (h1 : l ≤ 1048576) : Calls Try.prog 32 #[.agg #[.string x.Name, .int .i64 x.Jobs, .int .i64 x.Nodes, .int .i64 x.Res.A, .int .i64 x.Res.B, .int .i64 x.Res.C], .int .i64 l] w (Ret w (.int .i64 (szOne x.Name.size l))) := by
  unfold maxLen at hs
  go_enter Try.func32, Try.ntmps32
  rcases szOne_cases x.Name.size l with ⟨h, e⟩ | ⟨h, h2, e⟩
  · rw [e]
    have hlt : l - (x.Name.size : Int) < 0 := by unfold szOne at h; split at h <;> omega
    clear e h
    go_wp2
    exact ret_is (by simp [results, Try.results32, go_sem]) rfl (by repeat (first | exact Ext.refl _ | apply Ext.alloc))
  · rw [e]
    have hlt : ¬ l - (x.Name.size : Int) < 0 := by omega
    clear e h
    go_wp2
    exact ret_is (by simp [results, Try.results32, go_sem]) rfl (by repeat (first | exact Ext.refl _ | apply Ext.alloc))
set_option maxHeartbeats 1000000 in
theorem szQuotaS_c (xs : List Quota) (A : Option Addr) (n c : Nat) (left : Int) (w : World) (h : SlAt RQuota 6 w A n xs) (hn : n ≤ maxLen) (hl : left ≤ 1048576) (hl0 : 0 ≤ left) : Calls Try.prog 9 #[.slice A n c, .int .i64 left] w (Ret w (.int .i64 (szSM (fun x => x.Name.size) xs left))) := by
  unfold maxLen at hn
  have HN := Lib.hid h.len
  go_enter Try.func9, Try.ntmps9
  by_cases hb : left - n < 0
  · have E := Lib.hid (show szSM (fun x => x.Name.size) xs left = -1 by unfold szSM; rw [HN.out, if_pos hb])
    go_wp2
    rw [E.out]
    exact ret_is (by simp [results, Try.results9, go_sem]) rfl (Ext.refl _)
  · have E := Lib.hid (show szSM (fun x => x.Name.size) xs left = szStr (fun x => x.Name.size) xs (left - n) by unfold szSM; rw [HN.out, if_neg hb])
    go_wp2
    go_loopw [1, 5] (fun q i wr => ∃ (k : Nat) (l : Int), k ≤ n ∧ i = .int .i64 k ∧ q = .int .i64 l ∧ 0 ≤ l ∧ l ≤ 1048576 ∧ Ext w wr ∧ szStr (fun x => x.Name.size) xs (left - n) = szStr (fun x => x.Name.size) (xs.drop k) l) (fun _ i _ => n - (intOf i).toNat)
    case atStart => exact ⟨0, left - n, Nat.zero_le _, rfl, rfl, by omega, by omega, Ext.refl _, rfl⟩
    case round =>
      obtain ⟨k, l, hk, rfl, rfl, hl1, hl2, hb', hE⟩ := hrel
      have HE := Lib.hid hE; clear hE
      by_cases hlt : k < n
      · obtain ⟨b, o, x, cs, rfl, hbw, hx, _, hc, rfl, hok⟩ := (h.ext (Flat.mono _ _) hb').at_ hlt
        have hsz := hok.1
        clear hok
        have c0 := hc 0 _ rfl
        have c1 := hc 1 _ rfl
        have c2 := hc 2 _ rfl
        have c3 := hc 3 _ rfl
        have c4 := hc 4 _ rfl
        have c5 := hc 5 _ rfl
        simp only [Nat.add_zero] at c0
        have HX := Lib.hid hx
        clear hc hx h
        have HO := Lib.hid (szOne_cases x.Name.size l)
        rcases Bool.eq_false_or_eq_true (decide (szOne x.Name.size l < 0)) with hd | hd
        all_goals
          go_wp2_with ((go_at_call 32; refine (szQuota_c x l _ hsz hl1 hl2).mono ?_; rintro e w1 ⟨rfl, hb1⟩))
        · have hd' := of_decide_eq_true hd
          rw [E.out, HE.out, drop_cons HX.out, szStr, if_pos hd']
          exact ret_is (by simp [results, Try.results9, go_sem]) rfl (hb'.trans hb1)
        · have hd' := of_decide_eq_false hd
          go_roundw
          case rel => exact ⟨k + 1, szOne x.Name.size l, by omega, by go_num, rfl, by omega, by have := HO.out; omega, hb'.trans hb1, by rw [HE.out, drop_cons HX.out, szStr, if_neg hd']⟩
          case measure => simp [intOf]; omega
      · go_wp2
        rw [E.out, HE.out, List.drop_eq_nil_of_le (by have := HN.out; omega), szStr]
        exact ret_is (by simp [results, Try.results9, go_sem]) rfl hb'

set_option maxHeartbeats 2000000 in
theorem toHoldS_c (xs : List Hold) (A : Option Addr) (n c : Nat) (w : World) (h : SlAt RHold 12 w A n xs) (hn : n ≤ 1048576) :
    Calls Try.prog 16 #[.slice A n c] w (RetOwn RHold 57 12 w xs) := by
  obtain ⟨i0, hi, hz0, hz1, hz2⟩ := info_parts (show (Try.prog.info? 57).map (fun i => (i.zero, i.size, i.bytes)) = some (some (.agg #[.string ByteArray.empty, .int .i64 0, .int .i64 0, .int .i64 0, .int .i64 0, .int .i64 0, .int .i64 0, .int .i64 0, .int .i64 0, .int .i64 0, .int .i64 0, .int .i64 0]), 12, 104) by kernel_rfl)
  go_enter Try.func16, Try.ntmps16
  go_wp2_with (at_make; refine wpList_make_full _ rfl _ _ 32 rfl w.heap.size 57 i0 _ 12 Try.underlying32 hi hz0 hz1 .i64 .i64 n n n rfl rfl rfl rfl (by rw [hz2]; omega) (by unfold maxLen; omega) (Nat.le_refl _) ?_; intro w1 hown hg; have hb1 : Ext w w1 := Below.grown (Below.refl _ _) hg (Nat.le_refl _) (by simp))
  clear hg hi hz0 hz1 hz2
  go_loopw [4] (fun i wr => ∃ (k : Nat) (L : List Value), k ≤ n ∧ i = .int .i64 k ∧ wr.ownsRow w.heap.size 57 12 (.slice (some ⟨w.heap.size, 0, none⟩) n n) n L ∧ L.take (k * 12) = (xs.take k).flatMap Hold.enc ∧ Ext w wr) (fun i _ => n - (intOf i).toNat)
  case atStart => exact ⟨0, _, Nat.zero_le _, rfl, hown, by simp, hb1⟩
  case round =>
    obtain ⟨k, L, hk, rfl, hownr, hL, hb⟩ := hrel
    clear hown hb1
    by_cases hlt : k < n
    · obtain ⟨b, o, x, cs, rfl, hbw, hx, _, hc, rfl, hok⟩ := (h.ext (Flat.mono _ _) hb).at_ hlt
      have c0 := hc 0 _ rfl
      have c1 := hc 1 _ rfl
      have c2 := hc 2 _ rfl
      have c3 := hc 3 _ rfl
      have c4 := hc 4 _ rfl
      have c5 := hc 5 _ rfl
      have c6 := hc 6 _ rfl
      have c7 := hc 7 _ rfl
      have c8 := hc 8 _ rfl
      have c9 := hc 9 _ rfl
      have c10 := hc 10 _ rfl
      have c11 := hc 11 _ rfl
      simp only [Nat.add_zero] at c0
      have HL := Lib.hid hL; have HX := Lib.hid hx; have HO := Lib.hid hownr
      clear hc hL hx hownr h
      go_wp2_with ((go_at_call 30; refine (toHold_c x _).mono ?_; rintro e w2 ⟨rfl, hb2⟩; obtain ⟨y0, hy0⟩ := owns_cell (owns_ext HO.out hb2) (j := k * 12) (by omega); obtain ⟨y1, hy1⟩ := owns_cell (owns_ext HO.out hb2) (j := k * 12 + 1) (by omega); obtain ⟨y2, hy2⟩ := owns_cell (owns_ext HO.out hb2) (j := k * 12 + 2) (by omega); obtain ⟨y3, hy3⟩ := owns_cell (owns_ext HO.out hb2) (j := k * 12 + 3) (by omega); obtain ⟨y4, hy4⟩ := owns_cell (owns_ext HO.out hb2) (j := k * 12 + 4) (by omega); obtain ⟨y5, hy5⟩ := owns_cell (owns_ext HO.out hb2) (j := k * 12 + 5) (by omega); obtain ⟨y6, hy6⟩ := owns_cell (owns_ext HO.out hb2) (j := k * 12 + 6) (by omega); obtain ⟨y7, hy7⟩ := owns_cell (owns_ext HO.out hb2) (j := k * 12 + 7) (by omega); obtain ⟨y8, hy8⟩ := owns_cell (owns_ext HO.out hb2) (j := k * 12 + 8) (by omega); obtain ⟨y9, hy9⟩ := owns_cell (owns_ext HO.out hb2) (j := k * 12 + 9) (by omega); obtain ⟨y10, hy10⟩ := owns_cell (owns_ext HO.out hb2) (j := k * 12 + 10) (by omega); obtain ⟨y11, hy11⟩ := owns_cell (owns_ext HO.out hb2) (j := k * 12 + 11) (by omega); have z0 := (owns_ext HO.out hb2).frozenAt (k * 12); have z1 := (owns_ext HO.out hb2).frozenAt (k * 12 + 1); have z2 := (owns_ext HO.out hb2).frozenAt (k * 12 + 2); have z3 := (owns_ext HO.out hb2).frozenAt (k * 12 + 3); have z4 := (owns_ext HO.out hb2).frozenAt (k * 12 + 4); have z5 := (owns_ext HO.out hb2).frozenAt (k * 12 + 5); have z6 := (owns_ext HO.out hb2).frozenAt (k * 12 + 6); have z7 := (owns_ext HO.out hb2).frozenAt (k * 12 + 7); have z8 := (owns_ext HO.out hb2).frozenAt (k * 12 + 8); have z9 := (owns_ext HO.out hb2).frozenAt (k * 12 + 9); have z10 := (owns_ext HO.out hb2).frozenAt (k * 12 + 10); have z11 := (owns_ext HO.out hb2).frozenAt (k * 12 + 11)))
      go_roundw
      case rel => exact ⟨k + 1, setAll L (k * 12) (Hold.enc x), by omega, by go_num, owns_puts (Hold.enc x) _ _ _ (owns_ext HO.out hb2), flat_step HL.out HO.out.1 hlt HX.out (Hold.size x), Ext.puts (Hold.enc x) _ _ (hb.trans hb2) (Nat.le_refl _)⟩
      case measure => simp [intOf]; omega
    · have hkn : k = n := by omega
      have HO := Lib.hid hownr
      have HL := Lib.hid hL
      clear hownr hL
      go_wp2
      exact ret_own rfl h.len HO.out HL.out Hold.size h.all hkn hb

set_option maxHeartbeats 2000000 in
theorem eqHoldS_c (xs ys : List Hold) (A A' : Option Addr) (n c n' c' : Nat) (w : World) (h1 : SlAt RHold 12 w A n xs) (h2 : SlAt RHold 12 w A' n' ys) (hl : n ≤ maxLen) :
    Calls Try.prog 18 #[.slice A n c, .slice A' n' c'] w (Ret w (.bool (decide (xs = ys)))) := by
  unfold maxLen at hl
  have hn := h1.len
  have hn' := h2.len
  go_enter Try.func18, Try.ntmps18
  by_cases hlen : n = n'
  · subst hlen
    have HN := Lib.hid hn; have HN' := Lib.hid hn'; clear hn hn'
    go_wp2
    go_loopw [5] (fun i wr => ∃ k : Nat, k ≤ n ∧ i = .int .i64 k ∧ decide (xs = ys) = decide (xs.drop k = ys.drop k) ∧ Ext w wr) (fun i _ => n - (intOf i).toNat)
    case atStart => exact ⟨0, Nat.zero_le _, rfl, rfl, Ext.refl _⟩
    case round =>
      obtain ⟨k, hk, rfl, hE, hb⟩ := hrel
      by_cases hlt : k < n
      · have HE := Lib.hid hE; clear hE
        obtain ⟨b, o, x, cs, rfl, hbw, hx, _, hc, rfl, _⟩ := (h1.ext (Flat.mono _ _) hb).at_ hlt
        obtain ⟨b', o', y, cs, rfl, hbw', hy, _, hc', rfl, _⟩ := (h2.ext (Flat.mono _ _) hb).at_ hlt
        have c0 := hc 0 _ rfl
        have c1 := hc 1 _ rfl
        have c2 := hc 2 _ rfl
        have c3 := hc 3 _ rfl
        have c4 := hc 4 _ rfl
        have c5 := hc 5 _ rfl
        have c6 := hc 6 _ rfl
        have c7 := hc 7 _ rfl
        have c8 := hc 8 _ rfl
        have c9 := hc 9 _ rfl
        have c10 := hc 10 _ rfl
        have c11 := hc 11 _ rfl
        simp only [Nat.add_zero] at c0
        have d0 := hc' 0 _ rfl
        have d1 := hc' 1 _ rfl
        have d2 := hc' 2 _ rfl
        have d3 := hc' 3 _ rfl
        have d4 := hc' 4 _ rfl
        have d5 := hc' 5 _ rfl
        have d6 := hc' 6 _ rfl
        have d7 := hc' 7 _ rfl
        have d8 := hc' 8 _ rfl
        have d9 := hc' 9 _ rfl
        have d10 := hc' 10 _ rfl
        have d11 := hc' 11 _ rfl
        simp only [Nat.add_zero] at d0
        have HX := Lib.hid hx; have HY := Lib.hid hy; have HB := Lib.hid hb
        clear hc hc' h1 h2 hx hy hb
        go_wp2
        have hcx := @Later.cell wr
        rcases Bool.eq_false_or_eq_true (decide (x = y)) with hxy | hxy
        all_goals
          refine wp_region_ext (by kernel_rfl) (by kernel_rfl) ?_
          repeat (go_big_quiet_step ((go_at_call 45; exact Calls.quiet_ext (eqHold_c x y _))))
          refine wpQuiet_nil ?_
          intro w1 hb1
          have HB1 := Lib.hid hb1
          clear hcx c0 c1 c2 c3 c4 c5 c6 c7 c8 c9 c10 c11 d0 d1 d2 d3 d4 d5 d6 d7 d8 d9 d10 d11 hb1
          go_wp2
        · go_roundw
          case rel => exact ⟨k + 1, by omega, by go_num, by rw [HE.out, drop_cons HX.out, drop_cons HY.out, of_decide_eq_true hxy]; simp, HB.out.trans HB1.out⟩
          case measure => simp [intOf]; omega
        · refine ret_bool rfl rfl rfl ?_ (HB.out.trans HB1.out)
          rw [HE.out, drop_cons HX.out, drop_cons HY.out]; symm; rw [decide_eq_false_iff_not]; intro e; injection e with e _; exact of_decide_eq_false hxy e
      · have HE := Lib.hid hE; clear hE
        go_wp2
        refine ret_bool rfl rfl rfl ?_ hb
        rw [HE.out, List.drop_eq_nil_of_le (by have := HN.out; omega), List.drop_eq_nil_of_le (by have := HN'.out; omega)]; rfl
  · have HN := Lib.hid hn; have HN' := Lib.hid hn'; clear hn hn'
    go_wp2
    refine ret_bool rfl rfl rfl ?_ (Ext.refl _)
    symm; rw [decide_eq_false_iff_not]; rintro rfl; exact hlen (HN.out.symm.trans HN'.out)

set_option maxHeartbeats 1000000 in
theorem szHold_c (x : Hold) (l : Int) (w : World) (hs : x.Name.size ≤ maxLen) (h0 : 0 ≤ l) (h1 : l ≤ 1048576) : Calls Try.prog 28 #[.agg #[.string x.Name, .int .i64 x.Job.Id, .int .i64 x.Job.Prio, .int .i64 x.Job.Nodes, .int .i64 x.Job.Need.A, .int .i64 x.Job.Need.B, .int .i64 x.Job.Need.C, .int .i64 x.Job.Lic.A, .int .i64 x.Job.Lic.B, .int .i64 x.Job.Lic.C, .int .i64 x.Job.Wall, .int .i64 x.Job.Level], .int .i64 l] w (Ret w (.int .i64 (szOne x.Name.size l))) := by
  unfold maxLen at hs
  go_enter Try.func28, Try.ntmps28
  rcases szOne_cases x.Name.size l with ⟨h, e⟩ | ⟨h, h2, e⟩
  · rw [e]
    have hlt : l - (x.Name.size : Int) < 0 := by unfold szOne at h; split at h <;> omega
    clear e h
    go_wp2
    exact ret_is (by simp [results, Try.results28, go_sem]) rfl (by repeat (first | exact Ext.refl _ | apply Ext.alloc))
  · rw [e]
    have hlt : ¬ l - (x.Name.size : Int) < 0 := by omega
    clear e h
    go_wp2
    exact ret_is (by simp [results, Try.results28, go_sem]) rfl (by repeat (first | exact Ext.refl _ | apply Ext.alloc))
set_option maxHeartbeats 1000000 in
theorem szHoldS_c (xs : List Hold) (A : Option Addr) (n c : Nat) (left : Int) (w : World) (h : SlAt RHold 12 w A n xs) (hn : n ≤ maxLen) (hl : left ≤ 1048576) (hl0 : 0 ≤ left) : Calls Try.prog 14 #[.slice A n c, .int .i64 left] w (Ret w (.int .i64 (szSM (fun x => x.Name.size) xs left))) := by
  unfold maxLen at hn
  have HN := Lib.hid h.len
  go_enter Try.func14, Try.ntmps14
  by_cases hb : left - n < 0
  · have E := Lib.hid (show szSM (fun x => x.Name.size) xs left = -1 by unfold szSM; rw [HN.out, if_pos hb])
    go_wp2
    rw [E.out]
    exact ret_is (by simp [results, Try.results14, go_sem]) rfl (Ext.refl _)
  · have E := Lib.hid (show szSM (fun x => x.Name.size) xs left = szStr (fun x => x.Name.size) xs (left - n) by unfold szSM; rw [HN.out, if_neg hb])
    go_wp2
    go_loopw [1, 5] (fun q i wr => ∃ (k : Nat) (l : Int), k ≤ n ∧ i = .int .i64 k ∧ q = .int .i64 l ∧ 0 ≤ l ∧ l ≤ 1048576 ∧ Ext w wr ∧ szStr (fun x => x.Name.size) xs (left - n) = szStr (fun x => x.Name.size) (xs.drop k) l) (fun _ i _ => n - (intOf i).toNat)
    case atStart => exact ⟨0, left - n, Nat.zero_le _, rfl, rfl, by omega, by omega, Ext.refl _, rfl⟩
    case round =>
      obtain ⟨k, l, hk, rfl, rfl, hl1, hl2, hb', hE⟩ := hrel
      have HE := Lib.hid hE; clear hE
      by_cases hlt : k < n
      · obtain ⟨b, o, x, cs, rfl, hbw, hx, _, hc, rfl, hok⟩ := (h.ext (Flat.mono _ _) hb').at_ hlt
        have hsz := hok.1
        clear hok
        have c0 := hc 0 _ rfl
        have c1 := hc 1 _ rfl
        have c2 := hc 2 _ rfl
        have c3 := hc 3 _ rfl
        have c4 := hc 4 _ rfl
        have c5 := hc 5 _ rfl
        have c6 := hc 6 _ rfl
        have c7 := hc 7 _ rfl
        have c8 := hc 8 _ rfl
        have c9 := hc 9 _ rfl
        have c10 := hc 10 _ rfl
        have c11 := hc 11 _ rfl
        simp only [Nat.add_zero] at c0
        have HX := Lib.hid hx
        clear hc hx h
        have HO := Lib.hid (szOne_cases x.Name.size l)
        rcases Bool.eq_false_or_eq_true (decide (szOne x.Name.size l < 0)) with hd | hd
        all_goals
          go_wp2_with ((go_at_call 28; refine (szHold_c x l _ hsz hl1 hl2).mono ?_; rintro e w1 ⟨rfl, hb1⟩))
        · have hd' := of_decide_eq_true hd
          rw [E.out, HE.out, drop_cons HX.out, szStr, if_pos hd']
          exact ret_is (by simp [results, Try.results14, go_sem]) rfl (hb'.trans hb1)
        · have hd' := of_decide_eq_false hd
          go_roundw
          case rel => exact ⟨k + 1, szOne x.Name.size l, by omega, by go_num, rfl, by omega, by have := HO.out; omega, hb'.trans hb1, by rw [HE.out, drop_cons HX.out, szStr, if_neg hd']⟩
          case measure => simp [intOf]; omega
      · go_wp2
        rw [E.out, HE.out, List.drop_eq_nil_of_le (by have := HN.out; omega), szStr]
        exact ret_is (by simp [results, Try.results14, go_sem]) rfl hb'

end Go.Proofs.Ytmnghgacglppeaa
