/- Contracts of the laws' own helpers. Written by gen.py. -/
import Derived.Test.YtfcffcgdbmkfgaaGreatRows
import Derived.Test.YtfcffcgdbmkfgaaGreatData
import Derived.Deep.Light
namespace Go.Proofs.YtfcffcgdbmkfgaaGreat
open Go.RowKit

set_option maxHeartbeats 1000000 in
theorem toVec_x (a0 : Int) (a1 : Int) (a2 : Int) (w : World) : Calls Tryz.prog 28 #[.agg #[.int .i64 a0, .int .i64 a1, .int .i64 a2]] w fun e w' => e = .returned (.agg #[.int .i64 a0, .int .i64 a1, .int .i64 a2]) ∧
    (((w.alloc (.cells #[.int .i64 a0, .int .i64 a1, .int .i64 a2] 28)).alloc (.cells #[.int .i64 a0, .int .i64 a1, .int .i64 a2] 39)).alloc (.cells #[.int .i64 a0, .int .i64 a1, .int .i64 a2] 39)) = w' := by
  go_enter Tryz.func28, Tryz.ntmps28
  go_wp2
  exact bodyPost_ret (v := .agg #[.int .i64 a0, .int .i64 a1, .int .i64 a2]) (by simp [results, Tryz.results28, go_sem]) rfl ⟨rfl, rfl⟩
theorem toVec_c (x : Vec) (w : World) : Calls Tryz.prog 28 #[.agg #[.int .i64 x.A, .int .i64 x.B, .int .i64 x.C]] w (Ret w (.agg #[.int .i64 x.A, .int .i64 x.B, .int .i64 x.C])) :=
  (toVec_x _ _ _ w).mono fun e w' ⟨h, hw⟩ => ⟨h, by rw [← hw]; repeat (first | exact Ext.refl _ | apply Ext.alloc)⟩

set_option maxHeartbeats 1000000 in
theorem eqVec_c (x y : Vec) (w : World) : Calls Tryz.prog 35 #[.agg #[.int .i64 x.A, .int .i64 x.B, .int .i64 x.C], .agg #[.int .i64 y.A, .int .i64 y.B, .int .i64 y.C]] w (Ret w (.bool (decide (x = y)))) := by
  go_enter Tryz.func35, Tryz.ntmps35
  go_wp2
  all_goals refine ret_bool rfl rfl rfl ?_ (by repeat (first | exact Ext.refl _ | apply Ext.alloc))
  all_goals (symm; (try simp only [bne_iff_ne, ne_eq, bne_eq_false_iff_eq] at *); first | (rw [decide_eq_false_iff_not, Vec.eq_iff]; simp_all; done) | (rw [decide_eq_false_iff_not, Vec.eq_iff]; intro hh; simp_all; done) | (rw [decide_eq_true_iff, Vec.eq_iff]; simp_all; done))

set_option maxHeartbeats 1000000 in
theorem toJob_x (a0 : Int) (a1 : Int) (a2 : Int) (a3 : Int) (a4 : Int) (a5 : Int) (a6 : Int) (a7 : Int) (a8 : Int) (a9 : Int) (a10 : Int) (w : World) : Calls Tryz.prog 59 #[.agg #[.int .i64 a0, .int .i64 a1, .int .i64 a2, .int .i64 a3, .int .i64 a4, .int .i64 a5, .int .i64 a6, .int .i64 a7, .int .i64 a8, .int .i64 a9, .int .i64 a10]] w fun e w' => e = .returned (.agg #[.int .i64 a0, .int .i64 a1, .int .i64 a2, .int .i64 a3, .int .i64 a4, .int .i64 a5, .int .i64 a6, .int .i64 a7, .int .i64 a8, .int .i64 a9, .int .i64 a10]) ∧
    (((((((((w.alloc (.cells #[.int .i64 a0, .int .i64 a1, .int .i64 a2, .int .i64 a3, .int .i64 a4, .int .i64 a5, .int .i64 a6, .int .i64 a7, .int .i64 a8, .int .i64 a9, .int .i64 a10] 90)).alloc (.cells #[.int .i64 a0, .int .i64 a1, .int .i64 a2, .int .i64 a3, .int .i64 a4, .int .i64 a5, .int .i64 a6, .int .i64 a7, .int .i64 a8, .int .i64 a9, .int .i64 a10] 62)).alloc (.cells #[.int .i64 a0, .int .i64 a1, .int .i64 a2, .int .i64 a3, .int .i64 a4, .int .i64 a5, .int .i64 a6, .int .i64 a7, .int .i64 a8, .int .i64 a9, .int .i64 a10] 62)).alloc (.cells #[.int .i64 a3, .int .i64 a4, .int .i64 a5] 28)).alloc (.cells #[.int .i64 a3, .int .i64 a4, .int .i64 a5] 39)).alloc (.cells #[.int .i64 a3, .int .i64 a4, .int .i64 a5] 39)).alloc (.cells #[.int .i64 a6, .int .i64 a7, .int .i64 a8] 28)).alloc (.cells #[.int .i64 a6, .int .i64 a7, .int .i64 a8] 39)).alloc (.cells #[.int .i64 a6, .int .i64 a7, .int .i64 a8] 39)) = w' := by
  go_enter Tryz.func59, Tryz.ntmps59
  go_wp2_with (first | (go_at_call 28; refine (toVec_x _ _ _ _).mono ?_; rintro e w1 ⟨rfl, rfl⟩))
  exact bodyPost_ret (v := .agg #[.int .i64 a0, .int .i64 a1, .int .i64 a2, .int .i64 a3, .int .i64 a4, .int .i64 a5, .int .i64 a6, .int .i64 a7, .int .i64 a8, .int .i64 a9, .int .i64 a10]) (by simp [results, Tryz.results59, go_sem]) rfl ⟨rfl, rfl⟩
theorem toJob_c (x : Job) (w : World) : Calls Tryz.prog 59 #[.agg #[.int .i64 x.Id, .int .i64 x.Prio, .int .i64 x.Nodes, .int .i64 x.Need.A, .int .i64 x.Need.B, .int .i64 x.Need.C, .int .i64 x.Lic.A, .int .i64 x.Lic.B, .int .i64 x.Lic.C, .int .i64 x.Wall, .int .i64 x.Level]] w (Ret w (.agg #[.int .i64 x.Id, .int .i64 x.Prio, .int .i64 x.Nodes, .int .i64 x.Need.A, .int .i64 x.Need.B, .int .i64 x.Need.C, .int .i64 x.Lic.A, .int .i64 x.Lic.B, .int .i64 x.Lic.C, .int .i64 x.Wall, .int .i64 x.Level])) :=
  (toJob_x _ _ _ _ _ _ _ _ _ _ _ w).mono fun e w' ⟨h, hw⟩ => ⟨h, by rw [← hw]; repeat (first | exact Ext.refl _ | apply Ext.alloc)⟩

set_option maxHeartbeats 2000000 in
theorem eqJob_c (x y : Job) (w : World) : Calls Tryz.prog 69 #[.agg #[.int .i64 x.Id, .int .i64 x.Prio, .int .i64 x.Nodes, .int .i64 x.Need.A, .int .i64 x.Need.B, .int .i64 x.Need.C, .int .i64 x.Lic.A, .int .i64 x.Lic.B, .int .i64 x.Lic.C, .int .i64 x.Wall, .int .i64 x.Level], .agg #[.int .i64 y.Id, .int .i64 y.Prio, .int .i64 y.Nodes, .int .i64 y.Need.A, .int .i64 y.Need.B, .int .i64 y.Need.C, .int .i64 y.Lic.A, .int .i64 y.Lic.B, .int .i64 y.Lic.C, .int .i64 y.Wall, .int .i64 y.Level]] w (Ret w (.bool (decide (x = y)))) := by
  go_enter Tryz.func69, Tryz.ntmps69
  go_wp2
  all_goals refine ret_bool rfl rfl rfl ?_ (by repeat (first | exact Ext.refl _ | apply Ext.alloc))
  all_goals (symm; (try go_light); (try simp only [bne_iff_ne, ne_eq, bne_eq_false_iff_eq] at *); first | (rw [decide_eq_false_iff_not]; rintro rfl; simp_all; done) | (rw [decide_eq_false_iff_not, Job.eq_iff]; simp_all [Vec.eq_iff]; done) | (rw [decide_eq_true_iff, Job.eq_iff]; simp_all [Vec.eq_iff]; done))

set_option maxHeartbeats 1000000 in
theorem toNode_x (a0 : Int) (a1 : Int) (a2 : Int) (a3 : Int) (w : World) : Calls Tryz.prog 83 #[.agg #[.int .i64 a0, .int .i64 a1, .int .i64 a2, .int .i64 a3]] w fun e w' => e = .returned (.agg #[.int .i64 a0, .int .i64 a1, .int .i64 a2, .int .i64 a3]) ∧
    ((((((w.alloc (.cells #[.int .i64 a0, .int .i64 a1, .int .i64 a2, .int .i64 a3] 128)).alloc (.cells #[.int .i64 a0, .int .i64 a1, .int .i64 a2, .int .i64 a3] 84)).alloc (.cells #[.int .i64 a0, .int .i64 a1, .int .i64 a2, .int .i64 a3] 84)).alloc (.cells #[.int .i64 a1, .int .i64 a2, .int .i64 a3] 28)).alloc (.cells #[.int .i64 a1, .int .i64 a2, .int .i64 a3] 39)).alloc (.cells #[.int .i64 a1, .int .i64 a2, .int .i64 a3] 39)) = w' := by
  go_enter Tryz.func83, Tryz.ntmps83
  go_wp2_with (first | (go_at_call 28; refine (toVec_x _ _ _ _).mono ?_; rintro e w1 ⟨rfl, rfl⟩))
  exact bodyPost_ret (v := .agg #[.int .i64 a0, .int .i64 a1, .int .i64 a2, .int .i64 a3]) (by simp [results, Tryz.results83, go_sem]) rfl ⟨rfl, rfl⟩
theorem toNode_c (x : Node) (w : World) : Calls Tryz.prog 83 #[.agg #[.int .i64 x.Leaf, .int .i64 x.Cap.A, .int .i64 x.Cap.B, .int .i64 x.Cap.C]] w (Ret w (.agg #[.int .i64 x.Leaf, .int .i64 x.Cap.A, .int .i64 x.Cap.B, .int .i64 x.Cap.C])) :=
  (toNode_x _ _ _ _ w).mono fun e w' ⟨h, hw⟩ => ⟨h, by rw [← hw]; repeat (first | exact Ext.refl _ | apply Ext.alloc)⟩

set_option maxHeartbeats 2000000 in
theorem eqNode_c (x y : Node) (w : World) : Calls Tryz.prog 97 #[.agg #[.int .i64 x.Leaf, .int .i64 x.Cap.A, .int .i64 x.Cap.B, .int .i64 x.Cap.C], .agg #[.int .i64 y.Leaf, .int .i64 y.Cap.A, .int .i64 y.Cap.B, .int .i64 y.Cap.C]] w (Ret w (.bool (decide (x = y)))) := by
  go_enter Tryz.func97, Tryz.ntmps97
  go_wp2
  all_goals refine ret_bool rfl rfl rfl ?_ (by repeat (first | exact Ext.refl _ | apply Ext.alloc))
  all_goals (symm; (try go_light); (try simp only [bne_iff_ne, ne_eq, bne_eq_false_iff_eq] at *); first | (rw [decide_eq_false_iff_not]; rintro rfl; simp_all; done) | (rw [decide_eq_false_iff_not, Node.eq_iff]; simp_all [Vec.eq_iff]; done) | (rw [decide_eq_true_iff, Node.eq_iff]; simp_all [Vec.eq_iff]; done))

set_option maxHeartbeats 1000000 in
theorem toEnd_x (a0 : Int) (a1 : Int) (a2 : Int) (w : World) : Calls Tryz.prog 61 #[.agg #[.int .i64 a0, .int .i64 a1, .int .i64 a2]] w fun e w' => e = .returned (.agg #[.int .i64 a0, .int .i64 a1, .int .i64 a2]) ∧
    (((w.alloc (.cells #[.int .i64 a0, .int .i64 a1, .int .i64 a2] 110)).alloc (.cells #[.int .i64 a0, .int .i64 a1, .int .i64 a2] 105)).alloc (.cells #[.int .i64 a0, .int .i64 a1, .int .i64 a2] 105)) = w' := by
  go_enter Tryz.func61, Tryz.ntmps61
  go_wp2
  exact bodyPost_ret (v := .agg #[.int .i64 a0, .int .i64 a1, .int .i64 a2]) (by simp [results, Tryz.results61, go_sem]) rfl ⟨rfl, rfl⟩
theorem toEnd_c (x : End) (w : World) : Calls Tryz.prog 61 #[.agg #[.int .i64 x.Id, .int .i64 x.At, .int .i64 x.Why]] w (Ret w (.agg #[.int .i64 x.Id, .int .i64 x.At, .int .i64 x.Why])) :=
  (toEnd_x _ _ _ w).mono fun e w' ⟨h, hw⟩ => ⟨h, by rw [← hw]; repeat (first | exact Ext.refl _ | apply Ext.alloc)⟩

set_option maxHeartbeats 1000000 in
theorem eqEnd_c (x y : End) (w : World) : Calls Tryz.prog 71 #[.agg #[.int .i64 x.Id, .int .i64 x.At, .int .i64 x.Why], .agg #[.int .i64 y.Id, .int .i64 y.At, .int .i64 y.Why]] w (Ret w (.bool (decide (x = y)))) := by
  go_enter Tryz.func71, Tryz.ntmps71
  go_wp2
  all_goals refine ret_bool rfl rfl rfl ?_ (by repeat (first | exact Ext.refl _ | apply Ext.alloc))
  all_goals (symm; (try simp only [bne_iff_ne, ne_eq, bne_eq_false_iff_eq] at *); first | (rw [decide_eq_false_iff_not, End.eq_iff]; simp_all; done) | (rw [decide_eq_false_iff_not, End.eq_iff]; intro hh; simp_all; done) | (rw [decide_eq_true_iff, End.eq_iff]; simp_all; done))

set_option maxHeartbeats 2000000 in
theorem toIntS_c (xs : List Int) (A : Option Addr) (n c : Nat) (w : World) (h : SlAt RInt 1 w A n xs) (hn : n ≤ 1048576) :
    Calls Tryz.prog 16 #[.slice A n c] w (RetOwn RInt 3 1 w xs) := by
  obtain ⟨i0, hi, hz0, hz1, hz2⟩ := info_parts (show (Tryz.prog.info? 3).map (fun i => (i.zero, i.size, i.bytes)) = some (some (.int .i64 0), 1, 8) by kernel_rfl)
  go_enter Tryz.func16, Tryz.ntmps16
  go_wp2_with (at_make; refine wpList_make_full _ rfl _ _ 22 rfl w.heap.size 3 i0 _ 1 Tryz.underlying22 hi hz0 hz1 .i64 .i64 n n n rfl rfl rfl rfl (by rw [hz2]; omega) (by unfold maxLen; omega) (Nat.le_refl _) ?_; intro w1 hown hg; have hb1 : Ext w w1 := Below.grown (Below.refl _ _) hg (Nat.le_refl _) (by simp))
  clear hg hi hz0 hz1 hz2
  go_loopw [4] (fun i wr => ∃ (k : Nat) (L : List Value), k ≤ n ∧ i = .int .i64 k ∧ wr.ownsRow w.heap.size 3 1 (.slice (some ⟨w.heap.size, 0, none⟩) n n) n L ∧ L.take (k * 1) = (xs.take k).flatMap encInt ∧ Ext w wr) (fun i _ => n - (intOf i).toNat)
  case atStart => exact ⟨0, _, Nat.zero_le _, rfl, hown, by simp, hb1⟩
  case round =>
    obtain ⟨k, L, hk, rfl, hownr, hL, hb⟩ := hrel
    clear hown hb1
    by_cases hlt : k < n
    · obtain ⟨b, o, x, cs, rfl, hbw, hx, _, hc, rfl, hok⟩ := (h.ext (Flat.mono _ _) hb).at_ hlt
      have c0 := hc 0 _ rfl
      simp only [Nat.mul_one, Nat.add_zero] at c0
      have HL := Lib.hid hL; have HX := Lib.hid hx; have HO := Lib.hid hownr
      clear hc hL hx hownr h
      obtain ⟨y0, hy0⟩ := owns_cell (HO.out) (j := k) (by omega)
      have z0 := (HO.out).frozenAt (k)
      go_wp2
      go_roundw
      case rel => exact ⟨k + 1, setAll L (k * 1) (encInt x), by omega, by go_num, by rw [Nat.mul_one]; exact owns_puts (encInt x) _ _ _ HO.out, flat_step HL.out HO.out.1 hlt HX.out (encInt_size x), Ext.puts (encInt x) _ k hb (Nat.le_refl _)⟩
      case measure => simp [intOf]; omega
    · have hkn : k = n := by omega
      have HO := Lib.hid hownr
      have HL := Lib.hid hL
      clear hownr hL
      go_wp2
      exact ret_own rfl h.len HO.out HL.out encInt_size h.all hkn hb

set_option maxHeartbeats 2000000 in
theorem eqIntS_c (xs ys : List Int) (A A' : Option Addr) (n c n' c' : Nat) (w : World) (h1 : SlAt RInt 1 w A n xs) (h2 : SlAt RInt 1 w A' n' ys) (hl : n ≤ maxLen) :
    Calls Tryz.prog 10 #[.slice A n c, .slice A' n' c'] w (Ret w (.bool (decide (xs = ys)))) := by
  unfold maxLen at hl
  have hn := h1.len
  have hn' := h2.len
  go_enter Tryz.func10, Tryz.ntmps10
  by_cases hlen : n = n'
  · subst hlen
    have HN := Lib.hid hn; have HN' := Lib.hid hn'; clear hn hn'
    go_wp2
    go_loopw [5] (fun i wr => ∃ k : Nat, k ≤ n ∧ i = .int .i64 k ∧ decide (xs = ys) = decide (xs.drop k = ys.drop k) ∧ Ext w wr) (fun i _ => n - (intOf i).toNat)
    case atStart => exact ⟨0, Nat.zero_le _, rfl, rfl, Ext.refl _⟩
    case round =>
      obtain ⟨k, hk, rfl, hE, hb⟩ := hrel
      by_cases hlt : k < n
      · have HE := Lib.hid hE; clear hE
        obtain ⟨b, o, x, cs, rfl, hbw, hx, _, hc, rfl, _⟩ := (h1.ext (Flat.mono _ _) hb).at_ hlt
        obtain ⟨b', o', y, cs, rfl, hbw', hy, _, hc', rfl, _⟩ := (h2.ext (Flat.mono _ _) hb).at_ hlt
        have c0 := hc 0 _ rfl
        simp only [Nat.mul_one, Nat.add_zero] at c0
        have d0 := hc' 0 _ rfl
        simp only [Nat.mul_one, Nat.add_zero] at d0
        have HX := Lib.hid hx; have HY := Lib.hid hy; have HB := Lib.hid hb
        clear hc hc' h1 h2 hx hy hb
        go_wp2
        have hcx := @Later.cell wr
        rcases Bool.eq_false_or_eq_true (x != y) with hxy | hxy
        all_goals
          refine wp_region_ext (by kernel_rfl) (by kernel_rfl) ?_
          repeat (go_big_quiet_step (fail))
          refine wpQuiet_nil ?_
          intro w1 hb1
          have HB1 := Lib.hid hb1
          clear hcx c0 d0 hb1
          go_wp2
        · refine ret_bool rfl rfl rfl ?_ (HB.out.trans HB1.out)
          rw [HE.out, drop_cons HX.out, drop_cons HY.out]; symm; rw [decide_eq_false_iff_not]; intro e; injection e with e _; exact (bne_iff_ne.1 hxy) e
        · go_roundw
          case rel => exact ⟨k + 1, by omega, by go_num, by rw [HE.out, drop_cons HX.out, drop_cons HY.out, bne_eq_false_iff_eq.1 hxy]; simp, HB.out.trans HB1.out⟩
          case measure => simp [intOf]; omega
      · have HE := Lib.hid hE; clear hE
        go_wp2
        refine ret_bool rfl rfl rfl ?_ hb
        rw [HE.out, List.drop_eq_nil_of_le (by have := HN.out; omega), List.drop_eq_nil_of_le (by have := HN'.out; omega)]; rfl
  · have HN := Lib.hid hn; have HN' := Lib.hid hn'; clear hn hn'
    go_wp2
    refine ret_bool rfl rfl rfl ?_ (Ext.refl _)
    symm; rw [decide_eq_false_iff_not]; rintro rfl; exact hlen (HN.out.symm.trans HN'.out)

set_option maxHeartbeats 2000000 in
theorem toJobS_c (xs : List Job) (A : Option Addr) (n c : Nat) (w : World) (h : SlAt RJob 11 w A n xs) (hn : n ≤ 1048576) :
    Calls Tryz.prog 29 #[.slice A n c] w (RetOwn RJob 62 11 w xs) := by
  obtain ⟨i0, hi, hz0, hz1, hz2⟩ := info_parts (show (Tryz.prog.info? 62).map (fun i => (i.zero, i.size, i.bytes)) = some (some (.agg #[.int .i64 0, .int .i64 0, .int .i64 0, .int .i64 0, .int .i64 0, .int .i64 0, .int .i64 0, .int .i64 0, .int .i64 0, .int .i64 0, .int .i64 0]), 11, 88) by kernel_rfl)
  go_enter Tryz.func29, Tryz.ntmps29
  go_wp2_with (at_make; refine wpList_make_full _ rfl _ _ 40 rfl w.heap.size 62 i0 _ 11 Tryz.underlying40 hi hz0 hz1 .i64 .i64 n n n rfl rfl rfl rfl (by rw [hz2]; omega) (by unfold maxLen; omega) (Nat.le_refl _) ?_; intro w1 hown hg; have hb1 : Ext w w1 := Below.grown (Below.refl _ _) hg (Nat.le_refl _) (by simp))
  clear hg hi hz0 hz1 hz2
  go_loopw [4] (fun i wr => ∃ (k : Nat) (L : List Value), k ≤ n ∧ i = .int .i64 k ∧ wr.ownsRow w.heap.size 62 11 (.slice (some ⟨w.heap.size, 0, none⟩) n n) n L ∧ L.take (k * 11) = (xs.take k).flatMap Job.enc ∧ Ext w wr) (fun i _ => n - (intOf i).toNat)
  case atStart => exact ⟨0, _, Nat.zero_le _, rfl, hown, by simp, hb1⟩
  case round =>
    obtain ⟨k, L, hk, rfl, hownr, hL, hb⟩ := hrel
    clear hown hb1
    by_cases hlt : k < n
    · obtain ⟨b, o, x, cs, rfl, hbw, hx, _, hc, rfl, hok⟩ := (h.ext (Flat.mono _ _) hb).at_ hlt
      have c0 := hc 0 _ rfl
      have c1 := hc 1 _ rfl
      have c2 := hc 2 _ rfl
      have c3 := hc 3 _ rfl
      have c4 := hc 4 _ rfl
      have c5 := hc 5 _ rfl
      have c6 := hc 6 _ rfl
      have c7 := hc 7 _ rfl
      have c8 := hc 8 _ rfl
      have c9 := hc 9 _ rfl
      have c10 := hc 10 _ rfl
      simp only [Nat.add_zero] at c0
      have HL := Lib.hid hL; have HX := Lib.hid hx; have HO := Lib.hid hownr
      clear hc hL hx hownr h
      go_wp2_with ((go_at_call 59; refine (toJob_c x _).mono ?_; rintro e w2 ⟨rfl, hb2⟩; obtain ⟨y0, hy0⟩ := owns_cell (owns_ext HO.out hb2) (j := k * 11) (by omega); obtain ⟨y1, hy1⟩ := owns_cell (owns_ext HO.out hb2) (j := k * 11 + 1) (by omega); obtain ⟨y2, hy2⟩ := owns_cell (owns_ext HO.out hb2) (j := k * 11 + 2) (by omega); obtain ⟨y3, hy3⟩ := owns_cell (owns_ext HO.out hb2) (j := k * 11 + 3) (by omega); obtain ⟨y4, hy4⟩ := owns_cell (owns_ext HO.out hb2) (j := k * 11 + 4) (by omega); obtain ⟨y5, hy5⟩ := owns_cell (owns_ext HO.out hb2) (j := k * 11 + 5) (by omega); obtain ⟨y6, hy6⟩ := owns_cell (owns_ext HO.out hb2) (j := k * 11 + 6) (by omega); obtain ⟨y7, hy7⟩ := owns_cell (owns_ext HO.out hb2) (j := k * 11 + 7) (by omega); obtain ⟨y8, hy8⟩ := owns_cell (owns_ext HO.out hb2) (j := k * 11 + 8) (by omega); obtain ⟨y9, hy9⟩ := owns_cell (owns_ext HO.out hb2) (j := k * 11 + 9) (by omega); obtain ⟨y10, hy10⟩ := owns_cell (owns_ext HO.out hb2) (j := k * 11 + 10) (by omega); have z0 := (owns_ext HO.out hb2).frozenAt (k * 11); have z1 := (owns_ext HO.out hb2).frozenAt (k * 11 + 1); have z2 := (owns_ext HO.out hb2).frozenAt (k * 11 + 2); have z3 := (owns_ext HO.out hb2).frozenAt (k * 11 + 3); have z4 := (owns_ext HO.out hb2).frozenAt (k * 11 + 4); have z5 := (owns_ext HO.out hb2).frozenAt (k * 11 + 5); have z6 := (owns_ext HO.out hb2).frozenAt (k * 11 + 6); have z7 := (owns_ext HO.out hb2).frozenAt (k * 11 + 7); have z8 := (owns_ext HO.out hb2).frozenAt (k * 11 + 8); have z9 := (owns_ext HO.out hb2).frozenAt (k * 11 + 9); have z10 := (owns_ext HO.out hb2).frozenAt (k * 11 + 10)))
      go_roundw
      case rel => exact ⟨k + 1, setAll L (k * 11) (Job.enc x), by omega, by go_num, owns_puts (Job.enc x) _ _ _ (owns_ext HO.out hb2), flat_step HL.out HO.out.1 hlt HX.out (Job.size x), Ext.puts (Job.enc x) _ _ (hb.trans hb2) (Nat.le_refl _)⟩
      case measure => simp [intOf]; omega
    · have hkn : k = n := by omega
      have HO := Lib.hid hownr
      have HL := Lib.hid hL
      clear hownr hL
      go_wp2
      exact ret_own rfl h.len HO.out HL.out Job.size h.all hkn hb

set_option maxHeartbeats 2000000 in
theorem eqJobS_c (xs ys : List Job) (A A' : Option Addr) (n c n' c' : Nat) (w : World) (h1 : SlAt RJob 11 w A n xs) (h2 : SlAt RJob 11 w A' n' ys) (hl : n ≤ maxLen) :
    Calls Tryz.prog 36 #[.slice A n c, .slice A' n' c'] w (Ret w (.bool (decide (xs = ys)))) := by
  unfold maxLen at hl
  have hn := h1.len
  have hn' := h2.len
  go_enter Tryz.func36, Tryz.ntmps36
  by_cases hlen : n = n'
  · subst hlen
    have HN := Lib.hid hn; have HN' := Lib.hid hn'; clear hn hn'
    go_wp2
    go_loopw [5] (fun i wr => ∃ k : Nat, k ≤ n ∧ i = .int .i64 k ∧ decide (xs = ys) = decide (xs.drop k = ys.drop k) ∧ Ext w wr) (fun i _ => n - (intOf i).toNat)
    case atStart => exact ⟨0, Nat.zero_le _, rfl, rfl, Ext.refl _⟩
    case round =>
      obtain ⟨k, hk, rfl, hE, hb⟩ := hrel
      by_cases hlt : k < n
      · have HE := Lib.hid hE; clear hE
        obtain ⟨b, o, x, cs, rfl, hbw, hx, _, hc, rfl, _⟩ := (h1.ext (Flat.mono _ _) hb).at_ hlt
        obtain ⟨b', o', y, cs, rfl, hbw', hy, _, hc', rfl, _⟩ := (h2.ext (Flat.mono _ _) hb).at_ hlt
        have c0 := hc 0 _ rfl
        have c1 := hc 1 _ rfl
        have c2 := hc 2 _ rfl
        have c3 := hc 3 _ rfl
        have c4 := hc 4 _ rfl
        have c5 := hc 5 _ rfl
        have c6 := hc 6 _ rfl
        have c7 := hc 7 _ rfl
        have c8 := hc 8 _ rfl
        have c9 := hc 9 _ rfl
        have c10 := hc 10 _ rfl
        simp only [Nat.add_zero] at c0
        have d0 := hc' 0 _ rfl
        have d1 := hc' 1 _ rfl
        have d2 := hc' 2 _ rfl
        have d3 := hc' 3 _ rfl
        have d4 := hc' 4 _ rfl
        have d5 := hc' 5 _ rfl
        have d6 := hc' 6 _ rfl
        have d7 := hc' 7 _ rfl
        have d8 := hc' 8 _ rfl
        have d9 := hc' 9 _ rfl
        have d10 := hc' 10 _ rfl
        simp only [Nat.add_zero] at d0
        have HX := Lib.hid hx; have HY := Lib.hid hy; have HB := Lib.hid hb
        clear hc hc' h1 h2 hx hy hb
        go_wp2
        have hcx := @Later.cell wr
        rcases Bool.eq_false_or_eq_true (decide (x = y)) with hxy | hxy
        all_goals
          refine wp_region_ext (by kernel_rfl) (by kernel_rfl) ?_
          repeat (go_big_quiet_step ((go_at_call 69; exact Calls.quiet_ext (eqJob_c x y _))))
          refine wpQuiet_nil ?_
          intro w1 hb1
          have HB1 := Lib.hid hb1
          clear hcx c0 c1 c2 c3 c4 c5 c6 c7 c8 c9 c10 d0 d1 d2 d3 d4 d5 d6 d7 d8 d9 d10 hb1
          go_wp2
        · go_roundw
          case rel => exact ⟨k + 1, by omega, by go_num, by rw [HE.out, drop_cons HX.out, drop_cons HY.out, of_decide_eq_true hxy]; simp, HB.out.trans HB1.out⟩
          case measure => simp [intOf]; omega
        · refine ret_bool rfl rfl rfl ?_ (HB.out.trans HB1.out)
          rw [HE.out, drop_cons HX.out, drop_cons HY.out]; symm; rw [decide_eq_false_iff_not]; intro e; injection e with e _; exact of_decide_eq_false hxy e
      · have HE := Lib.hid hE; clear hE
        go_wp2
        refine ret_bool rfl rfl rfl ?_ hb
        rw [HE.out, List.drop_eq_nil_of_le (by have := HN.out; omega), List.drop_eq_nil_of_le (by have := HN'.out; omega)]; rfl
  · have HN := Lib.hid hn; have HN' := Lib.hid hn'; clear hn hn'
    go_wp2
    refine ret_bool rfl rfl rfl ?_ (Ext.refl _)
    symm; rw [decide_eq_false_iff_not]; rintro rfl; exact hlen (HN.out.symm.trans HN'.out)

theorem szJobS_c (A : Option Addr) (n c : Nat) (left : Int) (w : World) (hn : n ≤ maxLen) (hl : left ≤ 1048576) (hl0 : 0 ≤ left) : Calls Tryz.prog 22 #[.slice A n c, .int .i64 left] w (Ret w (.int .i64 (szM n left))) := by
  unfold maxLen at hn
  go_enter Tryz.func22, Tryz.ntmps22
  by_cases h : left - n < 0
  · go_wp2
    exact ret_int rfl rfl rfl (by unfold szM; split <;> omega) (Ext.refl _)
  · go_wp2
    exact ret_int rfl rfl rfl (by unfold szM; split <;> omega) (Ext.refl _)

set_option maxHeartbeats 2000000 in
theorem toNodeS_c (xs : List Node) (A : Option Addr) (n c : Nat) (w : World) (h : SlAt RNode 4 w A n xs) (hn : n ≤ 1048576) :
    Calls Tryz.prog 58 #[.slice A n c] w (RetOwn RNode 84 4 w xs) := by
  obtain ⟨i0, hi, hz0, hz1, hz2⟩ := info_parts (show (Tryz.prog.info? 84).map (fun i => (i.zero, i.size, i.bytes)) = some (some (.agg #[.int .i64 0, .int .i64 0, .int .i64 0, .int .i64 0]), 4, 32) by kernel_rfl)
  go_enter Tryz.func58, Tryz.ntmps58
  go_wp2_with (at_make; refine wpList_make_full _ rfl _ _ 36 rfl w.heap.size 84 i0 _ 4 Tryz.underlying36 hi hz0 hz1 .i64 .i64 n n n rfl rfl rfl rfl (by rw [hz2]; omega) (by unfold maxLen; omega) (Nat.le_refl _) ?_; intro w1 hown hg; have hb1 : Ext w w1 := Below.grown (Below.refl _ _) hg (Nat.le_refl _) (by simp))
  clear hg hi hz0 hz1 hz2
  go_loopw [4] (fun i wr => ∃ (k : Nat) (L : List Value), k ≤ n ∧ i = .int .i64 k ∧ wr.ownsRow w.heap.size 84 4 (.slice (some ⟨w.heap.size, 0, none⟩) n n) n L ∧ L.take (k * 4) = (xs.take k).flatMap Node.enc ∧ Ext w wr) (fun i _ => n - (intOf i).toNat)
  case atStart => exact ⟨0, _, Nat.zero_le _, rfl, hown, by simp, hb1⟩
  case round =>
    obtain ⟨k, L, hk, rfl, hownr, hL, hb⟩ := hrel
    clear hown hb1
    by_cases hlt : k < n
    · obtain ⟨b, o, x, cs, rfl, hbw, hx, _, hc, rfl, hok⟩ := (h.ext (Flat.mono _ _) hb).at_ hlt
      have c0 := hc 0 _ rfl
      have c1 := hc 1 _ rfl
      have c2 := hc 2 _ rfl
      have c3 := hc 3 _ rfl
      simp only [Nat.add_zero] at c0
      have HL := Lib.hid hL; have HX := Lib.hid hx; have HO := Lib.hid hownr
      clear hc hL hx hownr h
      go_wp2_with ((go_at_call 83; refine (toNode_c x _).mono ?_; rintro e w2 ⟨rfl, hb2⟩; obtain ⟨y0, hy0⟩ := owns_cell (owns_ext HO.out hb2) (j := k * 4) (by omega); obtain ⟨y1, hy1⟩ := owns_cell (owns_ext HO.out hb2) (j := k * 4 + 1) (by omega); obtain ⟨y2, hy2⟩ := owns_cell (owns_ext HO.out hb2) (j := k * 4 + 2) (by omega); obtain ⟨y3, hy3⟩ := owns_cell (owns_ext HO.out hb2) (j := k * 4 + 3) (by omega); have z0 := (owns_ext HO.out hb2).frozenAt (k * 4); have z1 := (owns_ext HO.out hb2).frozenAt (k * 4 + 1); have z2 := (owns_ext HO.out hb2).frozenAt (k * 4 + 2); have z3 := (owns_ext HO.out hb2).frozenAt (k * 4 + 3)))
      go_roundw
      case rel => exact ⟨k + 1, setAll L (k * 4) (Node.enc x), by omega, by go_num, owns_puts (Node.enc x) _ _ _ (owns_ext HO.out hb2), flat_step HL.out HO.out.1 hlt HX.out (Node.size x), Ext.puts (Node.enc x) _ _ (hb.trans hb2) (Nat.le_refl _)⟩
      case measure => simp [intOf]; omega
    · have hkn : k = n := by omega
      have HO := Lib.hid hownr
      have HL := Lib.hid hL
      clear hownr hL
      go_wp2
      exact ret_own rfl h.len HO.out HL.out Node.size h.all hkn hb

set_option maxHeartbeats 2000000 in
theorem eqNodeS_c (xs ys : List Node) (A A' : Option Addr) (n c n' c' : Nat) (w : World) (h1 : SlAt RNode 4 w A n xs) (h2 : SlAt RNode 4 w A' n' ys) (hl : n ≤ maxLen) :
    Calls Tryz.prog 68 #[.slice A n c, .slice A' n' c'] w (Ret w (.bool (decide (xs = ys)))) := by
  unfold maxLen at hl
  have hn := h1.len
  have hn' := h2.len
  go_enter Tryz.func68, Tryz.ntmps68
  by_cases hlen : n = n'
  · subst hlen
    have HN := Lib.hid hn; have HN' := Lib.hid hn'; clear hn hn'
    go_wp2
    go_loopw [5] (fun i wr => ∃ k : Nat, k ≤ n ∧ i = .int .i64 k ∧ decide (xs = ys) = decide (xs.drop k = ys.drop k) ∧ Ext w wr) (fun i _ => n - (intOf i).toNat)
    case atStart => exact ⟨0, Nat.zero_le _, rfl, rfl, Ext.refl _⟩
    case round =>
      obtain ⟨k, hk, rfl, hE, hb⟩ := hrel
      by_cases hlt : k < n
      · have HE := Lib.hid hE; clear hE
        obtain ⟨b, o, x, cs, rfl, hbw, hx, _, hc, rfl, _⟩ := (h1.ext (Flat.mono _ _) hb).at_ hlt
        obtain ⟨b', o', y, cs, rfl, hbw', hy, _, hc', rfl, _⟩ := (h2.ext (Flat.mono _ _) hb).at_ hlt
        have c0 := hc 0 _ rfl
        have c1 := hc 1 _ rfl
        have c2 := hc 2 _ rfl
        have c3 := hc 3 _ rfl
        simp only [Nat.add_zero] at c0
        have d0 := hc' 0 _ rfl
        have d1 := hc' 1 _ rfl
        have d2 := hc' 2 _ rfl
        have d3 := hc' 3 _ rfl
        simp only [Nat.add_zero] at d0
        have HX := Lib.hid hx; have HY := Lib.hid hy; have HB := Lib.hid hb
        clear hc hc' h1 h2 hx hy hb
        go_wp2
        have hcx := @Later.cell wr
        rcases Bool.eq_false_or_eq_true (decide (x = y)) with hxy | hxy
        all_goals
          refine wp_region_ext (by kernel_rfl) (by kernel_rfl) ?_
          repeat (go_big_quiet_step ((go_at_call 97; exact Calls.quiet_ext (eqNode_c x y _))))
          refine wpQuiet_nil ?_
          intro w1 hb1
          have HB1 := Lib.hid hb1
          clear hcx c0 c1 c2 c3 d0 d1 d2 d3 hb1
          go_wp2
        · go_roundw
          case rel => exact ⟨k + 1, by omega, by go_num, by rw [HE.out, drop_cons HX.out, drop_cons HY.out, of_decide_eq_true hxy]; simp, HB.out.trans HB1.out⟩
          case measure => simp [intOf]; omega
        · refine ret_bool rfl rfl rfl ?_ (HB.out.trans HB1.out)
          rw [HE.out, drop_cons HX.out, drop_cons HY.out]; symm; rw [decide_eq_false_iff_not]; intro e; injection e with e _; exact of_decide_eq_false hxy e
      · have HE := Lib.hid hE; clear hE
        go_wp2
        refine ret_bool rfl rfl rfl ?_ hb
        rw [HE.out, List.drop_eq_nil_of_le (by have := HN.out; omega), List.drop_eq_nil_of_le (by have := HN'.out; omega)]; rfl
  · have HN := Lib.hid hn; have HN' := Lib.hid hn'; clear hn hn'
    go_wp2
    refine ret_bool rfl rfl rfl ?_ (Ext.refl _)
    symm; rw [decide_eq_false_iff_not]; rintro rfl; exact hlen (HN.out.symm.trans HN'.out)

theorem szNodeS_c (A : Option Addr) (n c : Nat) (left : Int) (w : World) (hn : n ≤ maxLen) (hl : left ≤ 1048576) (hl0 : 0 ≤ left) : Calls Tryz.prog 51 #[.slice A n c, .int .i64 left] w (Ret w (.int .i64 (szM n left))) := by
  unfold maxLen at hn
  go_enter Tryz.func51, Tryz.ntmps51
  by_cases h : left - n < 0
  · go_wp2
    exact ret_int rfl rfl rfl (by unfold szM; split <;> omega) (Ext.refl _)
  · go_wp2
    exact ret_int rfl rfl rfl (by unfold szM; split <;> omega) (Ext.refl _)

set_option maxHeartbeats 2000000 in
theorem toEndS_c (xs : List End) (A : Option Addr) (n c : Nat) (w : World) (h : SlAt REnd 3 w A n xs) (hn : n ≤ 1048576) :
    Calls Tryz.prog 31 #[.slice A n c] w (RetOwn REnd 105 3 w xs) := by
  obtain ⟨i0, hi, hz0, hz1, hz2⟩ := info_parts (show (Tryz.prog.info? 105).map (fun i => (i.zero, i.size, i.bytes)) = some (some (.agg #[.int .i64 0, .int .i64 0, .int .i64 0]), 3, 24) by kernel_rfl)
  go_enter Tryz.func31, Tryz.ntmps31
  go_wp2_with (at_make; refine wpList_make_full _ rfl _ _ 42 rfl w.heap.size 105 i0 _ 3 Tryz.underlying42 hi hz0 hz1 .i64 .i64 n n n rfl rfl rfl rfl (by rw [hz2]; omega) (by unfold maxLen; omega) (Nat.le_refl _) ?_; intro w1 hown hg; have hb1 : Ext w w1 := Below.grown (Below.refl _ _) hg (Nat.le_refl _) (by simp))
  clear hg hi hz0 hz1 hz2
  go_loopw [4] (fun i wr => ∃ (k : Nat) (L : List Value), k ≤ n ∧ i = .int .i64 k ∧ wr.ownsRow w.heap.size 105 3 (.slice (some ⟨w.heap.size, 0, none⟩) n n) n L ∧ L.take (k * 3) = (xs.take k).flatMap End.enc ∧ Ext w wr) (fun i _ => n - (intOf i).toNat)
  case atStart => exact ⟨0, _, Nat.zero_le _, rfl, hown, by simp, hb1⟩
  case round =>
    obtain ⟨k, L, hk, rfl, hownr, hL, hb⟩ := hrel
    clear hown hb1
    by_cases hlt : k < n
    · obtain ⟨b, o, x, cs, rfl, hbw, hx, _, hc, rfl, hok⟩ := (h.ext (Flat.mono _ _) hb).at_ hlt
      have c0 := hc 0 _ rfl
      have c1 := hc 1 _ rfl
      have c2 := hc 2 _ rfl
      simp only [Nat.add_zero] at c0
      have HL := Lib.hid hL; have HX := Lib.hid hx; have HO := Lib.hid hownr
      clear hc hL hx hownr h
      go_wp2_with ((go_at_call 61; refine (toEnd_c x _).mono ?_; rintro e w2 ⟨rfl, hb2⟩; obtain ⟨y0, hy0⟩ := owns_cell (owns_ext HO.out hb2) (j := k * 3) (by omega); obtain ⟨y1, hy1⟩ := owns_cell (owns_ext HO.out hb2) (j := k * 3 + 1) (by omega); obtain ⟨y2, hy2⟩ := owns_cell (owns_ext HO.out hb2) (j := k * 3 + 2) (by omega); have z0 := (owns_ext HO.out hb2).frozenAt (k * 3); have z1 := (owns_ext HO.out hb2).frozenAt (k * 3 + 1); have z2 := (owns_ext HO.out hb2).frozenAt (k * 3 + 2)))
      go_roundw
      case rel => exact ⟨k + 1, setAll L (k * 3) (End.enc x), by omega, by go_num, owns_puts (End.enc x) _ _ _ (owns_ext HO.out hb2), flat_step HL.out HO.out.1 hlt HX.out (End.size x), Ext.puts (End.enc x) _ _ (hb.trans hb2) (Nat.le_refl _)⟩
      case measure => simp [intOf]; omega
    · have hkn : k = n := by omega
      have HO := Lib.hid hownr
      have HL := Lib.hid hL
      clear hownr hL
      go_wp2
      exact ret_own rfl h.len HO.out HL.out End.size h.all hkn hb

set_option maxHeartbeats 2000000 in
theorem eqEndS_c (xs ys : List End) (A A' : Option Addr) (n c n' c' : Nat) (w : World) (h1 : SlAt REnd 3 w A n xs) (h2 : SlAt REnd 3 w A' n' ys) (hl : n ≤ maxLen) :
    Calls Tryz.prog 38 #[.slice A n c, .slice A' n' c'] w (Ret w (.bool (decide (xs = ys)))) := by
  unfold maxLen at hl
  have hn := h1.len
  have hn' := h2.len
  go_enter Tryz.func38, Tryz.ntmps38
  by_cases hlen : n = n'
  · subst hlen
    have HN := Lib.hid hn; have HN' := Lib.hid hn'; clear hn hn'
    go_wp2
    go_loopw [5] (fun i wr => ∃ k : Nat, k ≤ n ∧ i = .int .i64 k ∧ decide (xs = ys) = decide (xs.drop k = ys.drop k) ∧ Ext w wr) (fun i _ => n - (intOf i).toNat)
    case atStart => exact ⟨0, Nat.zero_le _, rfl, rfl, Ext.refl _⟩
    case round =>
      obtain ⟨k, hk, rfl, hE, hb⟩ := hrel
      by_cases hlt : k < n
      · have HE := Lib.hid hE; clear hE
        obtain ⟨b, o, x, cs, rfl, hbw, hx, _, hc, rfl, _⟩ := (h1.ext (Flat.mono _ _) hb).at_ hlt
        obtain ⟨b', o', y, cs, rfl, hbw', hy, _, hc', rfl, _⟩ := (h2.ext (Flat.mono _ _) hb).at_ hlt
        have c0 := hc 0 _ rfl
        have c1 := hc 1 _ rfl
        have c2 := hc 2 _ rfl
        simp only [Nat.add_zero] at c0
        have d0 := hc' 0 _ rfl
        have d1 := hc' 1 _ rfl
        have d2 := hc' 2 _ rfl
        simp only [Nat.add_zero] at d0
        have HX := Lib.hid hx; have HY := Lib.hid hy; have HB := Lib.hid hb
        clear hc hc' h1 h2 hx hy hb
        go_wp2
        have hcx := @Later.cell wr
        rcases Bool.eq_false_or_eq_true (decide (x = y)) with hxy | hxy
        all_goals
          refine wp_region_ext (by kernel_rfl) (by kernel_rfl) ?_
          repeat (go_big_quiet_step ((go_at_call 71; exact Calls.quiet_ext (eqEnd_c x y _))))
          refine wpQuiet_nil ?_
          intro w1 hb1
          have HB1 := Lib.hid hb1
          clear hcx c0 c1 c2 d0 d1 d2 hb1
          go_wp2
        · go_roundw
          case rel => exact ⟨k + 1, by omega, by go_num, by rw [HE.out, drop_cons HX.out, drop_cons HY.out, of_decide_eq_true hxy]; simp, HB.out.trans HB1.out⟩
          case measure => simp [intOf]; omega
        · refine ret_bool rfl rfl rfl ?_ (HB.out.trans HB1.out)
          rw [HE.out, drop_cons HX.out, drop_cons HY.out]; symm; rw [decide_eq_false_iff_not]; intro e; injection e with e _; exact of_decide_eq_false hxy e
      · have HE := Lib.hid hE; clear hE
        go_wp2
        refine ret_bool rfl rfl rfl ?_ hb
        rw [HE.out, List.drop_eq_nil_of_le (by have := HN.out; omega), List.drop_eq_nil_of_le (by have := HN'.out; omega)]; rfl
  · have HN := Lib.hid hn; have HN' := Lib.hid hn'; clear hn hn'
    go_wp2
    refine ret_bool rfl rfl rfl ?_ (Ext.refl _)
    symm; rw [decide_eq_false_iff_not]; rintro rfl; exact hlen (HN.out.symm.trans HN'.out)

theorem szEndS_c (A : Option Addr) (n c : Nat) (left : Int) (w : World) (hn : n ≤ maxLen) (hl : left ≤ 1048576) (hl0 : 0 ≤ left) : Calls Tryz.prog 24 #[.slice A n c, .int .i64 left] w (Ret w (.int .i64 (szM n left))) := by
  unfold maxLen at hn
  go_enter Tryz.func24, Tryz.ntmps24
  by_cases h : left - n < 0
  · go_wp2
    exact ret_int rfl rfl rfl (by unfold szM; split <;> omega) (Ext.refl _)
  · go_wp2
    exact ret_int rfl rfl rfl (by unfold szM; split <;> omega) (Ext.refl _)

end Go.Proofs.YtfcffcgdbmkfgaaGreat
