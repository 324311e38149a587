/- Contracts of the laws' own helpers. Written by gen.py. -/
import Derived.Test.YtgmlcohffdeplaaGreatRows
import Derived.Test.YtgmlcohffdeplaaGreatData
import Derived.Deep.Light
namespace Go.Proofs.YtgmlcohffdeplaaGreat
open Go.RowKit

set_option maxHeartbeats 1000000 in
theorem toVec_x (a0 : Int) (a1 : Int) (a2 : Int) (w : World) : Calls Tryz.prog 118 #[.agg #[.int .i64 a0, .int .i64 a1, .int .i64 a2]] w fun e w' => e = .returned (.agg #[.int .i64 a0, .int .i64 a1, .int .i64 a2]) ∧
    (((w.alloc (.cells #[.int .i64 a0, .int .i64 a1, .int .i64 a2] 133)).alloc (.cells #[.int .i64 a0, .int .i64 a1, .int .i64 a2] 59)).alloc (.cells #[.int .i64 a0, .int .i64 a1, .int .i64 a2] 59)) = w' := by
  go_enter Tryz.func118, Tryz.ntmps118
  go_wp2
  exact bodyPost_ret (v := .agg #[.int .i64 a0, .int .i64 a1, .int .i64 a2]) (by simp [results, Tryz.results118, go_sem]) rfl ⟨rfl, rfl⟩
theorem toVec_c (x : Vec) (w : World) : Calls Tryz.prog 118 #[.agg #[.int .i64 x.A, .int .i64 x.B, .int .i64 x.C]] w (Ret w (.agg #[.int .i64 x.A, .int .i64 x.B, .int .i64 x.C])) :=
  (toVec_x _ _ _ w).mono fun e w' ⟨h, hw⟩ => ⟨h, by rw [← hw]; repeat (first | exact Ext.refl _ | apply Ext.alloc)⟩

set_option maxHeartbeats 1000000 in
theorem eqVec_c (x y : Vec) (w : World) : Calls Tryz.prog 130 #[.agg #[.int .i64 x.A, .int .i64 x.B, .int .i64 x.C], .agg #[.int .i64 y.A, .int .i64 y.B, .int .i64 y.C]] w (Ret w (.bool (decide (x = y)))) := by
  go_enter Tryz.func130, Tryz.ntmps130
  go_wp2
  all_goals refine ret_bool rfl rfl rfl ?_ (by repeat (first | exact Ext.refl _ | apply Ext.alloc))
  all_goals (symm; (try simp only [bne_iff_ne, ne_eq, bne_eq_false_iff_eq] at *); first | (rw [decide_eq_false_iff_not, Vec.eq_iff]; simp_all; done) | (rw [decide_eq_false_iff_not, Vec.eq_iff]; intro hh; simp_all; done) | (rw [decide_eq_true_iff, Vec.eq_iff]; simp_all; done))

set_option maxHeartbeats 1000000 in
theorem toNode_x (a0 : Int) (a1 : Int) (a2 : Int) (a3 : Int) (w : World) : Calls Tryz.prog 102 #[.agg #[.int .i64 a0, .int .i64 a1, .int .i64 a2, .int .i64 a3]] w fun e w' => e = .returned (.agg #[.int .i64 a0, .int .i64 a1, .int .i64 a2, .int .i64 a3]) ∧
    ((((((w.alloc (.cells #[.int .i64 a0, .int .i64 a1, .int .i64 a2, .int .i64 a3] 135)).alloc (.cells #[.int .i64 a0, .int .i64 a1, .int .i64 a2, .int .i64 a3] 130)).alloc (.cells #[.int .i64 a0, .int .i64 a1, .int .i64 a2, .int .i64 a3] 130)).alloc (.cells #[.int .i64 a1, .int .i64 a2, .int .i64 a3] 133)).alloc (.cells #[.int .i64 a1, .int .i64 a2, .int .i64 a3] 59)).alloc (.cells #[.int .i64 a1, .int .i64 a2, .int .i64 a3] 59)) = w' := by
  go_enter Tryz.func102, Tryz.ntmps102
  go_wp2_with (first | (go_at_call 118; refine (toVec_x _ _ _ _).mono ?_; rintro e w1 ⟨rfl, rfl⟩))
  exact bodyPost_ret (v := .agg #[.int .i64 a0, .int .i64 a1, .int .i64 a2, .int .i64 a3]) (by simp [results, Tryz.results102, go_sem]) rfl ⟨rfl, rfl⟩
theorem toNode_c (x : Node) (w : World) : Calls Tryz.prog 102 #[.agg #[.int .i64 x.Leaf, .int .i64 x.Cap.A, .int .i64 x.Cap.B, .int .i64 x.Cap.C]] w (Ret w (.agg #[.int .i64 x.Leaf, .int .i64 x.Cap.A, .int .i64 x.Cap.B, .int .i64 x.Cap.C])) :=
  (toNode_x _ _ _ _ w).mono fun e w' ⟨h, hw⟩ => ⟨h, by rw [← hw]; repeat (first | exact Ext.refl _ | apply Ext.alloc)⟩

set_option maxHeartbeats 2000000 in
theorem eqNode_c (x y : Node) (w : World) : Calls Tryz.prog 107 #[.agg #[.int .i64 x.Leaf, .int .i64 x.Cap.A, .int .i64 x.Cap.B, .int .i64 x.Cap.C], .agg #[.int .i64 y.Leaf, .int .i64 y.Cap.A, .int .i64 y.Cap.B, .int .i64 y.Cap.C]] w (Ret w (.bool (decide (x = y)))) := by
  go_enter Tryz.func107, Tryz.ntmps107
  go_wp2
  all_goals refine ret_bool rfl rfl rfl ?_ (by repeat (first | exact Ext.refl _ | apply Ext.alloc))
  all_goals (symm; (try go_light); (try simp only [bne_iff_ne, ne_eq, bne_eq_false_iff_eq] at *); first | (rw [decide_eq_false_iff_not]; rintro rfl; simp_all; done) | (rw [decide_eq_false_iff_not, Node.eq_iff]; simp_all [Vec.eq_iff]; done) | (rw [decide_eq_true_iff, Node.eq_iff]; simp_all [Vec.eq_iff]; done))

set_option maxHeartbeats 1000000 in
theorem toPt_x (a0 : Int) (a1 : Int) (a2 : Int) (a3 : Int) (w : World) : Calls Tryz.prog 103 #[.agg #[.int .i64 a0, .int .i64 a1, .int .i64 a2, .int .i64 a3]] w fun e w' => e = .returned (.agg #[.int .i64 a0, .int .i64 a1, .int .i64 a2, .int .i64 a3]) ∧
    ((((((w.alloc (.cells #[.int .i64 a0, .int .i64 a1, .int .i64 a2, .int .i64 a3] 138)).alloc (.cells #[.int .i64 a0, .int .i64 a1, .int .i64 a2, .int .i64 a3] 107)).alloc (.cells #[.int .i64 a0, .int .i64 a1, .int .i64 a2, .int .i64 a3] 107)).alloc (.cells #[.int .i64 a1, .int .i64 a2, .int .i64 a3] 133)).alloc (.cells #[.int .i64 a1, .int .i64 a2, .int .i64 a3] 59)).alloc (.cells #[.int .i64 a1, .int .i64 a2, .int .i64 a3] 59)) = w' := by
  go_enter Tryz.func103, Tryz.ntmps103
  go_wp2_with (first | (go_at_call 118; refine (toVec_x _ _ _ _).mono ?_; rintro e w1 ⟨rfl, rfl⟩))
  exact bodyPost_ret (v := .agg #[.int .i64 a0, .int .i64 a1, .int .i64 a2, .int .i64 a3]) (by simp [results, Tryz.results103, go_sem]) rfl ⟨rfl, rfl⟩
theorem toPt_c (x : Pt) (w : World) : Calls Tryz.prog 103 #[.agg #[.int .i64 x.At, .int .i64 x.Free.A, .int .i64 x.Free.B, .int .i64 x.Free.C]] w (Ret w (.agg #[.int .i64 x.At, .int .i64 x.Free.A, .int .i64 x.Free.B, .int .i64 x.Free.C])) :=
  (toPt_x _ _ _ _ w).mono fun e w' ⟨h, hw⟩ => ⟨h, by rw [← hw]; repeat (first | exact Ext.refl _ | apply Ext.alloc)⟩

set_option maxHeartbeats 2000000 in
theorem eqPt_c (x y : Pt) (w : World) : Calls Tryz.prog 108 #[.agg #[.int .i64 x.At, .int .i64 x.Free.A, .int .i64 x.Free.B, .int .i64 x.Free.C], .agg #[.int .i64 y.At, .int .i64 y.Free.A, .int .i64 y.Free.B, .int .i64 y.Free.C]] w (Ret w (.bool (decide (x = y)))) := by
  go_enter Tryz.func108, Tryz.ntmps108
  go_wp2
  all_goals refine ret_bool rfl rfl rfl ?_ (by repeat (first | exact Ext.refl _ | apply Ext.alloc))
  all_goals (symm; (try go_light); (try simp only [bne_iff_ne, ne_eq, bne_eq_false_iff_eq] at *); first | (rw [decide_eq_false_iff_not]; rintro rfl; simp_all; done) | (rw [decide_eq_false_iff_not, Pt.eq_iff]; simp_all [Vec.eq_iff]; done) | (rw [decide_eq_true_iff, Pt.eq_iff]; simp_all [Vec.eq_iff]; done))

set_option maxHeartbeats 2000000 in
theorem toIntS_c (xs : List Int) (A : Option Addr) (n c : Nat) (w : World) (h : SlAt RInt 1 w A n xs) (hn : n ≤ 1048576) :
    Calls Tryz.prog 70 #[.slice A n c] w (RetOwn RInt 3 1 w xs) := by
  obtain ⟨i0, hi, hz0, hz1, hz2⟩ := info_parts (show (Tryz.prog.info? 3).map (fun i => (i.zero, i.size, i.bytes)) = some (some (.int .i64 0), 1, 8) by kernel_rfl)
  go_enter Tryz.func70, Tryz.ntmps70
  go_wp2_with (at_make; refine wpList_make_full _ rfl _ _ 22 rfl w.heap.size 3 i0 _ 1 Tryz.underlying22 hi hz0 hz1 .i64 .i64 n n n rfl rfl rfl rfl (by rw [hz2]; omega) (by unfold maxLen; omega) (Nat.le_refl _) ?_; intro w1 hown hg; have hb1 : Ext w w1 := Below.grown (Below.refl _ _) hg (Nat.le_refl _) (by simp))
  clear hg hi hz0 hz1 hz2
  go_loopw [4] (fun i wr => ∃ (k : Nat) (L : List Value), k ≤ n ∧ i = .int .i64 k ∧ wr.ownsRow w.heap.size 3 1 (.slice (some ⟨w.heap.size, 0, none⟩) n n) n L ∧ L.take (k * 1) = (xs.take k).flatMap encInt ∧ Ext w wr) (fun i _ => n - (intOf i).toNat)
  case atStart => exact ⟨0, _, Nat.zero_le _, rfl, hown, by simp, hb1⟩
  case round =>
    obtain ⟨k, L, hk, rfl, hownr, hL, hb⟩ := hrel
    clear hown hb1
    by_cases hlt : k < n
    · obtain ⟨b, o, x, cs, rfl, hbw, hx, _, hc, rfl, hok⟩ := (h.ext (Flat.mono _ _) hb).at_ hlt
      have c0 := hc 0 _ rfl
      simp only [Nat.mul_one, Nat.add_zero] at c0
      have HL := Lib.hid hL; have HX := Lib.hid hx; have HO := Lib.hid hownr
      clear hc hL hx hownr h
      obtain ⟨y0, hy0⟩ := owns_cell (HO.out) (j := k) (by omega)
      have z0 := (HO.out).frozenAt (k)
      go_wp2
      go_roundw
      case rel => exact ⟨k + 1, setAll L (k * 1) (encInt x), by omega, by go_num, by rw [Nat.mul_one]; exact owns_puts (encInt x) _ _ _ HO.out, flat_step HL.out HO.out.1 hlt HX.out (encInt_size x), Ext.puts (encInt x) _ k hb (Nat.le_refl _)⟩
      case measure => simp [intOf]; omega
    · have hkn : k = n := by omega
      have HO := Lib.hid hownr
      have HL := Lib.hid hL
      clear hownr hL
      go_wp2
      exact ret_own rfl h.len HO.out HL.out encInt_size h.all hkn hb

set_option maxHeartbeats 2000000 in
theorem eqIntS_c (xs ys : List Int) (A A' : Option Addr) (n c n' c' : Nat) (w : World) (h1 : SlAt RInt 1 w A n xs) (h2 : SlAt RInt 1 w A' n' ys) (hl : n ≤ maxLen) :
    Calls Tryz.prog 80 #[.slice A n c, .slice A' n' c'] w (Ret w (.bool (decide (xs = ys)))) := by
  unfold maxLen at hl
  have hn := h1.len
  have hn' := h2.len
  go_enter Tryz.func80, Tryz.ntmps80
  by_cases hlen : n = n'
  · subst hlen
    have HN := Lib.hid hn; have HN' := Lib.hid hn'; clear hn hn'
    go_wp2
    go_loopw [5] (fun i wr => ∃ k : Nat, k ≤ n ∧ i = .int .i64 k ∧ decide (xs = ys) = decide (xs.drop k = ys.drop k) ∧ Ext w wr) (fun i _ => n - (intOf i).toNat)
    case atStart => exact ⟨0, Nat.zero_le _, rfl, rfl, Ext.refl _⟩
    case round =>
      obtain ⟨k, hk, rfl, hE, hb⟩ := hrel
      by_cases hlt : k < n
      · have HE := Lib.hid hE; clear hE
        obtain ⟨b, o, x, cs, rfl, hbw, hx, _, hc, rfl, _⟩ := (h1.ext (Flat.mono _ _) hb).at_ hlt
        obtain ⟨b', o', y, cs, rfl, hbw', hy, _, hc', rfl, _⟩ := (h2.ext (Flat.mono _ _) hb).at_ hlt
        have c0 := hc 0 _ rfl
        simp only [Nat.mul_one, Nat.add_zero] at c0
        have d0 := hc' 0 _ rfl
        simp only [Nat.mul_one, Nat.add_zero] at d0
        have HX := Lib.hid hx; have HY := Lib.hid hy; have HB := Lib.hid hb
        clear hc hc' h1 h2 hx hy hb
        go_wp2
        have hcx := @Later.cell wr
        rcases Bool.eq_false_or_eq_true (x != y) with hxy | hxy
        all_goals
          refine wp_region_ext (by kernel_rfl) (by kernel_rfl) ?_
          repeat (go_big_quiet_step (fail))
          refine wpQuiet_nil ?_
          intro w1 hb1
          have HB1 := Lib.hid hb1
          clear hcx c0 d0 hb1
          go_wp2
        · refine ret_bool rfl rfl rfl ?_ (HB.out.trans HB1.out)
          rw [HE.out, drop_cons HX.out, drop_cons HY.out]; symm; rw [decide_eq_false_iff_not]; intro e; injection e with e _; exact (bne_iff_ne.1 hxy) e
        · go_roundw
          case rel => exact ⟨k + 1, by omega, by go_num, by rw [HE.out, drop_cons HX.out, drop_cons HY.out, bne_eq_false_iff_eq.1 hxy]; simp, HB.out.trans HB1.out⟩
          case measure => simp [intOf]; omega
      · have HE := Lib.hid hE; clear hE
        go_wp2
        refine ret_bool rfl rfl rfl ?_ hb
        rw [HE.out, List.drop_eq_nil_of_le (by have := HN.out; omega), List.drop_eq_nil_of_le (by have := HN'.out; omega)]; rfl
  · have HN := Lib.hid hn; have HN' := Lib.hid hn'; clear hn hn'
    go_wp2
    refine ret_bool rfl rfl rfl ?_ (Ext.refl _)
    symm; rw [decide_eq_false_iff_not]; rintro rfl; exact hlen (HN.out.symm.trans HN'.out)

set_option maxHeartbeats 2000000 in
theorem toNodeS_c (xs : List Node) (A : Option Addr) (n c : Nat) (w : World) (h : SlAt RNode 4 w A n xs) (hn : n ≤ 1048576) :
    Calls Tryz.prog 71 #[.slice A n c] w (RetOwn RNode 130 4 w xs) := by
  obtain ⟨i0, hi, hz0, hz1, hz2⟩ := info_parts (show (Tryz.prog.info? 130).map (fun i => (i.zero, i.size, i.bytes)) = some (some (.agg #[.int .i64 0, .int .i64 0, .int .i64 0, .int .i64 0]), 4, 32) by kernel_rfl)
  go_enter Tryz.func71, Tryz.ntmps71
  go_wp2_with (at_make; refine wpList_make_full _ rfl _ _ 36 rfl w.heap.size 130 i0 _ 4 Tryz.underlying36 hi hz0 hz1 .i64 .i64 n n n rfl rfl rfl rfl (by rw [hz2]; omega) (by unfold maxLen; omega) (Nat.le_refl _) ?_; intro w1 hown hg; have hb1 : Ext w w1 := Below.grown (Below.refl _ _) hg (Nat.le_refl _) (by simp))
  clear hg hi hz0 hz1 hz2
  go_loopw [4] (fun i wr => ∃ (k : Nat) (L : List Value), k ≤ n ∧ i = .int .i64 k ∧ wr.ownsRow w.heap.size 130 4 (.slice (some ⟨w.heap.size, 0, none⟩) n n) n L ∧ L.take (k * 4) = (xs.take k).flatMap Node.enc ∧ Ext w wr) (fun i _ => n - (intOf i).toNat)
  case atStart => exact ⟨0, _, Nat.zero_le _, rfl, hown, by simp, hb1⟩
  case round =>
    obtain ⟨k, L, hk, rfl, hownr, hL, hb⟩ := hrel
    clear hown hb1
    by_cases hlt : k < n
    · obtain ⟨b, o, x, cs, rfl, hbw, hx, _, hc, rfl, hok⟩ := (h.ext (Flat.mono _ _) hb).at_ hlt
      have c0 := hc 0 _ rfl
      have c1 := hc 1 _ rfl
      have c2 := hc 2 _ rfl
      have c3 := hc 3 _ rfl
      simp only [Nat.add_zero] at c0
      have HL := Lib.hid hL; have HX := Lib.hid hx; have HO := Lib.hid hownr
      clear hc hL hx hownr h
      go_wp2_with ((go_at_call 102; refine (toNode_c x _).mono ?_; rintro e w2 ⟨rfl, hb2⟩; obtain ⟨y0, hy0⟩ := owns_cell (owns_ext HO.out hb2) (j := k * 4) (by omega); obtain ⟨y1, hy1⟩ := owns_cell (owns_ext HO.out hb2) (j := k * 4 + 1) (by omega); obtain ⟨y2, hy2⟩ := owns_cell (owns_ext HO.out hb2) (j := k * 4 + 2) (by omega); obtain ⟨y3, hy3⟩ := owns_cell (owns_ext HO.out hb2) (j := k * 4 + 3) (by omega); have z0 := (owns_ext HO.out hb2).frozenAt (k * 4); have z1 := (owns_ext HO.out hb2).frozenAt (k * 4 + 1); have z2 := (owns_ext HO.out hb2).frozenAt (k * 4 + 2); have z3 := (owns_ext HO.out hb2).frozenAt (k * 4 + 3)))
      go_roundw
      case rel => exact ⟨k + 1, setAll L (k * 4) (Node.enc x), by omega, by go_num, owns_puts (Node.enc x) _ _ _ (owns_ext HO.out hb2), flat_step HL.out HO.out.1 hlt HX.out (Node.size x), Ext.puts (Node.enc x) _ _ (hb.trans hb2) (Nat.le_refl _)⟩
      case measure => simp [intOf]; omega
    · have hkn : k = n := by omega
      have HO := Lib.hid hownr
      have HL := Lib.hid hL
      clear hownr hL
      go_wp2
      exact ret_own rfl h.len HO.out HL.out Node.size h.all hkn hb

set_option maxHeartbeats 2000000 in
theorem eqNodeS_c (xs ys : List Node) (A A' : Option Addr) (n c n' c' : Nat) (w : World) (h1 : SlAt RNode 4 w A n xs) (h2 : SlAt RNode 4 w A' n' ys) (hl : n ≤ maxLen) :
    Calls Tryz.prog 81 #[.slice A n c, .slice A' n' c'] w (Ret w (.bool (decide (xs = ys)))) := by
  unfold maxLen at hl
  have hn := h1.len
  have hn' := h2.len
  go_enter Tryz.func81, Tryz.ntmps81
  by_cases hlen : n = n'
  · subst hlen
    have HN := Lib.hid hn; have HN' := Lib.hid hn'; clear hn hn'
    go_wp2
    go_loopw [5] (fun i wr => ∃ k : Nat, k ≤ n ∧ i = .int .i64 k ∧ decide (xs = ys) = decide (xs.drop k = ys.drop k) ∧ Ext w wr) (fun i _ => n - (intOf i).toNat)
    case atStart => exact ⟨0, Nat.zero_le _, rfl, rfl, Ext.refl _⟩
    case round =>
      obtain ⟨k, hk, rfl, hE, hb⟩ := hrel
      by_cases hlt : k < n
      · have HE := Lib.hid hE; clear hE
        obtain ⟨b, o, x, cs, rfl, hbw, hx, _, hc, rfl, _⟩ := (h1.ext (Flat.mono _ _) hb).at_ hlt
        obtain ⟨b', o', y, cs, rfl, hbw', hy, _, hc', rfl, _⟩ := (h2.ext (Flat.mono _ _) hb).at_ hlt
        have c0 := hc 0 _ rfl
        have c1 := hc 1 _ rfl
        have c2 := hc 2 _ rfl
        have c3 := hc 3 _ rfl
        simp only [Nat.add_zero] at c0
        have d0 := hc' 0 _ rfl
        have d1 := hc' 1 _ rfl
        have d2 := hc' 2 _ rfl
        have d3 := hc' 3 _ rfl
        simp only [Nat.add_zero] at d0
        have HX := Lib.hid hx; have HY := Lib.hid hy; have HB := Lib.hid hb
        clear hc hc' h1 h2 hx hy hb
        go_wp2
        have hcx := @Later.cell wr
        rcases Bool.eq_false_or_eq_true (decide (x = y)) with hxy | hxy
        all_goals
          refine wp_region_ext (by kernel_rfl) (by kernel_rfl) ?_
          repeat (go_big_quiet_step ((go_at_call 107; exact Calls.quiet_ext (eqNode_c x y _))))
          refine wpQuiet_nil ?_
          intro w1 hb1
          have HB1 := Lib.hid hb1
          clear hcx c0 c1 c2 c3 d0 d1 d2 d3 hb1
          go_wp2
        · go_roundw
          case rel => exact ⟨k + 1, by omega, by go_num, by rw [HE.out, drop_cons HX.out, drop_cons HY.out, of_decide_eq_true hxy]; simp, HB.out.trans HB1.out⟩
          case measure => simp [intOf]; omega
        · refine ret_bool rfl rfl rfl ?_ (HB.out.trans HB1.out)
          rw [HE.out, drop_cons HX.out, drop_cons HY.out]; symm; rw [decide_eq_false_iff_not]; intro e; injection e with e _; exact of_decide_eq_false hxy e
      · have HE := Lib.hid hE; clear hE
        go_wp2
        refine ret_bool rfl rfl rfl ?_ hb
        rw [HE.out, List.drop_eq_nil_of_le (by have := HN.out; omega), List.drop_eq_nil_of_le (by have := HN'.out; omega)]; rfl
  · have HN := Lib.hid hn; have HN' := Lib.hid hn'; clear hn hn'
    go_wp2
    refine ret_bool rfl rfl rfl ?_ (Ext.refl _)
    symm; rw [decide_eq_false_iff_not]; rintro rfl; exact hlen (HN.out.symm.trans HN'.out)

theorem szNodeS_c (A : Option Addr) (n c : Nat) (left : Int) (w : World) (hn : n ≤ maxLen) (hl : left ≤ 1048576) (hl0 : 0 ≤ left) : Calls Tryz.prog 61 #[.slice A n c, .int .i64 left] w (Ret w (.int .i64 (szM n left))) := by
  unfold maxLen at hn
  go_enter Tryz.func61, Tryz.ntmps61
  by_cases h : left - n < 0
  · go_wp2
    exact ret_int rfl rfl rfl (by unfold szM; split <;> omega) (Ext.refl _)
  · go_wp2
    exact ret_int rfl rfl rfl (by unfold szM; split <;> omega) (Ext.refl _)

set_option maxHeartbeats 2000000 in
theorem toPtS_c (xs : List Pt) (A : Option Addr) (n c : Nat) (w : World) (h : SlAt RPt 4 w A n xs) (hn : n ≤ 1048576) :
    Calls Tryz.prog 72 #[.slice A n c] w (RetOwn RPt 107 4 w xs) := by
  obtain ⟨i0, hi, hz0, hz1, hz2⟩ := info_parts (show (Tryz.prog.info? 107).map (fun i => (i.zero, i.size, i.bytes)) = some (some (.agg #[.int .i64 0, .int .i64 0, .int .i64 0, .int .i64 0]), 4, 32) by kernel_rfl)
  go_enter Tryz.func72, Tryz.ntmps72
  go_wp2_with (at_make; refine wpList_make_full _ rfl _ _ 40 rfl w.heap.size 107 i0 _ 4 Tryz.underlying40 hi hz0 hz1 .i64 .i64 n n n rfl rfl rfl rfl (by rw [hz2]; omega) (by unfold maxLen; omega) (Nat.le_refl _) ?_; intro w1 hown hg; have hb1 : Ext w w1 := Below.grown (Below.refl _ _) hg (Nat.le_refl _) (by simp))
  clear hg hi hz0 hz1 hz2
  go_loopw [4] (fun i wr => ∃ (k : Nat) (L : List Value), k ≤ n ∧ i = .int .i64 k ∧ wr.ownsRow w.heap.size 107 4 (.slice (some ⟨w.heap.size, 0, none⟩) n n) n L ∧ L.take (k * 4) = (xs.take k).flatMap Pt.enc ∧ Ext w wr) (fun i _ => n - (intOf i).toNat)
  case atStart => exact ⟨0, _, Nat.zero_le _, rfl, hown, by simp, hb1⟩
  case round =>
    obtain ⟨k, L, hk, rfl, hownr, hL, hb⟩ := hrel
    clear hown hb1
    by_cases hlt : k < n
    · obtain ⟨b, o, x, cs, rfl, hbw, hx, _, hc, rfl, hok⟩ := (h.ext (Flat.mono _ _) hb).at_ hlt
      have c0 := hc 0 _ rfl
      have c1 := hc 1 _ rfl
      have c2 := hc 2 _ rfl
      have c3 := hc 3 _ rfl
      simp only [Nat.add_zero] at c0
      have HL := Lib.hid hL; have HX := Lib.hid hx; have HO := Lib.hid hownr
      clear hc hL hx hownr h
      go_wp2_with ((go_at_call 103; refine (toPt_c x _).mono ?_; rintro e w2 ⟨rfl, hb2⟩; obtain ⟨y0, hy0⟩ := owns_cell (owns_ext HO.out hb2) (j := k * 4) (by omega); obtain ⟨y1, hy1⟩ := owns_cell (owns_ext HO.out hb2) (j := k * 4 + 1) (by omega); obtain ⟨y2, hy2⟩ := owns_cell (owns_ext HO.out hb2) (j := k * 4 + 2) (by omega); obtain ⟨y3, hy3⟩ := owns_cell (owns_ext HO.out hb2) (j := k * 4 + 3) (by omega); have z0 := (owns_ext HO.out hb2).frozenAt (k * 4); have z1 := (owns_ext HO.out hb2).frozenAt (k * 4 + 1); have z2 := (owns_ext HO.out hb2).frozenAt (k * 4 + 2); have z3 := (owns_ext HO.out hb2).frozenAt (k * 4 + 3)))
      go_roundw
      case rel => exact ⟨k + 1, setAll L (k * 4) (Pt.enc x), by omega, by go_num, owns_puts (Pt.enc x) _ _ _ (owns_ext HO.out hb2), flat_step HL.out HO.out.1 hlt HX.out (Pt.size x), Ext.puts (Pt.enc x) _ _ (hb.trans hb2) (Nat.le_refl _)⟩
      case measure => simp [intOf]; omega
    · have hkn : k = n := by omega
      have HO := Lib.hid hownr
      have HL := Lib.hid hL
      clear hownr hL
      go_wp2
      exact ret_own rfl h.len HO.out HL.out Pt.size h.all hkn hb

set_option maxHeartbeats 2000000 in
theorem eqPtS_c (xs ys : List Pt) (A A' : Option Addr) (n c n' c' : Nat) (w : World) (h1 : SlAt RPt 4 w A n xs) (h2 : SlAt RPt 4 w A' n' ys) (hl : n ≤ maxLen) :
    Calls Tryz.prog 82 #[.slice A n c, .slice A' n' c'] w (Ret w (.bool (decide (xs = ys)))) := by
  unfold maxLen at hl
  have hn := h1.len
  have hn' := h2.len
  go_enter Tryz.func82, Tryz.ntmps82
  by_cases hlen : n = n'
  · subst hlen
    have HN := Lib.hid hn; have HN' := Lib.hid hn'; clear hn hn'
    go_wp2
    go_loopw [5] (fun i wr => ∃ k : Nat, k ≤ n ∧ i = .int .i64 k ∧ decide (xs = ys) = decide (xs.drop k = ys.drop k) ∧ Ext w wr) (fun i _ => n - (intOf i).toNat)
    case atStart => exact ⟨0, Nat.zero_le _, rfl, rfl, Ext.refl _⟩
    case round =>
      obtain ⟨k, hk, rfl, hE, hb⟩ := hrel
      by_cases hlt : k < n
      · have HE := Lib.hid hE; clear hE
        obtain ⟨b, o, x, cs, rfl, hbw, hx, _, hc, rfl, _⟩ := (h1.ext (Flat.mono _ _) hb).at_ hlt
        obtain ⟨b', o', y, cs, rfl, hbw', hy, _, hc', rfl, _⟩ := (h2.ext (Flat.mono _ _) hb).at_ hlt
        have c0 := hc 0 _ rfl
        have c1 := hc 1 _ rfl
        have c2 := hc 2 _ rfl
        have c3 := hc 3 _ rfl
        simp only [Nat.add_zero] at c0
        have d0 := hc' 0 _ rfl
        have d1 := hc' 1 _ rfl
        have d2 := hc' 2 _ rfl
        have d3 := hc' 3 _ rfl
        simp only [Nat.add_zero] at d0
        have HX := Lib.hid hx; have HY := Lib.hid hy; have HB := Lib.hid hb
        clear hc hc' h1 h2 hx hy hb
        go_wp2
        have hcx := @Later.cell wr
        rcases Bool.eq_false_or_eq_true (decide (x = y)) with hxy | hxy
        all_goals
          refine wp_region_ext (by kernel_rfl) (by kernel_rfl) ?_
          repeat (go_big_quiet_step ((go_at_call 108; exact Calls.quiet_ext (eqPt_c x y _))))
          refine wpQuiet_nil ?_
          intro w1 hb1
          have HB1 := Lib.hid hb1
          clear hcx c0 c1 c2 c3 d0 d1 d2 d3 hb1
          go_wp2
        · go_roundw
          case rel => exact ⟨k + 1, by omega, by go_num, by rw [HE.out, drop_cons HX.out, drop_cons HY.out, of_decide_eq_true hxy]; simp, HB.out.trans HB1.out⟩
          case measure => simp [intOf]; omega
        · refine ret_bool rfl rfl rfl ?_ (HB.out.trans HB1.out)
          rw [HE.out, drop_cons HX.out, drop_cons HY.out]; symm; rw [decide_eq_false_iff_not]; intro e; injection e with e _; exact of_decide_eq_false hxy e
      · have HE := Lib.hid hE; clear hE
        go_wp2
        refine ret_bool rfl rfl rfl ?_ hb
        rw [HE.out, List.drop_eq_nil_of_le (by have := HN.out; omega), List.drop_eq_nil_of_le (by have := HN'.out; omega)]; rfl
  · have HN := Lib.hid hn; have HN' := Lib.hid hn'; clear hn hn'
    go_wp2
    refine ret_bool rfl rfl rfl ?_ (Ext.refl _)
    symm; rw [decide_eq_false_iff_not]; rintro rfl; exact hlen (HN.out.symm.trans HN'.out)

theorem szPtS_c (A : Option Addr) (n c : Nat) (left : Int) (w : World) (hn : n ≤ maxLen) (hl : left ≤ 1048576) (hl0 : 0 ≤ left) : Calls Tryz.prog 62 #[.slice A n c, .int .i64 left] w (Ret w (.int .i64 (szM n left))) := by
  unfold maxLen at hn
  go_enter Tryz.func62, Tryz.ntmps62
  by_cases h : left - n < 0
  · go_wp2
    exact ret_int rfl rfl rfl (by unfold szM; split <;> omega) (Ext.refl _)
  · go_wp2
    exact ret_int rfl rfl rfl (by unfold szM; split <;> omega) (Ext.refl _)

end Go.Proofs.YtgmlcohffdeplaaGreat
