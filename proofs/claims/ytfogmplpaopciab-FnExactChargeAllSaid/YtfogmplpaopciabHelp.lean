/- Contracts of the laws' own helpers. Written by gen.py. -/
import Derived.Test.YtfogmplpaopciabRows
import Derived.Test.YtfogmplpaopciabData
namespace Go.Proofs.Ytfogmplpaopciab
open Go.RowKit

set_option maxHeartbeats 1000000 in
theorem toVec_x (a0 : Int) (a1 : Int) (a2 : Int) (w : World) : Calls Try.prog 70 #[.agg #[.int .i64 a0, .int .i64 a1, .int .i64 a2]] w fun e w' => e = .returned (.agg #[.int .i64 a0, .int .i64 a1, .int .i64 a2]) ∧
    (((w.alloc (.cells #[.int .i64 a0, .int .i64 a1, .int .i64 a2] 90)).alloc (.cells #[.int .i64 a0, .int .i64 a1, .int .i64 a2] 83)).alloc (.cells #[.int .i64 a0, .int .i64 a1, .int .i64 a2] 83)) = w' := by
  go_enter Try.func70, Try.ntmps70
  go_wp2
  exact bodyPost_ret (v := .agg #[.int .i64 a0, .int .i64 a1, .int .i64 a2]) (by simp [results, Try.results70, go_sem]) rfl ⟨rfl, rfl⟩
theorem toVec_c (x : Vec) (w : World) : Calls Try.prog 70 #[.agg #[.int .i64 x.A, .int .i64 x.B, .int .i64 x.C]] w (Ret w (.agg #[.int .i64 x.A, .int .i64 x.B, .int .i64 x.C])) :=
  (toVec_x _ _ _ w).mono fun e w' ⟨h, hw⟩ => ⟨h, by rw [← hw]; repeat (first | exact Ext.refl _ | apply Ext.alloc)⟩

set_option maxHeartbeats 1000000 in
theorem eqVec_c (x y : Vec) (w : World) : Calls Try.prog 72 #[.agg #[.int .i64 x.A, .int .i64 x.B, .int .i64 x.C], .agg #[.int .i64 y.A, .int .i64 y.B, .int .i64 y.C]] w (Ret w (.bool (decide (x = y)))) := by
  go_enter Try.func72, Try.ntmps72
  go_wp2
  all_goals refine ret_bool rfl rfl rfl ?_ (by repeat (first | exact Ext.refl _ | apply Ext.alloc))
  all_goals (symm; (try simp only [bne_iff_ne, ne_eq, bne_eq_false_iff_eq] at *); first | (rw [decide_eq_false_iff_not, Vec.eq_iff]; simp_all; done) | (rw [decide_eq_false_iff_not, Vec.eq_iff]; intro hh; simp_all; done) | (rw [decide_eq_true_iff, Vec.eq_iff]; simp_all; done))

set_option maxHeartbeats 1000000 in
theorem toAccount_x (a0 : ByteArray) (a1 : Int) (a2 : Int) (w : World) : Calls Try.prog 41 #[.agg #[.string a0, .int .i64 a1, .int .i64 a2]] w fun e w' => e = .returned (.agg #[.string a0, .int .i64 a1, .int .i64 a2]) ∧
    (((w.alloc (.cells #[.string a0, .int .i64 a1, .int .i64 a2] 63)).alloc (.cells #[.string a0, .int .i64 a1, .int .i64 a2] 40)).alloc (.cells #[.string a0, .int .i64 a1, .int .i64 a2] 40)) = w' := by
  go_enter Try.func41, Try.ntmps41
  go_wp2
  exact bodyPost_ret (v := .agg #[.string a0, .int .i64 a1, .int .i64 a2]) (by simp [results, Try.results41, go_sem]) rfl ⟨rfl, rfl⟩
theorem toAccount_c (x : Account) (w : World) : Calls Try.prog 41 #[.agg #[.string x.Name, .int .i64 x.Share, .int .i64 x.Used]] w (Ret w (.agg #[.string x.Name, .int .i64 x.Share, .int .i64 x.Used])) :=
  (toAccount_x _ _ _ w).mono fun e w' ⟨h, hw⟩ => ⟨h, by rw [← hw]; repeat (first | exact Ext.refl _ | apply Ext.alloc)⟩

set_option maxHeartbeats 1000000 in
theorem eqAccount_c (x y : Account) (w : World) : Calls Try.prog 42 #[.agg #[.string x.Name, .int .i64 x.Share, .int .i64 x.Used], .agg #[.string y.Name, .int .i64 y.Share, .int .i64 y.Used]] w (Ret w (.bool (decide (x = y)))) := by
  go_enter Try.func42, Try.ntmps42
  go_wp2
  all_goals refine ret_bool rfl rfl rfl ?_ (by repeat (first | exact Ext.refl _ | apply Ext.alloc))
  all_goals (symm; (try simp only [bne_iff_ne, ne_eq, bne_eq_false_iff_eq] at *); first | (rw [decide_eq_false_iff_not, Account.eq_iff]; simp_all; done) | (rw [decide_eq_false_iff_not, Account.eq_iff]; intro hh; simp_all; done) | (rw [decide_eq_true_iff, Account.eq_iff]; simp_all [bytes_inj]; done))

set_option maxHeartbeats 1000000 in
theorem toBill_x (a0 : Int) (a1 : Int) (a2 : Int) (a3 : Int) (a4 : Int) (a5 : Int) (a6 : Int) (w : World) : Calls Try.prog 59 #[.agg #[.int .i64 a0, .int .i64 a1, .int .i64 a2, .int .i64 a3, .int .i64 a4, .int .i64 a5, .int .i64 a6]] w fun e w' => e = .returned (.agg #[.int .i64 a0, .int .i64 a1, .int .i64 a2, .int .i64 a3, .int .i64 a4, .int .i64 a5, .int .i64 a6]) ∧
    ((((((w.alloc (.cells #[.int .i64 a0, .int .i64 a1, .int .i64 a2, .int .i64 a3, .int .i64 a4, .int .i64 a5, .int .i64 a6] 92)).alloc (.cells #[.int .i64 a0, .int .i64 a1, .int .i64 a2, .int .i64 a3, .int .i64 a4, .int .i64 a5, .int .i64 a6] 85)).alloc (.cells #[.int .i64 a0, .int .i64 a1, .int .i64 a2, .int .i64 a3, .int .i64 a4, .int .i64 a5, .int .i64 a6] 85)).alloc (.cells #[.int .i64 a4, .int .i64 a5, .int .i64 a6] 90)).alloc (.cells #[.int .i64 a4, .int .i64 a5, .int .i64 a6] 83)).alloc (.cells #[.int .i64 a4, .int .i64 a5, .int .i64 a6] 83)) = w' := by
  go_enter Try.func59, Try.ntmps59
  go_wp2_with (first | (go_at_call 70; refine (toVec_x _ _ _ _).mono ?_; rintro e w1 ⟨rfl, rfl⟩))
  exact bodyPost_ret (v := .agg #[.int .i64 a0, .int .i64 a1, .int .i64 a2, .int .i64 a3, .int .i64 a4, .int .i64 a5, .int .i64 a6]) (by simp [results, Try.results59, go_sem]) rfl ⟨rfl, rfl⟩
theorem toBill_c (x : Bill) (w : World) : Calls Try.prog 59 #[.agg #[.int .i64 x.Id, .int .i64 x.From, .int .i64 x.To, .int .i64 x.Nodes, .int .i64 x.Need.A, .int .i64 x.Need.B, .int .i64 x.Need.C]] w (Ret w (.agg #[.int .i64 x.Id, .int .i64 x.From, .int .i64 x.To, .int .i64 x.Nodes, .int .i64 x.Need.A, .int .i64 x.Need.B, .int .i64 x.Need.C])) :=
  (toBill_x _ _ _ _ _ _ _ w).mono fun e w' ⟨h, hw⟩ => ⟨h, by rw [← hw]; repeat (first | exact Ext.refl _ | apply Ext.alloc)⟩

set_option maxHeartbeats 2000000 in
theorem eqBill_c (x y : Bill) (w : World) : Calls Try.prog 64 #[.agg #[.int .i64 x.Id, .int .i64 x.From, .int .i64 x.To, .int .i64 x.Nodes, .int .i64 x.Need.A, .int .i64 x.Need.B, .int .i64 x.Need.C], .agg #[.int .i64 y.Id, .int .i64 y.From, .int .i64 y.To, .int .i64 y.Nodes, .int .i64 y.Need.A, .int .i64 y.Need.B, .int .i64 y.Need.C]] w (Ret w (.bool (decide (x = y)))) := by
  go_enter Try.func64, Try.ntmps64
  go_wp2
  all_goals refine ret_bool rfl rfl rfl ?_ (by repeat (first | exact Ext.refl _ | apply Ext.alloc))
  all_goals (symm; (try simp only [bne_iff_ne, ne_eq, bne_eq_false_iff_eq] at *); first | (rw [decide_eq_false_iff_not, Bill.eq_iff]; simp_all [Vec.eq_iff]; done) | (rw [decide_eq_true_iff, Bill.eq_iff]; simp_all [Vec.eq_iff]; done))

set_option maxHeartbeats 1000000 in
theorem toOwner_x (a0 : Int) (a1 : ByteArray) (w : World) : Calls Try.prog 60 #[.agg #[.int .i64 a0, .string a1]] w fun e w' => e = .returned (.agg #[.int .i64 a0, .string a1]) ∧
    (((w.alloc (.cells #[.int .i64 a0, .string a1] 80)).alloc (.cells #[.int .i64 a0, .string a1] 93)).alloc (.cells #[.int .i64 a0, .string a1] 93)) = w' := by
  go_enter Try.func60, Try.ntmps60
  go_wp2
  exact bodyPost_ret (v := .agg #[.int .i64 a0, .string a1]) (by simp [results, Try.results60, go_sem]) rfl ⟨rfl, rfl⟩
theorem toOwner_c (x : Owner) (w : World) : Calls Try.prog 60 #[.agg #[.int .i64 x.Id, .string x.Name]] w (Ret w (.agg #[.int .i64 x.Id, .string x.Name])) :=
  (toOwner_x _ _ w).mono fun e w' ⟨h, hw⟩ => ⟨h, by rw [← hw]; repeat (first | exact Ext.refl _ | apply Ext.alloc)⟩

set_option maxHeartbeats 1000000 in
theorem eqOwner_c (x y : Owner) (w : World) : Calls Try.prog 65 #[.agg #[.int .i64 x.Id, .string x.Name], .agg #[.int .i64 y.Id, .string y.Name]] w (Ret w (.bool (decide (x = y)))) := by
  go_enter Try.func65, Try.ntmps65
  go_wp2
  all_goals refine ret_bool rfl rfl rfl ?_ (by repeat (first | exact Ext.refl _ | apply Ext.alloc))
  all_goals (symm; (try simp only [bne_iff_ne, ne_eq, bne_eq_false_iff_eq] at *); first | (rw [decide_eq_false_iff_not, Owner.eq_iff]; simp_all; done) | (rw [decide_eq_false_iff_not, Owner.eq_iff]; intro hh; simp_all; done) | (rw [decide_eq_true_iff, Owner.eq_iff]; simp_all [bytes_inj]; done))

set_option maxHeartbeats 2000000 in
theorem eqIntS_c (xs ys : List Int) (A A' : Option Addr) (n c n' c' : Nat) (w : World) (h1 : SlAt RInt 1 w A n xs) (h2 : SlAt RInt 1 w A' n' ys) (hl : n ≤ maxLen) :
    Calls Try.prog 12 #[.slice A n c, .slice A' n' c'] w (Ret w (.bool (decide (xs = ys)))) := by
  unfold maxLen at hl
  have hn := h1.len
  have hn' := h2.len
  go_enter Try.func12, Try.ntmps12
  by_cases hlen : n = n'
  · subst hlen
    have HN := Lib.hid hn; have HN' := Lib.hid hn'; clear hn hn'
    go_wp2
    go_loopw [5] (fun i wr => ∃ k : Nat, k ≤ n ∧ i = .int .i64 k ∧ decide (xs = ys) = decide (xs.drop k = ys.drop k) ∧ Ext w wr) (fun i _ => n - (intOf i).toNat)
    case atStart => exact ⟨0, Nat.zero_le _, rfl, rfl, Ext.refl _⟩
    case round =>
      obtain ⟨k, hk, rfl, hE, hb⟩ := hrel
      by_cases hlt : k < n
      · have HE := Lib.hid hE; clear hE
        obtain ⟨b, o, x, cs, rfl, hbw, hx, _, hc, rfl, _⟩ := (h1.ext (Flat.mono _ _) hb).at_ hlt
        obtain ⟨b', o', y, cs, rfl, hbw', hy, _, hc', rfl, _⟩ := (h2.ext (Flat.mono _ _) hb).at_ hlt
        have c0 := hc 0 _ rfl
        simp only [Nat.mul_one, Nat.add_zero] at c0
        have d0 := hc' 0 _ rfl
        simp only [Nat.mul_one, Nat.add_zero] at d0
        have HX := Lib.hid hx; have HY := Lib.hid hy; have HB := Lib.hid hb
        clear hc hc' h1 h2 hx hy hb
        go_wp2
        have hcx := @Later.cell wr
        rcases Bool.eq_false_or_eq_true (x != y) with hxy | hxy
        all_goals
          refine wp_region_ext (by kernel_rfl) (by kernel_rfl) ?_
          repeat (go_big_quiet_step (fail))
          refine wpQuiet_nil ?_
          intro w1 hb1
          have HB1 := Lib.hid hb1
          clear hcx c0 d0 hb1
          go_wp2
        · refine ret_bool rfl rfl rfl ?_ (HB.out.trans HB1.out)
          rw [HE.out, drop_cons HX.out, drop_cons HY.out]; symm; rw [decide_eq_false_iff_not]; intro e; injection e with e _; exact (bne_iff_ne.1 hxy) e
        · go_roundw
          case rel => exact ⟨k + 1, by omega, by go_num, by rw [HE.out, drop_cons HX.out, drop_cons HY.out, bne_eq_false_iff_eq.1 hxy]; simp, HB.out.trans HB1.out⟩
          case measure => simp [intOf]; omega
      · have HE := Lib.hid hE; clear hE
        go_wp2
        refine ret_bool rfl rfl rfl ?_ hb
        rw [HE.out, List.drop_eq_nil_of_le (by have := HN.out; omega), List.drop_eq_nil_of_le (by have := HN'.out; omega)]; rfl
  · have HN := Lib.hid hn; have HN' := Lib.hid hn'; clear hn hn'
    go_wp2
    refine ret_bool rfl rfl rfl ?_ (Ext.refl _)
    symm; rw [decide_eq_false_iff_not]; rintro rfl; exact hlen (HN.out.symm.trans HN'.out)

set_option maxHeartbeats 2000000 in
theorem toAccountS_c (xs : List Account) (A : Option Addr) (n c : Nat) (w : World) (h : SlAt RAccount 3 w A n xs) (hn : n ≤ 1048576) :
    Calls Try.prog 10 #[.slice A n c] w (RetOwn RAccount 40 3 w xs) := by
  obtain ⟨i0, hi, hz0, hz1, hz2⟩ := info_parts (show (Try.prog.info? 40).map (fun i => (i.zero, i.size, i.bytes)) = some (some (.agg #[.string ByteArray.empty, .int .i64 0, .int .i64 0]), 3, 32) by kernel_rfl)
  go_enter Try.func10, Try.ntmps10
  go_wp2_with (at_make; refine wpList_make_full _ rfl _ _ 26 rfl w.heap.size 40 i0 _ 3 Try.underlying26 hi hz0 hz1 .i64 .i64 n n n rfl rfl rfl rfl (by rw [hz2]; omega) (by unfold maxLen; omega) (Nat.le_refl _) ?_; intro w1 hown hg; have hb1 : Ext w w1 := Below.grown (Below.refl _ _) hg (Nat.le_refl _) (by simp))
  clear hg hi hz0 hz1 hz2
  go_loopw [4] (fun i wr => ∃ (k : Nat) (L : List Value), k ≤ n ∧ i = .int .i64 k ∧ wr.ownsRow w.heap.size 40 3 (.slice (some ⟨w.heap.size, 0, none⟩) n n) n L ∧ L.take (k * 3) = (xs.take k).flatMap Account.enc ∧ Ext w wr) (fun i _ => n - (intOf i).toNat)
  case atStart => exact ⟨0, _, Nat.zero_le _, rfl, hown, by simp, hb1⟩
  case round =>
    obtain ⟨k, L, hk, rfl, hownr, hL, hb⟩ := hrel
    clear hown hb1
    by_cases hlt : k < n
    · obtain ⟨b, o, x, cs, rfl, hbw, hx, _, hc, rfl, hok⟩ := (h.ext (Flat.mono _ _) hb).at_ hlt
      have c0 := hc 0 _ rfl
      have c1 := hc 1 _ rfl
      have c2 := hc 2 _ rfl
      simp only [Nat.add_zero] at c0
      have HL := Lib.hid hL; have HX := Lib.hid hx; have HO := Lib.hid hownr
      clear hc hL hx hownr h
      go_wp2_with ((go_at_call 41; refine (toAccount_c x _).mono ?_; rintro e w2 ⟨rfl, hb2⟩; obtain ⟨y0, hy0⟩ := owns_cell (owns_ext HO.out hb2) (j := k * 3) (by omega); obtain ⟨y1, hy1⟩ := owns_cell (owns_ext HO.out hb2) (j := k * 3 + 1) (by omega); obtain ⟨y2, hy2⟩ := owns_cell (owns_ext HO.out hb2) (j := k * 3 + 2) (by omega); have z0 := (owns_ext HO.out hb2).frozenAt (k * 3); have z1 := (owns_ext HO.out hb2).frozenAt (k * 3 + 1); have z2 := (owns_ext HO.out hb2).frozenAt (k * 3 + 2)))
      go_roundw
      case rel => exact ⟨k + 1, setAll L (k * 3) (Account.enc x), by omega, by go_num, owns_puts (Account.enc x) _ _ _ (owns_ext HO.out hb2), flat_step HL.out HO.out.1 hlt HX.out (Account.size x), Ext.puts (Account.enc x) _ _ (hb.trans hb2) (Nat.le_refl _)⟩
      case measure => simp [intOf]; omega
    · have hkn : k = n := by omega
      have HO := Lib.hid hownr
      have HL := Lib.hid hL
      clear hownr hL
      go_wp2
      exact ret_own rfl h.len HO.out HL.out Account.size h.all hkn hb

set_option maxHeartbeats 2000000 in
theorem eqAccountS_c (xs ys : List Account) (A A' : Option Addr) (n c n' c' : Nat) (w : World) (h1 : SlAt RAccount 3 w A n xs) (h2 : SlAt RAccount 3 w A' n' ys) (hl : n ≤ maxLen) :
    Calls Try.prog 13 #[.slice A n c, .slice A' n' c'] w (Ret w (.bool (decide (xs = ys)))) := by
  unfold maxLen at hl
  have hn := h1.len
  have hn' := h2.len
  go_enter Try.func13, Try.ntmps13
  by_cases hlen : n = n'
  · subst hlen
    have HN := Lib.hid hn; have HN' := Lib.hid hn'; clear hn hn'
    go_wp2
    go_loopw [5] (fun i wr => ∃ k : Nat, k ≤ n ∧ i = .int .i64 k ∧ decide (xs = ys) = decide (xs.drop k = ys.drop k) ∧ Ext w wr) (fun i _ => n - (intOf i).toNat)
    case atStart => exact ⟨0, Nat.zero_le _, rfl, rfl, Ext.refl _⟩
    case round =>
      obtain ⟨k, hk, rfl, hE, hb⟩ := hrel
      by_cases hlt : k < n
      · have HE := Lib.hid hE; clear hE
        obtain ⟨b, o, x, cs, rfl, hbw, hx, _, hc, rfl, _⟩ := (h1.ext (Flat.mono _ _) hb).at_ hlt
        obtain ⟨b', o', y, cs, rfl, hbw', hy, _, hc', rfl, _⟩ := (h2.ext (Flat.mono _ _) hb).at_ hlt
        have c0 := hc 0 _ rfl
        have c1 := hc 1 _ rfl
        have c2 := hc 2 _ rfl
        simp only [Nat.add_zero] at c0
        have d0 := hc' 0 _ rfl
        have d1 := hc' 1 _ rfl
        have d2 := hc' 2 _ rfl
        simp only [Nat.add_zero] at d0
        have HX := Lib.hid hx; have HY := Lib.hid hy; have HB := Lib.hid hb
        clear hc hc' h1 h2 hx hy hb
        go_wp2
        have hcx := @Later.cell wr
        rcases Bool.eq_false_or_eq_true (decide (x = y)) with hxy | hxy
        all_goals
          refine wp_region_ext (by kernel_rfl) (by kernel_rfl) ?_
          repeat (go_big_quiet_step ((go_at_call 42; exact Calls.quiet_ext (eqAccount_c x y _))))
          refine wpQuiet_nil ?_
          intro w1 hb1
          have HB1 := Lib.hid hb1
          clear hcx c0 c1 c2 d0 d1 d2 hb1
          go_wp2
        · go_roundw
          case rel => exact ⟨k + 1, by omega, by go_num, by rw [HE.out, drop_cons HX.out, drop_cons HY.out, of_decide_eq_true hxy]; simp, HB.out.trans HB1.out⟩
          case measure => simp [intOf]; omega
        · refine ret_bool rfl rfl rfl ?_ (HB.out.trans HB1.out)
          rw [HE.out, drop_cons HX.out, drop_cons HY.out]; symm; rw [decide_eq_false_iff_not]; intro e; injection e with e _; exact of_decide_eq_false hxy e
      · have HE := Lib.hid hE; clear hE
        go_wp2
        refine ret_bool rfl rfl rfl ?_ hb
        rw [HE.out, List.drop_eq_nil_of_le (by have := HN.out; omega), List.drop_eq_nil_of_le (by have := HN'.out; omega)]; rfl
  · have HN := Lib.hid hn; have HN' := Lib.hid hn'; clear hn hn'
    go_wp2
    refine ret_bool rfl rfl rfl ?_ (Ext.refl _)
    symm; rw [decide_eq_false_iff_not]; rintro rfl; exact hlen (HN.out.symm.trans HN'.out)

set_option maxHeartbeats 1000000 in
theorem szAccount_c (x : Account) (l : Int) (w : World) (hs : x.Name.size ≤ maxLen) (h0 : 0 ≤ l) (h1 : l ≤ 1048576) : Calls Try.prog 38 #[.agg #[.string x.Name, .int .i64 x.Share, .int .i64 x.Used], .int .i64 l] w (Ret w (.int .i64 (szOne x.Name.size l))) := by
  unfold maxLen at hs
  go_enter Try.func38, Try.ntmps38
  rcases szOne_cases x.Name.size l with ⟨h, e⟩ | ⟨h, h2, e⟩
  · rw [e]
    have hlt : l - (x.Name.size : Int) < 0 := by unfold szOne at h; split at h <;> omega
    clear e h
    go_wp2
    exact ret_is (by simp [results, Try.results38, go_sem]) rfl (by repeat (first | exact Ext.refl _ | apply Ext.alloc))
  · rw [e]
    have hlt : ¬ l - (x.Name.size : Int) < 0 := by omega
    clear e h
    go_wp2
    exact ret_is (by simp [results, Try.results38, go_sem]) rfl (by repeat (first | exact Ext.refl _ | apply Ext.alloc))
set_option maxHeartbeats 1000000 in
theorem szAccountS_c (xs : List Account) (A : Option Addr) (n c : Nat) (left : Int) (w : World) (h : SlAt RAccount 3 w A n xs) (hn : n ≤ maxLen) (hl : left ≤ 1048576) (hl0 : 0 ≤ left) : Calls Try.prog 8 #[.slice A n c, .int .i64 left] w (Ret w (.int .i64 (szSM (fun x => x.Name.size) xs left))) := by
  unfold maxLen at hn
  have HN := Lib.hid h.len
  go_enter Try.func8, Try.ntmps8
  by_cases hb : left - n < 0
  · have E := Lib.hid (show szSM (fun x => x.Name.size) xs left = -1 by unfold szSM; rw [HN.out, if_pos hb])
    go_wp2
    rw [E.out]
    exact ret_is (by simp [results, Try.results8, go_sem]) rfl (Ext.refl _)
  · have E := Lib.hid (show szSM (fun x => x.Name.size) xs left = szStr (fun x => x.Name.size) xs (left - n) by unfold szSM; rw [HN.out, if_neg hb])
    go_wp2
    go_loopw [1, 5] (fun q i wr => ∃ (k : Nat) (l : Int), k ≤ n ∧ i = .int .i64 k ∧ q = .int .i64 l ∧ 0 ≤ l ∧ l ≤ 1048576 ∧ Ext w wr ∧ szStr (fun x => x.Name.size) xs (left - n) = szStr (fun x => x.Name.size) (xs.drop k) l) (fun _ i _ => n - (intOf i).toNat)
    case atStart => exact ⟨0, left - n, Nat.zero_le _, rfl, rfl, by omega, by omega, Ext.refl _, rfl⟩
    case round =>
      obtain ⟨k, l, hk, rfl, rfl, hl1, hl2, hb', hE⟩ := hrel
      have HE := Lib.hid hE; clear hE
      by_cases hlt : k < n
      · obtain ⟨b, o, x, cs, rfl, hbw, hx, _, hc, rfl, hok⟩ := (h.ext (Flat.mono _ _) hb').at_ hlt
        have hsz := hok.1
        clear hok
        have c0 := hc 0 _ rfl
        have c1 := hc 1 _ rfl
        have c2 := hc 2 _ rfl
        simp only [Nat.add_zero] at c0
        have HX := Lib.hid hx
        clear hc hx h
        have HO := Lib.hid (szOne_cases x.Name.size l)
        rcases Bool.eq_false_or_eq_true (decide (szOne x.Name.size l < 0)) with hd | hd
        all_goals
          go_wp2_with ((go_at_call 38; refine (szAccount_c x l _ hsz hl1 hl2).mono ?_; rintro e w1 ⟨rfl, hb1⟩))
        · have hd' := of_decide_eq_true hd
          rw [E.out, HE.out, drop_cons HX.out, szStr, if_pos hd']
          exact ret_is (by simp [results, Try.results8, go_sem]) rfl (hb'.trans hb1)
        · have hd' := of_decide_eq_false hd
          go_roundw
          case rel => exact ⟨k + 1, szOne x.Name.size l, by omega, by go_num, rfl, by omega, by have := HO.out; omega, hb'.trans hb1, by rw [HE.out, drop_cons HX.out, szStr, if_neg hd']⟩
          case measure => simp [intOf]; omega
      · go_wp2
        rw [E.out, HE.out, List.drop_eq_nil_of_le (by have := HN.out; omega), szStr]
        exact ret_is (by simp [results, Try.results8, go_sem]) rfl hb'

set_option maxHeartbeats 2000000 in
theorem toBillS_c (xs : List Bill) (A : Option Addr) (n c : Nat) (w : World) (h : SlAt RBill 7 w A n xs) (hn : n ≤ 1048576) :
    Calls Try.prog 28 #[.slice A n c] w (RetOwn RBill 85 7 w xs) := by
  obtain ⟨i0, hi, hz0, hz1, hz2⟩ := info_parts (show (Try.prog.info? 85).map (fun i => (i.zero, i.size, i.bytes)) = some (some (.agg #[.int .i64 0, .int .i64 0, .int .i64 0, .int .i64 0, .int .i64 0, .int .i64 0, .int .i64 0]), 7, 56) by kernel_rfl)
  go_enter Try.func28, Try.ntmps28
  go_wp2_with (at_make; refine wpList_make_full _ rfl _ _ 51 rfl w.heap.size 85 i0 _ 7 Try.underlying51 hi hz0 hz1 .i64 .i64 n n n rfl rfl rfl rfl (by rw [hz2]; omega) (by unfold maxLen; omega) (Nat.le_refl _) ?_; intro w1 hown hg; have hb1 : Ext w w1 := Below.grown (Below.refl _ _) hg (Nat.le_refl _) (by simp))
  clear hg hi hz0 hz1 hz2
  go_loopw [4] (fun i wr => ∃ (k : Nat) (L : List Value), k ≤ n ∧ i = .int .i64 k ∧ wr.ownsRow w.heap.size 85 7 (.slice (some ⟨w.heap.size, 0, none⟩) n n) n L ∧ L.take (k * 7) = (xs.take k).flatMap Bill.enc ∧ Ext w wr) (fun i _ => n - (intOf i).toNat)
  case atStart => exact ⟨0, _, Nat.zero_le _, rfl, hown, by simp, hb1⟩
  case round =>
    obtain ⟨k, L, hk, rfl, hownr, hL, hb⟩ := hrel
    clear hown hb1
    by_cases hlt : k < n
    · obtain ⟨b, o, x, cs, rfl, hbw, hx, _, hc, rfl, hok⟩ := (h.ext (Flat.mono _ _) hb).at_ hlt
      have c0 := hc 0 _ rfl
      have c1 := hc 1 _ rfl
      have c2 := hc 2 _ rfl
      have c3 := hc 3 _ rfl
      have c4 := hc 4 _ rfl
      have c5 := hc 5 _ rfl
      have c6 := hc 6 _ rfl
      simp only [Nat.add_zero] at c0
      have HL := Lib.hid hL; have HX := Lib.hid hx; have HO := Lib.hid hownr
      clear hc hL hx hownr h
      go_wp2_with ((go_at_call 59; refine (toBill_c x _).mono ?_; rintro e w2 ⟨rfl, hb2⟩; obtain ⟨y0, hy0⟩ := owns_cell (owns_ext HO.out hb2) (j := k * 7) (by omega); obtain ⟨y1, hy1⟩ := owns_cell (owns_ext HO.out hb2) (j := k * 7 + 1) (by omega); obtain ⟨y2, hy2⟩ := owns_cell (owns_ext HO.out hb2) (j := k * 7 + 2) (by omega); obtain ⟨y3, hy3⟩ := owns_cell (owns_ext HO.out hb2) (j := k * 7 + 3) (by omega); obtain ⟨y4, hy4⟩ := owns_cell (owns_ext HO.out hb2) (j := k * 7 + 4) (by omega); obtain ⟨y5, hy5⟩ := owns_cell (owns_ext HO.out hb2) (j := k * 7 + 5) (by omega); obtain ⟨y6, hy6⟩ := owns_cell (owns_ext HO.out hb2) (j := k * 7 + 6) (by omega); have z0 := (owns_ext HO.out hb2).frozenAt (k * 7); have z1 := (owns_ext HO.out hb2).frozenAt (k * 7 + 1); have z2 := (owns_ext HO.out hb2).frozenAt (k * 7 + 2); have z3 := (owns_ext HO.out hb2).frozenAt (k * 7 + 3); have z4 := (owns_ext HO.out hb2).frozenAt (k * 7 + 4); have z5 := (owns_ext HO.out hb2).frozenAt (k * 7 + 5); have z6 := (owns_ext HO.out hb2).frozenAt (k * 7 + 6)))
      go_roundw
      case rel => exact ⟨k + 1, setAll L (k * 7) (Bill.enc x), by omega, by go_num, owns_puts (Bill.enc x) _ _ _ (owns_ext HO.out hb2), flat_step HL.out HO.out.1 hlt HX.out (Bill.size x), Ext.puts (Bill.enc x) _ _ (hb.trans hb2) (Nat.le_refl _)⟩
      case measure => simp [intOf]; omega
    · have hkn : k = n := by omega
      have HO := Lib.hid hownr
      have HL := Lib.hid hL
      clear hownr hL
      go_wp2
      exact ret_own rfl h.len HO.out HL.out Bill.size h.all hkn hb

set_option maxHeartbeats 2000000 in
theorem eqBillS_c (xs ys : List Bill) (A A' : Option Addr) (n c n' c' : Nat) (w : World) (h1 : SlAt RBill 7 w A n xs) (h2 : SlAt RBill 7 w A' n' ys) (hl : n ≤ maxLen) :
    Calls Try.prog 31 #[.slice A n c, .slice A' n' c'] w (Ret w (.bool (decide (xs = ys)))) := by
  unfold maxLen at hl
  have hn := h1.len
  have hn' := h2.len
  go_enter Try.func31, Try.ntmps31
  by_cases hlen : n = n'
  · subst hlen
    have HN := Lib.hid hn; have HN' := Lib.hid hn'; clear hn hn'
    go_wp2
    go_loopw [5] (fun i wr => ∃ k : Nat, k ≤ n ∧ i = .int .i64 k ∧ decide (xs = ys) = decide (xs.drop k = ys.drop k) ∧ Ext w wr) (fun i _ => n - (intOf i).toNat)
    case atStart => exact ⟨0, Nat.zero_le _, rfl, rfl, Ext.refl _⟩
    case round =>
      obtain ⟨k, hk, rfl, hE, hb⟩ := hrel
      by_cases hlt : k < n
      · have HE := Lib.hid hE; clear hE
        obtain ⟨b, o, x, cs, rfl, hbw, hx, _, hc, rfl, _⟩ := (h1.ext (Flat.mono _ _) hb).at_ hlt
        obtain ⟨b', o', y, cs, rfl, hbw', hy, _, hc', rfl, _⟩ := (h2.ext (Flat.mono _ _) hb).at_ hlt
        have c0 := hc 0 _ rfl
        have c1 := hc 1 _ rfl
        have c2 := hc 2 _ rfl
        have c3 := hc 3 _ rfl
        have c4 := hc 4 _ rfl
        have c5 := hc 5 _ rfl
        have c6 := hc 6 _ rfl
        simp only [Nat.add_zero] at c0
        have d0 := hc' 0 _ rfl
        have d1 := hc' 1 _ rfl
        have d2 := hc' 2 _ rfl
        have d3 := hc' 3 _ rfl
        have d4 := hc' 4 _ rfl
        have d5 := hc' 5 _ rfl
        have d6 := hc' 6 _ rfl
        simp only [Nat.add_zero] at d0
        have HX := Lib.hid hx; have HY := Lib.hid hy; have HB := Lib.hid hb
        clear hc hc' h1 h2 hx hy hb
        go_wp2
        have hcx := @Later.cell wr
        rcases Bool.eq_false_or_eq_true (decide (x = y)) with hxy | hxy
        all_goals
          refine wp_region_ext (by kernel_rfl) (by kernel_rfl) ?_
          repeat (go_big_quiet_step ((go_at_call 64; exact Calls.quiet_ext (eqBill_c x y _))))
          refine wpQuiet_nil ?_
          intro w1 hb1
          have HB1 := Lib.hid hb1
          clear hcx c0 c1 c2 c3 c4 c5 c6 d0 d1 d2 d3 d4 d5 d6 hb1
          go_wp2
        · go_roundw
          case rel => exact ⟨k + 1, by omega, by go_num, by rw [HE.out, drop_cons HX.out, drop_cons HY.out, of_decide_eq_true hxy]; simp, HB.out.trans HB1.out⟩
          case measure => simp [intOf]; omega
        · refine ret_bool rfl rfl rfl ?_ (HB.out.trans HB1.out)
          rw [HE.out, drop_cons HX.out, drop_cons HY.out]; symm; rw [decide_eq_false_iff_not]; intro e; injection e with e _; exact of_decide_eq_false hxy e
      · have HE := Lib.hid hE; clear hE
        go_wp2
        refine ret_bool rfl rfl rfl ?_ hb
        rw [HE.out, List.drop_eq_nil_of_le (by have := HN.out; omega), List.drop_eq_nil_of_le (by have := HN'.out; omega)]; rfl
  · have HN := Lib.hid hn; have HN' := Lib.hid hn'; clear hn hn'
    go_wp2
    refine ret_bool rfl rfl rfl ?_ (Ext.refl _)
    symm; rw [decide_eq_false_iff_not]; rintro rfl; exact hlen (HN.out.symm.trans HN'.out)

theorem szBillS_c (A : Option Addr) (n c : Nat) (left : Int) (w : World) (hn : n ≤ maxLen) (hl : left ≤ 1048576) (hl0 : 0 ≤ left) : Calls Try.prog 25 #[.slice A n c, .int .i64 left] w (Ret w (.int .i64 (szM n left))) := by
  unfold maxLen at hn
  go_enter Try.func25, Try.ntmps25
  by_cases h : left - n < 0
  · go_wp2
    exact ret_int rfl rfl rfl (by unfold szM; split <;> omega) (Ext.refl _)
  · go_wp2
    exact ret_int rfl rfl rfl (by unfold szM; split <;> omega) (Ext.refl _)

set_option maxHeartbeats 2000000 in
theorem toOwnerS_c (xs : List Owner) (A : Option Addr) (n c : Nat) (w : World) (h : SlAt ROwner 2 w A n xs) (hn : n ≤ 1048576) :
    Calls Try.prog 29 #[.slice A n c] w (RetOwn ROwner 93 2 w xs) := by
  obtain ⟨i0, hi, hz0, hz1, hz2⟩ := info_parts (show (Try.prog.info? 93).map (fun i => (i.zero, i.size, i.bytes)) = some (some (.agg #[.int .i64 0, .string ByteArray.empty]), 2, 24) by kernel_rfl)
  go_enter Try.func29, Try.ntmps29
  go_wp2_with (at_make; refine wpList_make_full _ rfl _ _ 53 rfl w.heap.size 93 i0 _ 2 Try.underlying53 hi hz0 hz1 .i64 .i64 n n n rfl rfl rfl rfl (by rw [hz2]; omega) (by unfold maxLen; omega) (Nat.le_refl _) ?_; intro w1 hown hg; have hb1 : Ext w w1 := Below.grown (Below.refl _ _) hg (Nat.le_refl _) (by simp))
  clear hg hi hz0 hz1 hz2
  go_loopw [4] (fun i wr => ∃ (k : Nat) (L : List Value), k ≤ n ∧ i = .int .i64 k ∧ wr.ownsRow w.heap.size 93 2 (.slice (some ⟨w.heap.size, 0, none⟩) n n) n L ∧ L.take (k * 2) = (xs.take k).flatMap Owner.enc ∧ Ext w wr) (fun i _ => n - (intOf i).toNat)
  case atStart => exact ⟨0, _, Nat.zero_le _, rfl, hown, by simp, hb1⟩
  case round =>
    obtain ⟨k, L, hk, rfl, hownr, hL, hb⟩ := hrel
    clear hown hb1
    by_cases hlt : k < n
    · obtain ⟨b, o, x, cs, rfl, hbw, hx, _, hc, rfl, hok⟩ := (h.ext (Flat.mono _ _) hb).at_ hlt
      have c0 := hc 0 _ rfl
      have c1 := hc 1 _ rfl
      simp only [Nat.add_zero] at c0
      have HL := Lib.hid hL; have HX := Lib.hid hx; have HO := Lib.hid hownr
      clear hc hL hx hownr h
      go_wp2_with ((go_at_call 60; refine (toOwner_c x _).mono ?_; rintro e w2 ⟨rfl, hb2⟩; obtain ⟨y0, hy0⟩ := owns_cell (owns_ext HO.out hb2) (j := k * 2) (by omega); obtain ⟨y1, hy1⟩ := owns_cell (owns_ext HO.out hb2) (j := k * 2 + 1) (by omega); have z0 := (owns_ext HO.out hb2).frozenAt (k * 2); have z1 := (owns_ext HO.out hb2).frozenAt (k * 2 + 1)))
      go_roundw
      case rel => exact ⟨k + 1, setAll L (k * 2) (Owner.enc x), by omega, by go_num, owns_puts (Owner.enc x) _ _ _ (owns_ext HO.out hb2), flat_step HL.out HO.out.1 hlt HX.out (Owner.size x), Ext.puts (Owner.enc x) _ _ (hb.trans hb2) (Nat.le_refl _)⟩
      case measure => simp [intOf]; omega
    · have hkn : k = n := by omega
      have HO := Lib.hid hownr
      have HL := Lib.hid hL
      clear hownr hL
      go_wp2
      exact ret_own rfl h.len HO.out HL.out Owner.size h.all hkn hb

set_option maxHeartbeats 2000000 in
theorem eqOwnerS_c (xs ys : List Owner) (A A' : Option Addr) (n c n' c' : Nat) (w : World) (h1 : SlAt ROwner 2 w A n xs) (h2 : SlAt ROwner 2 w A' n' ys) (hl : n ≤ maxLen) :
    Calls Try.prog 32 #[.slice A n c, .slice A' n' c'] w (Ret w (.bool (decide (xs = ys)))) := by
  unfold maxLen at hl
  have hn := h1.len
  have hn' := h2.len
  go_enter Try.func32, Try.ntmps32
  by_cases hlen : n = n'
  · subst hlen
    have HN := Lib.hid hn; have HN' := Lib.hid hn'; clear hn hn'
    go_wp2
    go_loopw [5] (fun i wr => ∃ k : Nat, k ≤ n ∧ i = .int .i64 k ∧ decide (xs = ys) = decide (xs.drop k = ys.drop k) ∧ Ext w wr) (fun i _ => n - (intOf i).toNat)
    case atStart => exact ⟨0, Nat.zero_le _, rfl, rfl, Ext.refl _⟩
    case round =>
      obtain ⟨k, hk, rfl, hE, hb⟩ := hrel
      by_cases hlt : k < n
      · have HE := Lib.hid hE; clear hE
        obtain ⟨b, o, x, cs, rfl, hbw, hx, _, hc, rfl, _⟩ := (h1.ext (Flat.mono _ _) hb).at_ hlt
        obtain ⟨b', o', y, cs, rfl, hbw', hy, _, hc', rfl, _⟩ := (h2.ext (Flat.mono _ _) hb).at_ hlt
        have c0 := hc 0 _ rfl
        have c1 := hc 1 _ rfl
        simp only [Nat.add_zero] at c0
        have d0 := hc' 0 _ rfl
        have d1 := hc' 1 _ rfl
        simp only [Nat.add_zero] at d0
        have HX := Lib.hid hx; have HY := Lib.hid hy; have HB := Lib.hid hb
        clear hc hc' h1 h2 hx hy hb
        go_wp2
        have hcx := @Later.cell wr
        rcases Bool.eq_false_or_eq_true (decide (x = y)) with hxy | hxy
        all_goals
          refine wp_region_ext (by kernel_rfl) (by kernel_rfl) ?_
          repeat (go_big_quiet_step ((go_at_call 65; exact Calls.quiet_ext (eqOwner_c x y _))))
          refine wpQuiet_nil ?_
          intro w1 hb1
          have HB1 := Lib.hid hb1
          clear hcx c0 c1 d0 d1 hb1
          go_wp2
        · go_roundw
          case rel => exact ⟨k + 1, by omega, by go_num, by rw [HE.out, drop_cons HX.out, drop_cons HY.out, of_decide_eq_true hxy]; simp, HB.out.trans HB1.out⟩
          case measure => simp [intOf]; omega
        · refine ret_bool rfl rfl rfl ?_ (HB.out.trans HB1.out)
          rw [HE.out, drop_cons HX.out, drop_cons HY.out]; symm; rw [decide_eq_false_iff_not]; intro e; injection e with e _; exact of_decide_eq_false hxy e
      · have HE := Lib.hid hE; clear hE
        go_wp2
        refine ret_bool rfl rfl rfl ?_ hb
        rw [HE.out, List.drop_eq_nil_of_le (by have := HN.out; omega), List.drop_eq_nil_of_le (by have := HN'.out; omega)]; rfl
  · have HN := Lib.hid hn; have HN' := Lib.hid hn'; clear hn hn'
    go_wp2
    refine ret_bool rfl rfl rfl ?_ (Ext.refl _)
    symm; rw [decide_eq_false_iff_not]; rintro rfl; exact hlen (HN.out.symm.trans HN'.out)

set_option maxHeartbeats 1000000 in
theorem szOwner_c (x : Owner) (l : Int) (w : World) (hs : x.Name.size ≤ maxLen) (h0 : 0 ≤ l) (h1 : l ≤ 1048576) : Calls Try.prog 55 #[.agg #[.int .i64 x.Id, .string x.Name], .int .i64 l] w (Ret w (.int .i64 (szOne x.Name.size l))) := by
  unfold maxLen at hs
  go_enter Try.func55, Try.ntmps55
  rcases szOne_cases x.Name.size l with ⟨h, e⟩ | ⟨h, h2, e⟩
  · rw [e]
    have hlt : l - (x.Name.size : Int) < 0 := by unfold szOne at h; split at h <;> omega
    clear e h
    go_wp2
    exact ret_is (by simp [results, Try.results55, go_sem]) rfl (by repeat (first | exact Ext.refl _ | apply Ext.alloc))
  · rw [e]
    have hlt : ¬ l - (x.Name.size : Int) < 0 := by omega
    clear e h
    go_wp2
    exact ret_is (by simp [results, Try.results55, go_sem]) rfl (by repeat (first | exact Ext.refl _ | apply Ext.alloc))
set_option maxHeartbeats 1000000 in
theorem szOwnerS_c (xs : List Owner) (A : Option Addr) (n c : Nat) (left : Int) (w : World) (h : SlAt ROwner 2 w A n xs) (hn : n ≤ maxLen) (hl : left ≤ 1048576) (hl0 : 0 ≤ left) : Calls Try.prog 26 #[.slice A n c, .int .i64 left] w (Ret w (.int .i64 (szSM (fun x => x.Name.size) xs left))) := by
  unfold maxLen at hn
  have HN := Lib.hid h.len
  go_enter Try.func26, Try.ntmps26
  by_cases hb : left - n < 0
  · have E := Lib.hid (show szSM (fun x => x.Name.size) xs left = -1 by unfold szSM; rw [HN.out, if_pos hb])
    go_wp2
    rw [E.out]
    exact ret_is (by simp [results, Try.results26, go_sem]) rfl (Ext.refl _)
  · have E := Lib.hid (show szSM (fun x => x.Name.size) xs left = szStr (fun x => x.Name.size) xs (left - n) by unfold szSM; rw [HN.out, if_neg hb])
    go_wp2
    go_loopw [1, 5] (fun q i wr => ∃ (k : Nat) (l : Int), k ≤ n ∧ i = .int .i64 k ∧ q = .int .i64 l ∧ 0 ≤ l ∧ l ≤ 1048576 ∧ Ext w wr ∧ szStr (fun x => x.Name.size) xs (left - n) = szStr (fun x => x.Name.size) (xs.drop k) l) (fun _ i _ => n - (intOf i).toNat)
    case atStart => exact ⟨0, left - n, Nat.zero_le _, rfl, rfl, by omega, by omega, Ext.refl _, rfl⟩
    case round =>
      obtain ⟨k, l, hk, rfl, rfl, hl1, hl2, hb', hE⟩ := hrel
      have HE := Lib.hid hE; clear hE
      by_cases hlt : k < n
      · obtain ⟨b, o, x, cs, rfl, hbw, hx, _, hc, rfl, hok⟩ := (h.ext (Flat.mono _ _) hb').at_ hlt
        have hsz := hok.2
        clear hok
        have c0 := hc 0 _ rfl
        have c1 := hc 1 _ rfl
        simp only [Nat.add_zero] at c0
        have HX := Lib.hid hx
        clear hc hx h
        have HO := Lib.hid (szOne_cases x.Name.size l)
        rcases Bool.eq_false_or_eq_true (decide (szOne x.Name.size l < 0)) with hd | hd
        all_goals
          go_wp2_with ((go_at_call 55; refine (szOwner_c x l _ hsz hl1 hl2).mono ?_; rintro e w1 ⟨rfl, hb1⟩))
        · have hd' := of_decide_eq_true hd
          rw [E.out, HE.out, drop_cons HX.out, szStr, if_pos hd']
          exact ret_is (by simp [results, Try.results26, go_sem]) rfl (hb'.trans hb1)
        · have hd' := of_decide_eq_false hd
          go_roundw
          case rel => exact ⟨k + 1, szOne x.Name.size l, by omega, by go_num, rfl, by omega, by have := HO.out; omega, hb'.trans hb1, by rw [HE.out, drop_cons HX.out, szStr, if_neg hd']⟩
          case measure => simp [intOf]; omega
      · go_wp2
        rw [E.out, HE.out, List.drop_eq_nil_of_le (by have := HN.out; omega), szStr]
        exact ret_is (by simp [results, Try.results26, go_sem]) rfl hb'

end Go.Proofs.Ytfogmplpaopciab
