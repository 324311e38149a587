/- Contracts over profiles: whether one is right. -/
import Derived.Test.YtgmlcohffdeplaaGreatArea
import Derived.Test.YtgmlcohffdeplaaGreatNest
import Derived.Test.YtgmlcohffdeplaaGreatVecs
namespace Go.Proofs.YtgmlcohffdeplaaGreat
open Go.RowKit
set_option linter.unusedVariables false
theorem cell_box (w : World) (cs : List Value) (e : TypeId) (j : Nat) (u : Value) (h : cs[j]? = some u) : (w.alloc (.cells cs.toArray e)).cell? ⟨w.heap.size, j, none⟩ = some u := by
  rw [cell_of_row _ _ _ cs.toArray e (0, 0) (heap_alloc_new w _)]; simpa using h
theorem profB_short {l : List Pt} (h : ¬ (1 ≤ l.length ∧ l.length ≤ 200)) : profB l = false := by
  unfold profB; rw [decide_eq_false h]; rfl
theorem profB_first {l : List Pt} {x : Pt} (h : l[0]? = some x) (hx : x.At ≠ 0) : profB l = false := by
  unfold profB
  cases l with
  | nil => simp at h
  | cons y r => simp at h; subst h; simp [hx]
theorem profB_rest {l : List Pt} {x : Pt} (h : l[0]? = some x) (hx : x.At = 0) (hl : 1 ≤ l.length ∧ l.length ≤ 200) : profB l = chainGo ptB ptLt none l := by
  unfold profB
  rw [decide_eq_true hl]
  cases l with
  | nil => simp at h
  | cons y r => simp at h; subst h; simp [hx]
attribute [local go_sem ↓] run_vec_eq run_vec_guard
set_option maxHeartbeats 8000000 in
set_option maxRecDepth 10000 in
theorem ProfOk_c (xs : List Pt) (A : Option Addr) (n c : Nat) (w : World) (h : SlAt RPt 4 w A n xs) (hl : n ≤ maxLen) : Calls Tryz.prog 55 #[.agg #[.slice A n c]] w (Ret w (.bool (profB xs))) := by
  unfold maxLen at hl
  have HN := Lib.hid h.len
  have HM := Lib.hid (Flat.mono Pt.enc Pt.ok)
  rcases (Bool.eq_false_or_eq_true (withinB n 1 200)).symm with g1 | g1
  · have HF := Lib.hid (show profB xs = false from profB_short (by rw [HN.out]; unfold withinB at g1; rw [decide_eq_false_iff_not] at g1; omega))
    go_enter Tryz.func55, Tryz.ntmps55
    go_wp2_with fail
    refine (within_c _ _ _ _).mono ?_
    rintro e w1 ⟨rfl, rfl⟩
    go_wp2
    exact ret_bool rfl rfl rfl HF.out.symm (by repeat (first | exact Ext.refl _ | assumption | apply Ext.alloc | apply Ext.drewN | apply Ext.drew | (refine Ext.setCell ?_ (by first | (simp; done) | (simp; omega) | omega) _) | (refine Ext.trans ?_ (by assumption))))
    --have hz : n = 0 ∨ 200 < n := by unfold withinB at g1; rw [decide_eq_false_iff_not] at g1; omega
    --clear g1
    --rcases hz with rfl | hz
    --all_goals
    --  go_enter Tryz.func55, Tryz.ntmps55
    --  go_wp2
    --  exact ret_bool rfl rfl rfl HF.out.symm (by repeat (first | exact Ext.refl _ | assumption | apply Ext.alloc | apply Ext.drewN | apply Ext.drew | (refine Ext.setCell ?_ (by first | (simp; done) | (simp; omega) | omega) _) | (refine Ext.trans ?_ (by assumption))))
  have hn8 : 1 ≤ n ∧ n ≤ 200 := by unfold withinB at g1; rw [decide_eq_true_iff] at g1; omega
  obtain ⟨b0, o0, x0, cs0, rfl, hbw0, hx0, _, hc0, rfl, _⟩ := h.at_ (show 0 < n by omega)
  have e0 := hc0 0 _ rfl
  simp only [Nat.zero_mul, Nat.add_zero] at e0
  have hz1 : b0 < w.heap.size + 1 := by omega
  by_cases g2 : x0.At = 0
  rotate_left
  · have HF := Lib.hid (profB_first hx0 g2)
    have g3 : (x0.At != 0) = true := by simpa using g2
    clear g2
    go_enter Tryz.func55, Tryz.ntmps55
    go_wp2_with fail
    refine (within_c _ _ _ _).mono ?_
    rintro e w1 ⟨rfl, rfl⟩
    go_wp2
    exact ret_bool rfl rfl rfl HF.out.symm (by repeat (first | exact Ext.refl _ | assumption | apply Ext.alloc | apply Ext.drewN | apply Ext.drew | (refine Ext.setCell ?_ (by first | (simp; done) | (simp; omega) | omega) _) | (refine Ext.trans ?_ (by assumption))))
  have HF := Lib.hid (profB_rest hx0 g2 (by rw [HN.out]; omega))
  rw [g2] at e0
  clear g2 hx0 hc0
  go_enter Tryz.func55, Tryz.ntmps55
  go_wp2_with fail
  refine (within_c _ _ _ _).mono ?_
  rintro e w1 ⟨rfl, rfl⟩
  go_wp2
  clear e0
  go_loopw [21] (fun i wr => ∃ (k : Nat), k ≤ n ∧ i = .int .i64 k ∧ Ext (w.alloc (.cells #[.slice (some ⟨b0, o0, none⟩) n c] 42)) wr ∧ Hid (chainGo ptB ptLt none xs = chainGo ptB ptLt (prevOf xs k) (xs.drop k))) (fun i _ => n - (intOf i).toNat)
  case atStart => exact ⟨0, Nat.zero_le _, rfl, Ext.refl _, Lib.hid rfl⟩
  case round =>
    obtain ⟨k, hk, rfl, hb0, HCH⟩ := hrel
    have hb : Ext w wr := ((Ext.refl w).alloc _).trans hb0
    have q0 := hb0.cell (cell_box w [.slice (some ⟨b0, o0, none⟩) n c] 42 0 _ rfl)
    have hwz := hb0.le
    simp at hwz
    have HE := Lib.hid (show profB xs = chainGo ptB ptLt (prevOf xs k) (xs.drop k) by rw [HF.out, HCH.out])
    by_cases hlt : k < n
    · obtain ⟨b, o, d, cs, e, hbw, hx, _, hc, rfl, hok⟩ := (h.ext HM.out hb).at_ hlt
      simp only [Option.some.injEq, Addr.mk.injEq, and_true] at e
      obtain ⟨rfl, rfl⟩ := e
      have c0 := hc 0 _ rfl
      have c1 := hc 1 _ rfl
      have c2 := hc 2 _ rfl
      have c3 := hc 3 _ rfl
      simp only [Nat.add_zero] at c0
      have HX := Lib.hid hx; have HB := Lib.hid hb
      have HDe := Lib.hid (fun (hb : ptB d = false) => chain_bad (lt := ptLt) (prevOf xs k) hb (xs.drop (k + 1)))
      have hbw2 : b0 < wr.heap.size + 1 := by omega
      have hbw3 : w.heap.size < wr.heap.size + 1 := by omega
      have hbw4 : w.heap.size < wr.heap.size := by omega
      have hcx := @Later.cell (wr.alloc (.cells #[.int .i64 d.At, .int .i64 d.Free.A, .int .i64 d.Free.B, .int .i64 d.Free.C] 107))
      rcases (Bool.eq_false_or_eq_true (timeB d.At)).symm with h1 | h1
      · have HQ := Lib.hid h1
        clear hc hx hb h
        go_wp2
        refine wp_region_ext (by kernel_rfl) (by kernel_rfl) ?_
        repeat (go_big_quiet_step ((go_at_call 56; exact Calls.quiet_ext ((Same.ret (isTime_c _ _))))))
        refine wpQuiet_nil ?_
        intro w1 hb1
        have HB1 := Lib.hid hb1
        clear hcx c0 c1 c2 c3 q0 hb1
        go_wp2
        refine ret_bool rfl rfl rfl ?_ ((HB.out.alloc _).trans HB1.out)
        rw [HE.out, drop_cons HX.out, HDe.out (by unfold ptB; rw [HQ.out]; rfl)] <;> rfl
      rcases (Bool.eq_false_or_eq_true (vecB d.Free)).symm with h2 | h2
      · have HQ := Lib.hid h2
        clear hc hx hb h
        go_wp2
        refine wp_region_ext (by kernel_rfl) (by kernel_rfl) ?_
        repeat (go_big_quiet_step (first | ((go_at_call 56; exact Calls.quiet_ext ((Same.ret (isTime_c _ _))))) | ((go_at_call 95; exact Calls.quiet_ext ((VecOk_c d.Free _))))))
        refine wpQuiet_nil ?_
        intro w1 hb1
        have HB1 := Lib.hid hb1
        clear hcx c0 c1 c2 c3 q0 hb1
        go_wp2
        refine ret_bool rfl rfl rfl ?_ ((HB.out.alloc _).trans HB1.out)
        rw [HE.out, drop_cons HX.out, HDe.out (by unfold ptB; rw [h1, HQ.out]; rfl)] <;> rfl
      have HOK := Lib.hid (show ptB d = true by unfold ptB; rw [h1, h2]; rfl)
      by_cases hk0 : k = 0
      · have ht : decide (0 < k) = false := by rw [decide_eq_false_iff_not]; omega
        have HG := Lib.hid (chain_first (ok := ptB) (lt := ptLt) (l := xs) hk0 d (xs.drop (k + 1)))
        clear hc hx hb h hk0
        go_wp2
        refine wp_region_ext (by kernel_rfl) (by kernel_rfl) ?_
        repeat (go_big_quiet_step (first | ((go_at_call 56; exact Calls.quiet_ext ((Same.ret (isTime_c _ _))))) | ((go_at_call 95; exact Calls.quiet_ext ((VecOk_c d.Free _))))))
        refine wpQuiet_nil ?_
        intro w1 hb1
        have HB1 := Lib.hid hb1
        clear hcx c0 c1 c2 c3 q0 hb1
        go_wp2
        go_roundw
        case rel => exact ⟨k + 1, by omega, by go_num, (hb0.alloc _).trans HB1.out, Lib.hid (by rw [HCH.out, drop_cons HX.out, HG.out, prevOf_succ HX.out, HOK.out, Bool.true_and])⟩
        case measure => simp [intOf]; omega
      · have ht : decide (0 < k) = true := by rw [decide_eq_true_iff]; omega
        obtain ⟨b', o', q, cs', e, _, hx', _, hc', rfl, _⟩ := (h.ext HM.out hb).at_ (show k - 1 < n by omega)
        simp only [Option.some.injEq, Addr.mk.injEq, and_true] at e
        obtain ⟨rfl, rfl⟩ := e
        have d0 := hc' 0 _ rfl
        have d1 := hc' 1 _ rfl
        have d2 := hc' 2 _ rfl
        have d3 := hc' 3 _ rfl
        simp only [Nat.add_zero] at d0
        have hk1 : 0 < k := by omega
        have hprev : prevOf xs k = some q := by rw [prevOf, if_neg hk0, hx']
        have HP := Lib.hid hprev
        rcases Bool.eq_false_or_eq_true (decide (d.At ≤ q.At)) with h5 | h5
        · have H5 := Lib.hid (show ptLt q d = false by unfold ptLt; rw [decide_eq_true_iff] at h5; rw [decide_eq_false (by omega)]; rfl)
          clear hc hx hb h hc' hx' hprev hk0
          go_wp2
          refine wp_region_ext (by kernel_rfl) (by kernel_rfl) ?_
          repeat (go_big_quiet_step (first | ((go_at_call 56; exact Calls.quiet_ext ((Same.ret (isTime_c _ _))))) | ((go_at_call 95; exact Calls.quiet_ext ((VecOk_c d.Free _))))))
          refine wpQuiet_nil ?_
          intro w1 hb1
          have HB1 := Lib.hid hb1
          clear hcx c0 c1 c2 c3 q0 d0 d1 d2 d3 hb1
          clear h5 ht h1 h2
          go_wp2
          exact ret_bool rfl rfl rfl (by rw [HE.out, drop_cons HX.out, chain_ge HP.out H5.out]) ((HB.out.alloc _).trans HB1.out)
        rcases (Bool.eq_false_or_eq_true (q.Free.A == d.Free.A)).symm with e1 | e1
        · have H5 := Lib.hid (show ptLt q d = true by unfold ptLt; rw [decide_eq_false_iff_not] at h5; rw [decide_eq_true (by omega), decide_eq_false (fun hh => by simp [hh.1] at e1)]; rfl)
          clear hc hx hb h hc' hx' hprev hk0
          go_wp2
          refine wp_region_ext (by kernel_rfl) (by kernel_rfl) ?_
          repeat (go_big_quiet_step (first | ((go_at_call 56; exact Calls.quiet_ext ((Same.ret (isTime_c _ _))))) | ((go_at_call 95; exact Calls.quiet_ext ((VecOk_c d.Free _))))))
          refine wpQuiet_nil ?_
          intro w1 hb1
          have HB1 := Lib.hid hb1
          clear hcx c0 c1 c2 c3 q0 d0 d1 d2 d3 hb1
          clear e1 h5 ht h1 h2
          go_wp2
          go_roundw
          case rel => exact ⟨k + 1, by omega, by go_num, (hb0.alloc _).trans HB1.out, Lib.hid (by rw [HCH.out, drop_cons HX.out, chain_lt HP.out H5.out, prevOf_succ HX.out, HOK.out, Bool.true_and])⟩
          case measure => simp [intOf]; omega
        rcases (Bool.eq_false_or_eq_true (q.Free.B == d.Free.B)).symm with e2 | e2
        · have H5 := Lib.hid (show ptLt q d = true by unfold ptLt; rw [decide_eq_false_iff_not] at h5; rw [decide_eq_true (by omega), decide_eq_false (fun hh => by simp [hh.2.1] at e2)]; rfl)
          clear hc hx hb h hc' hx' hprev hk0
          go_wp2
          refine wp_region_ext (by kernel_rfl) (by kernel_rfl) ?_
          repeat (go_big_quiet_step (first | ((go_at_call 56; exact Calls.quiet_ext ((Same.ret (isTime_c _ _))))) | ((go_at_call 95; exact Calls.quiet_ext ((VecOk_c d.Free _))))))
          refine wpQuiet_nil ?_
          intro w1 hb1
          have HB1 := Lib.hid hb1
          clear hcx c0 c1 c2 c3 q0 d0 d1 d2 d3 hb1
          clear e1 e2 h5 ht h1 h2
          go_wp2
          go_roundw
          case rel => exact ⟨k + 1, by omega, by go_num, (hb0.alloc _).trans HB1.out, Lib.hid (by rw [HCH.out, drop_cons HX.out, chain_lt HP.out H5.out, prevOf_succ HX.out, HOK.out, Bool.true_and])⟩
          case measure => simp [intOf]; omega
        rcases (Bool.eq_false_or_eq_true (q.Free.C == d.Free.C)).symm with e3 | e3
        · have H5 := Lib.hid (show ptLt q d = true by unfold ptLt; rw [decide_eq_false_iff_not] at h5; rw [decide_eq_true (by omega), decide_eq_false (fun hh => by simp [hh.2.2] at e3)]; rfl)
          clear hc hx hb h hc' hx' hprev hk0
          go_wp2
          refine wp_region_ext (by kernel_rfl) (by kernel_rfl) ?_
          repeat (go_big_quiet_step (first | ((go_at_call 56; exact Calls.quiet_ext ((Same.ret (isTime_c _ _))))) | ((go_at_call 95; exact Calls.quiet_ext ((VecOk_c d.Free _))))))
          refine wpQuiet_nil ?_
          intro w1 hb1
          have HB1 := Lib.hid hb1
          clear hcx c0 c1 c2 c3 q0 d0 d1 d2 d3 hb1
          clear e1 e2 e3 h5 ht h1 h2
          go_wp2
          go_roundw
          case rel => exact ⟨k + 1, by omega, by go_num, (hb0.alloc _).trans HB1.out, Lib.hid (by rw [HCH.out, drop_cons HX.out, chain_lt HP.out H5.out, prevOf_succ HX.out, HOK.out, Bool.true_and])⟩
          case measure => simp [intOf]; omega
        · have H5 := Lib.hid (show ptLt q d = false by unfold ptLt; simp only [beq_iff_eq] at e1 e2 e3; rw [decide_eq_true (show q.Free.A = d.Free.A ∧ q.Free.B = d.Free.B ∧ q.Free.C = d.Free.C from ⟨e1, e2, e3⟩)]; simp)
          clear hc hx hb h hc' hx' hprev hk0
          go_wp2
          refine wp_region_ext (by kernel_rfl) (by kernel_rfl) ?_
          repeat (go_big_quiet_step (first | ((go_at_call 56; exact Calls.quiet_ext ((Same.ret (isTime_c _ _))))) | ((go_at_call 95; exact Calls.quiet_ext ((VecOk_c d.Free _))))))
          refine wpQuiet_nil ?_
          intro w1 hb1
          have HB1 := Lib.hid hb1
          clear hcx c0 c1 c2 c3 q0 d0 d1 d2 d3 hb1
          clear e1 e2 e3 h5 ht h1 h2
          go_wp2
          exact ret_bool rfl rfl rfl (by rw [HE.out, drop_cons HX.out, chain_ge HP.out H5.out]) ((HB.out.alloc _).trans HB1.out)
    · clear h
      go_wp2
      refine ret_bool rfl rfl rfl ?_ hb
      rw [HE.out, List.drop_eq_nil_of_le (by have := HN.out; omega), chain_end]
set_option maxHeartbeats 8000000 in
set_option maxRecDepth 10000 in
theorem sProfOk_c (xs : List Pt) (A : Option Addr) (n c : Nat) (w : World) (h : SlAt RPt 4 w A n xs) (hl : n ≤ maxLen) : Calls Tryz.prog 64 #[.agg #[.slice A n c]] w (Ret w (.bool (profB xs))) := by
  unfold maxLen at hl
  have HN := Lib.hid h.len
  have HM := Lib.hid (Flat.mono Pt.enc Pt.ok)
  rcases (Bool.eq_false_or_eq_true (withinB n 1 200)).symm with g1 | g1
  · have HF := Lib.hid (show profB xs = false from profB_short (by rw [HN.out]; unfold withinB at g1; rw [decide_eq_false_iff_not] at g1; omega))
    --go_enter Tryz.func64, Tryz.ntmps64
    --<<S('1=within_c _ _ _ _')>>
    --go_wp2
    --exact ret_bool rfl rfl rfl HF.out.symm (by repeat (first | exact Ext.refl _ | assumption | apply Ext.alloc | apply Ext.drewN | apply Ext.drew | (refine Ext.setCell ?_ (by first | (simp; done) | (simp; omega) | omega) _) | (refine Ext.trans ?_ (by assumption))))
    have hz : n = 0 ∨ 200 < n := by unfold withinB at g1; rw [decide_eq_false_iff_not] at g1; omega
    clear g1
    rcases hz with rfl | hz
    all_goals
      go_enter Tryz.func64, Tryz.ntmps64
      go_wp2
      exact ret_bool rfl rfl rfl HF.out.symm (by repeat (first | exact Ext.refl _ | assumption | apply Ext.alloc | apply Ext.drewN | apply Ext.drew | (refine Ext.setCell ?_ (by first | (simp; done) | (simp; omega) | omega) _) | (refine Ext.trans ?_ (by assumption))))
  have hn8 : 1 ≤ n ∧ n ≤ 200 := by unfold withinB at g1; rw [decide_eq_true_iff] at g1; omega
  obtain ⟨b0, o0, x0, cs0, rfl, hbw0, hx0, _, hc0, rfl, _⟩ := h.at_ (show 0 < n by omega)
  have e0 := hc0 0 _ rfl
  simp only [Nat.zero_mul, Nat.add_zero] at e0
  have hz1 : b0 < w.heap.size + 1 := by omega
  by_cases g2 : x0.At = 0
  rotate_left
  · have HF := Lib.hid (profB_first hx0 g2)
    have g3 : (x0.At != 0) = true := by simpa using g2
    clear g2
    go_enter Tryz.func64, Tryz.ntmps64
    --<<S('1=within_c _ _ _ _')>>
    go_wp2
    exact ret_bool rfl rfl rfl HF.out.symm (by repeat (first | exact Ext.refl _ | assumption | apply Ext.alloc | apply Ext.drewN | apply Ext.drew | (refine Ext.setCell ?_ (by first | (simp; done) | (simp; omega) | omega) _) | (refine Ext.trans ?_ (by assumption))))
  have HF := Lib.hid (profB_rest hx0 g2 (by rw [HN.out]; omega))
  rw [g2] at e0
  clear g2 hx0 hc0
  go_enter Tryz.func64, Tryz.ntmps64
  --<<S('1=within_c _ _ _ _')>>
  go_wp2
  clear e0
  go_loopw [26] (fun i wr => ∃ (k : Nat), k ≤ n ∧ i = .int .i64 k ∧ Ext (w.alloc (.cells #[.slice (some ⟨b0, o0, none⟩) n c] 42)) wr ∧ Hid (chainGo ptB ptLt none xs = chainGo ptB ptLt (prevOf xs k) (xs.drop k))) (fun i _ => n - (intOf i).toNat)
  case atStart => exact ⟨0, Nat.zero_le _, rfl, Ext.refl _, Lib.hid rfl⟩
  case round =>
    obtain ⟨k, hk, rfl, hb0, HCH⟩ := hrel
    have hb : Ext w wr := ((Ext.refl w).alloc _).trans hb0
    have q0 := hb0.cell (cell_box w [.slice (some ⟨b0, o0, none⟩) n c] 42 0 _ rfl)
    have hwz := hb0.le
    simp at hwz
    have HE := Lib.hid (show profB xs = chainGo ptB ptLt (prevOf xs k) (xs.drop k) by rw [HF.out, HCH.out])
    by_cases hlt : k < n
    · obtain ⟨b, o, d, cs, e, hbw, hx, _, hc, rfl, hok⟩ := (h.ext HM.out hb).at_ hlt
      simp only [Option.some.injEq, Addr.mk.injEq, and_true] at e
      obtain ⟨rfl, rfl⟩ := e
      have c0 := hc 0 _ rfl
      have c1 := hc 1 _ rfl
      have c2 := hc 2 _ rfl
      have c3 := hc 3 _ rfl
      simp only [Nat.add_zero] at c0
      have HX := Lib.hid hx; have HB := Lib.hid hb
      have HDe := Lib.hid (fun (hb : ptB d = false) => chain_bad (lt := ptLt) (prevOf xs k) hb (xs.drop (k + 1)))
      have hbw2 : b0 < wr.heap.size + 1 := by omega
      have hbw3 : w.heap.size < wr.heap.size + 1 := by omega
      have hbw4 : w.heap.size < wr.heap.size := by omega
      have hcx := @Later.cell (wr.alloc (.cells #[.int .i64 d.At, .int .i64 d.Free.A, .int .i64 d.Free.B, .int .i64 d.Free.C] 107))
      rcases (Bool.eq_false_or_eq_true (timeB d.At)).symm with h1 | h1
      · have HQ := Lib.hid h1
        clear hc hx hb h
        go_wp2
        refine wp_region_ext (by kernel_rfl) (by kernel_rfl) ?_
        repeat (go_big_quiet_step ((go_at_call 65; exact Calls.quiet_ext ((Same.ret (sTime_c _ _))))))
        refine wpQuiet_nil ?_
        intro w1 hb1
        have HB1 := Lib.hid hb1
        clear hcx c0 c1 c2 c3 q0 hb1
        go_wp2
        refine ret_bool rfl rfl rfl ?_ ((HB.out.alloc _).trans HB1.out)
        rw [HE.out, drop_cons HX.out, HDe.out (by unfold ptB; rw [HQ.out]; rfl)] <;> rfl
      rcases (Bool.eq_false_or_eq_true (vecB d.Free)).symm with h2 | h2
      · have HQ := Lib.hid h2
        clear hc hx hb h
        go_wp2
        refine wp_region_ext (by kernel_rfl) (by kernel_rfl) ?_
        repeat (go_big_quiet_step (first | ((go_at_call 65; exact Calls.quiet_ext ((Same.ret (sTime_c _ _))))) | ((go_at_call 100; exact Calls.quiet_ext ((sVecOk_c d.Free _))))))
        refine wpQuiet_nil ?_
        intro w1 hb1
        have HB1 := Lib.hid hb1
        clear hcx c0 c1 c2 c3 q0 hb1
        go_wp2
        refine ret_bool rfl rfl rfl ?_ ((HB.out.alloc _).trans HB1.out)
        rw [HE.out, drop_cons HX.out, HDe.out (by unfold ptB; rw [h1, HQ.out]; rfl)] <;> rfl
      have HOK := Lib.hid (show ptB d = true by unfold ptB; rw [h1, h2]; rfl)
      by_cases hk0 : k = 0
      · have ht : decide (0 < k) = false := by rw [decide_eq_false_iff_not]; omega
        have HG := Lib.hid (chain_first (ok := ptB) (lt := ptLt) (l := xs) hk0 d (xs.drop (k + 1)))
        clear hc hx hb h hk0
        go_wp2
        refine wp_region_ext (by kernel_rfl) (by kernel_rfl) ?_
        repeat (go_big_quiet_step (first | ((go_at_call 65; exact Calls.quiet_ext ((Same.ret (sTime_c _ _))))) | ((go_at_call 100; exact Calls.quiet_ext ((sVecOk_c d.Free _))))))
        refine wpQuiet_nil ?_
        intro w1 hb1
        have HB1 := Lib.hid hb1
        clear hcx c0 c1 c2 c3 q0 hb1
        go_wp2
        go_roundw
        case rel => exact ⟨k + 1, by omega, by go_num, (hb0.alloc _).trans HB1.out, Lib.hid (by rw [HCH.out, drop_cons HX.out, HG.out, prevOf_succ HX.out, HOK.out, Bool.true_and])⟩
        case measure => simp [intOf]; omega
      · have ht : decide (0 < k) = true := by rw [decide_eq_true_iff]; omega
        obtain ⟨b', o', q, cs', e, _, hx', _, hc', rfl, _⟩ := (h.ext HM.out hb).at_ (show k - 1 < n by omega)
        simp only [Option.some.injEq, Addr.mk.injEq, and_true] at e
        obtain ⟨rfl, rfl⟩ := e
        have d0 := hc' 0 _ rfl
        have d1 := hc' 1 _ rfl
        have d2 := hc' 2 _ rfl
        have d3 := hc' 3 _ rfl
        simp only [Nat.add_zero] at d0
        have hk1 : 0 < k := by omega
        have hprev : prevOf xs k = some q := by rw [prevOf, if_neg hk0, hx']
        have HP := Lib.hid hprev
        rcases Bool.eq_false_or_eq_true (decide (d.At ≤ q.At)) with h5 | h5
        · have H5 := Lib.hid (show ptLt q d = false by unfold ptLt; rw [decide_eq_true_iff] at h5; rw [decide_eq_false (by omega)]; rfl)
          clear hc hx hb h hc' hx' hprev hk0
          go_wp2
          refine wp_region_ext (by kernel_rfl) (by kernel_rfl) ?_
          repeat (go_big_quiet_step (first | ((go_at_call 65; exact Calls.quiet_ext ((Same.ret (sTime_c _ _))))) | ((go_at_call 100; exact Calls.quiet_ext ((sVecOk_c d.Free _))))))
          refine wpQuiet_nil ?_
          intro w1 hb1
          have HB1 := Lib.hid hb1
          clear hcx c0 c1 c2 c3 q0 d0 d1 d2 d3 hb1
          clear h5 ht h1 h2
          go_wp2
          exact ret_bool rfl rfl rfl (by rw [HE.out, drop_cons HX.out, chain_ge HP.out H5.out]) ((HB.out.alloc _).trans HB1.out)
        rcases (Bool.eq_false_or_eq_true (q.Free.A == d.Free.A)).symm with e1 | e1
        · have H5 := Lib.hid (show ptLt q d = true by unfold ptLt; rw [decide_eq_false_iff_not] at h5; rw [decide_eq_true (by omega), decide_eq_false (fun hh => by simp [hh.1] at e1)]; rfl)
          clear hc hx hb h hc' hx' hprev hk0
          go_wp2
          refine wp_region_ext (by kernel_rfl) (by kernel_rfl) ?_
          repeat (go_big_quiet_step (first | ((go_at_call 65; exact Calls.quiet_ext ((Same.ret (sTime_c _ _))))) | ((go_at_call 100; exact Calls.quiet_ext ((sVecOk_c d.Free _))))))
          refine wpQuiet_nil ?_
          intro w1 hb1
          have HB1 := Lib.hid hb1
          clear hcx c0 c1 c2 c3 q0 d0 d1 d2 d3 hb1
          clear e1 h5 ht h1 h2
          go_wp2
          go_roundw
          case rel => exact ⟨k + 1, by omega, by go_num, (hb0.alloc _).trans HB1.out, Lib.hid (by rw [HCH.out, drop_cons HX.out, chain_lt HP.out H5.out, prevOf_succ HX.out, HOK.out, Bool.true_and])⟩
          case measure => simp [intOf]; omega
        rcases (Bool.eq_false_or_eq_true (q.Free.B == d.Free.B)).symm with e2 | e2
        · have H5 := Lib.hid (show ptLt q d = true by unfold ptLt; rw [decide_eq_false_iff_not] at h5; rw [decide_eq_true (by omega), decide_eq_false (fun hh => by simp [hh.2.1] at e2)]; rfl)
          clear hc hx hb h hc' hx' hprev hk0
          go_wp2
          refine wp_region_ext (by kernel_rfl) (by kernel_rfl) ?_
          repeat (go_big_quiet_step (first | ((go_at_call 65; exact Calls.quiet_ext ((Same.ret (sTime_c _ _))))) | ((go_at_call 100; exact Calls.quiet_ext ((sVecOk_c d.Free _))))))
          refine wpQuiet_nil ?_
          intro w1 hb1
          have HB1 := Lib.hid hb1
          clear hcx c0 c1 c2 c3 q0 d0 d1 d2 d3 hb1
          clear e1 e2 h5 ht h1 h2
          go_wp2
          go_roundw
          case rel => exact ⟨k + 1, by omega, by go_num, (hb0.alloc _).trans HB1.out, Lib.hid (by rw [HCH.out, drop_cons HX.out, chain_lt HP.out H5.out, prevOf_succ HX.out, HOK.out, Bool.true_and])⟩
          case measure => simp [intOf]; omega
        rcases (Bool.eq_false_or_eq_true (q.Free.C == d.Free.C)).symm with e3 | e3
        · have H5 := Lib.hid (show ptLt q d = true by unfold ptLt; rw [decide_eq_false_iff_not] at h5; rw [decide_eq_true (by omega), decide_eq_false (fun hh => by simp [hh.2.2] at e3)]; rfl)
          clear hc hx hb h hc' hx' hprev hk0
          go_wp2
          refine wp_region_ext (by kernel_rfl) (by kernel_rfl) ?_
          repeat (go_big_quiet_step (first | ((go_at_call 65; exact Calls.quiet_ext ((Same.ret (sTime_c _ _))))) | ((go_at_call 100; exact Calls.quiet_ext ((sVecOk_c d.Free _))))))
          refine wpQuiet_nil ?_
          intro w1 hb1
          have HB1 := Lib.hid hb1
          clear hcx c0 c1 c2 c3 q0 d0 d1 d2 d3 hb1
          clear e1 e2 e3 h5 ht h1 h2
          go_wp2
          go_roundw
          case rel => exact ⟨k + 1, by omega, by go_num, (hb0.alloc _).trans HB1.out, Lib.hid (by rw [HCH.out, drop_cons HX.out, chain_lt HP.out H5.out, prevOf_succ HX.out, HOK.out, Bool.true_and])⟩
          case measure => simp [intOf]; omega
        · have H5 := Lib.hid (show ptLt q d = false by unfold ptLt; simp only [beq_iff_eq] at e1 e2 e3; rw [decide_eq_true (show q.Free.A = d.Free.A ∧ q.Free.B = d.Free.B ∧ q.Free.C = d.Free.C from ⟨e1, e2, e3⟩)]; simp)
          clear hc hx hb h hc' hx' hprev hk0
          go_wp2
          refine wp_region_ext (by kernel_rfl) (by kernel_rfl) ?_
          repeat (go_big_quiet_step (first | ((go_at_call 65; exact Calls.quiet_ext ((Same.ret (sTime_c _ _))))) | ((go_at_call 100; exact Calls.quiet_ext ((sVecOk_c d.Free _))))))
          refine wpQuiet_nil ?_
          intro w1 hb1
          have HB1 := Lib.hid hb1
          clear hcx c0 c1 c2 c3 q0 d0 d1 d2 d3 hb1
          clear e1 e2 e3 h5 ht h1 h2
          go_wp2
          exact ret_bool rfl rfl rfl (by rw [HE.out, drop_cons HX.out, chain_ge HP.out H5.out]) ((HB.out.alloc _).trans HB1.out)
    · clear h
      go_wp2
      refine ret_bool rfl rfl rfl ?_ hb
      rw [HE.out, List.drop_eq_nil_of_le (by have := HN.out; omega), chain_end]
end Go.Proofs.YtgmlcohffdeplaaGreat
