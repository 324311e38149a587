/- Contracts: whether windows are right over a tree of switches, the spec's way. -/
import Derived.Test.YtafccgnaifhnkaaWins
namespace Go.Proofs.Ytafccgnaifhnkaa
open Go.RowKit
set_option linter.unusedVariables false
theorem spec_start {ps : List Int} {ns : List Node} {xs : List Window} {t : Bool} {q : Nat} (ht : topoB ps ns = t) (hq : xs.length = q) : windowsB ps ns xs = (t && (decide (q ≤ 20) && chainGo (winOkT true ns.length) winLt none xs)) := by
  unfold windowsB; rw [ht, hq]
set_option maxHeartbeats 8000000 in
set_option maxRecDepth 10000 in
theorem sWindowsOk_c (ps : List Int) (ns : List Node) (xs : List Window) (A : Option Addr) (n c : Nat) (B : Option Addr) (m d : Nat) (D : Option Addr) (q f : Nat) (w : World) (h : SlAt RInt 1 w A n ps) (hl : n ≤ maxLen) (h2 : SlAt RNode 4 w B m ns) (hl2 : m ≤ maxLen) (h3 : SlAt RWindow 3 w D q xs) (hl3 : q ≤ maxLen) : Calls Try.prog 11 #[.agg #[.slice A n c, .slice B m d], .slice D q f] w (Ret w (.bool (windowsB ps ns xs))) := by
  have HT := Lib.hid (fun (u : World) (e : Ext w u) => sTopoOk_c ps ns A n c B m d u (h.ext (Flat.mono _ _) e) hl (h2.ext (Flat.mono _ _) e) hl2)
  have HAN := Lib.hid (fun (ys : List Int) (C : Option Addr) (r s : Nat) (u : World) (e : Ext w u) (hy : SlAt RInt 1 u C r ys) (hr : r ≤ maxLen) => l02Nodes_c ps ns ys A n c B m d C r s u (h.ext (Flat.mono _ _) e) hl (h2.ext (Flat.mono _ _) e) hl2 hy hr)
  unfold maxLen at hl hl2 hl3
  have HN := Lib.hid h3.len
  have HWI := Lib.hid (fun (t : Bool) (e : topoB ps ns = t) => spec_start e h3.len)
  clear h h2
  generalize topoB ps ns = t at HT HAN HWI
  replace HWI := Lib.hid (HWI.out t rfl)
  generalize ns.length = mm at HAN HWI
  generalize windowsB ps ns xs = z at HWI ⊢
  have e0 := HT.out (w.alloc (.cells #[.slice A n c, .slice B m d] 32)) ((Ext.refl w).alloc _)
  have HT0 := Lib.hid e0
  clear e0 HT
  rcases (Bool.eq_false_or_eq_true t).symm with h1 | h1
  · rw [h1] at HT0 HWI
    have HF := Lib.hid (show z = false from HWI.out)
    go_enter Try.func11, Try.ntmps11
    go_wp2_with fail
    refine HT0.out.mono ?_
    rintro e w2 ⟨rfl, hb2⟩
    clear h3
    go_wp2
    exact ret_bool rfl rfl rfl HF.out.symm (((Ext.refl w).alloc _).trans hb2)
  rw [h1] at HT0 HWI HAN
  clear h1
  by_cases hbig : 20 < q
  · have HF := Lib.hid (show z = false by rw [HWI.out, show decide (q ≤ 20) = false by rw [decide_eq_false_iff_not]; omega]; rfl)
    go_enter Try.func11, Try.ntmps11
    go_wp2_with fail
    refine HT0.out.mono ?_
    rintro e w2 ⟨rfl, hb2⟩
    clear h3
    go_wp2
    exact ret_bool rfl rfl rfl HF.out.symm (((Ext.refl w).alloc _).trans hb2)
  replace HWI := Lib.hid (show z = chainGo (winOkT true mm) winLt none xs by rw [HWI.out, show decide (q ≤ 20) = true by rw [decide_eq_true_iff]; omega]; rfl)
  go_enter Try.func11, Try.ntmps11
  go_wp2_with fail
  refine HT0.out.mono ?_
  rintro e w2 ⟨rfl, hb2⟩
  have HB2 := Lib.hid hb2
  have hz2 : w.heap.size < w2.heap.size := by have := hb2.le; simp at this; omega
  have HW2 := Lib.hid (((Ext.refl w).alloc (.cells #[.slice A n c, .slice B m d] 32)).trans hb2)
  have H3 := Lib.hid h3
  clear hb2 h3
  go_wp2
  go_loopw [18] (fun iv wr => ∃ k : Nat, k ≤ q ∧ iv = .int .i64 k ∧ Ext w2 wr ∧ Hid (z = chainGo (winOkT true mm) winLt (prevOf xs k) (xs.drop k))) (fun iv _ => q - (intOf iv).toNat)
  case atStart => exact ⟨0, Nat.zero_le _, rfl, Ext.refl _, Lib.hid HWI.out⟩
  case round =>
    obtain ⟨k, hk, rfl, hb, HE⟩ := hrel
    obtain ⟨wo, rfl⟩ : ∃ wo, wo = wr := ⟨_, rfl⟩
    have q0 := (HB2.out.trans hb).cell (acell_box w [.slice A n c, .slice B m d] 32 0 _ rfl)
    have q1 := (HB2.out.trans hb).cell (acell_box w [.slice A n c, .slice B m d] 32 1 _ rfl)
    have eW : Ext w wo := HW2.out.trans hb
    have hsz : w.heap.size < wo.heap.size := lt_of_cell q0
    by_cases hlt : k < q
    · obtain ⟨b, o, x, cs, rfl, hbw, hx, _, hc, hr⟩ := (H3.out.ext RWindow.mono eW).at_ hlt
      obtain ⟨A1, c1, rfl, hsl, hml, hf, ht⟩ := win_cells hr
      have g0 := hc 0 _ rfl
      have g1 := hc 1 _ rfl
      have g2 := hc 2 _ rfl
      simp only [Nat.add_zero] at g0
      have HB := Lib.hid (hb.alloc (.cells #[.int .i64 x.From, .int .i64 x.To, .slice A1 x.Nodes.length c1] 65))
      have HEB := Lib.hid (eW.alloc (.cells #[.int .i64 x.From, .int .i64 x.To, .slice A1 x.Nodes.length c1] 65))
      have HBAD := Lib.hid (show winOkT true mm x = false → z = false from fun e => by rw [HE.out, drop_cons hx, chain_bad _ e])
      have HSL := Lib.hid (fun (u : World) (e : Ext (wo.alloc (.cells #[.int .i64 x.From, .int .i64 x.To, .slice A1 x.Nodes.length c1] 65)) u) => hsl.ext (Flat.mono _ _) (((Ext.refl _).alloc _).trans e))
      have HNX := Lib.hid (fun (u : World) (e : Ext (wo.alloc (.cells #[.int .i64 x.From, .int .i64 x.To, .slice A1 x.Nodes.length c1] 65)) u) => HAN.out x.Nodes A1 x.Nodes.length c1 u (HEB.out.trans e) (HSL.out u e) hml)
      have HX := Lib.hid hx
      have HBX := Lib.hid (fun (u : World) (e : Ext (wo.alloc (.cells #[.int .i64 x.From, .int .i64 x.To, .slice A1 x.Nodes.length c1] 65)) u) => e.cell (acell_box wo [.int .i64 x.From, .int .i64 x.To, .slice A1 x.Nodes.length c1] 65 2 _ rfl))
      have hbw2 : b < wo.heap.size + 1 := by omega
      have hbw3 : w.heap.size < wo.heap.size + 1 := by omega
      have hcx := @Later.cell (wo.alloc (.cells #[.int .i64 x.From, .int .i64 x.To, .slice A1 x.Nodes.length c1] 65))
      have HML := Lib.hid hml
      clear hc hr hsl hf ht hx hb
      rcases (Bool.eq_false_or_eq_true (timeB x.From)).symm with h1 | h1
      · have HF := Lib.hid (HBAD.out (by unfold winOkT wspanB; rw [h1]; rfl))
        clear hml
        go_wp2
        refine wp_region_ext (by kernel_rfl) (by kernel_rfl) ?_
        repeat (go_big_quiet_step ((go_at_call 37; exact Calls.quiet_ext ((Same.ret (sTime_c _ _))))))
        refine wpQuiet_nil ?_
        intro w1 hb1
        have HB1 := Lib.hid hb1
        clear hcx g0 g1 g2 q0 q1 hb1
        go_wp2
        exact ret_bool rfl rfl rfl HF.out.symm (HEB.out.trans HB1.out)
      rcases (Bool.eq_false_or_eq_true (timeB x.To)).symm with h2 | h2
      · have HF := Lib.hid (HBAD.out (by unfold winOkT wspanB; rw [h1, h2]; rfl))
        clear hml
        go_wp2
        refine wp_region_ext (by kernel_rfl) (by kernel_rfl) ?_
        repeat (go_big_quiet_step ((go_at_call 37; exact Calls.quiet_ext ((Same.ret (sTime_c _ _))))))
        refine wpQuiet_nil ?_
        intro w1 hb1
        have HB1 := Lib.hid hb1
        clear hcx g0 g1 g2 q0 q1 hb1
        go_wp2
        exact ret_bool rfl rfl rfl HF.out.symm (HEB.out.trans HB1.out)
      rcases Bool.eq_false_or_eq_true (decide (x.To ≤ x.From)) with h3 | h3
      · have HF := Lib.hid (HBAD.out (by unfold winOkT wspanB; rw [h1, h2, show decide (x.From < x.To) = false by rw [decide_eq_false_iff_not]; have := of_decide_eq_true h3; omega]; rfl))
        clear hml
        go_wp2
        refine wp_region_ext (by kernel_rfl) (by kernel_rfl) ?_
        repeat (go_big_quiet_step ((go_at_call 37; exact Calls.quiet_ext ((Same.ret (sTime_c _ _))))))
        refine wpQuiet_nil ?_
        intro w1 hb1
        have HB1 := Lib.hid hb1
        clear hcx g0 g1 g2 q0 q1 hb1
        go_wp2
        exact ret_bool rfl rfl rfl HF.out.symm (HEB.out.trans HB1.out)
      have HSP := Lib.hid (show wspanB x.From x.To = true by unfold wspanB; rw [h1, h2, show decide (x.From < x.To) = true by rw [decide_eq_true_iff]; have := of_decide_eq_false h3; omega]; rfl)
      rcases Nat.eq_zero_or_pos x.Nodes.length with h4 | h4
      · have HF := Lib.hid (HBAD.out (by unfold winOkT; rw [HSP.out, h4]; rfl))
        have hz : decide (((x.Nodes.length : Nat) : Int) < 1) = true := by rw [decide_eq_true_iff]; omega
        clear hml
        generalize x.Nodes.length = ln at *
        clear h4
        go_wp2
        refine wp_region_ext (by kernel_rfl) (by kernel_rfl) ?_
        repeat (go_big_quiet_step ((go_at_call 37; exact Calls.quiet_ext ((Same.ret (sTime_c _ _))))))
        refine wpQuiet_nil ?_
        intro w1 hb1
        have HB1 := Lib.hid hb1
        clear hcx g0 g1 g2 q0 q1 hb1
        go_wp2
        exact ret_bool rfl rfl rfl HF.out.symm (HEB.out.trans HB1.out)
      have hz : decide (((x.Nodes.length : Nat) : Int) < 1) = false := by rw [decide_eq_false_iff_not]; omega
      have HD := Lib.hid (decide_eq_true h4)
      clear h4
      have HOKE := Lib.hid (show winOkT true mm x = ((nodesB mm x.Nodes && true) && ascB x.Nodes) by unfold winOkT; rw [HSP.out, HD.out]; rfl)
      rcases (Bool.eq_false_or_eq_true (nodesB mm x.Nodes && true)).symm with h5 | h5
      · have HF := Lib.hid (HBAD.out (by rw [HOKE.out, h5]; rfl))
        rw [h5] at HNX
        clear hml h5
        have HLN := Lib.hid (rfl : x.Nodes.length = x.Nodes.length)
        generalize x.Nodes.length = ln at *
        go_wp2
        refine wp_region_ext (by kernel_rfl) (by kernel_rfl) ?_
        repeat (go_big_quiet_step (first | ((go_at_call 37; exact Calls.quiet_ext ((Same.ret (sTime_c _ _))))) | ((go_at_call 38; exact Calls.quiet_ext ((HNX.out _ (Later.ext _)))))))
        refine wpQuiet_nil ?_
        intro w1 hb1
        have HB1 := Lib.hid hb1
        clear hcx g0 g1 g2 q0 q1 hb1
        go_wp2
        exact ret_bool rfl rfl rfl HF.out.symm (HEB.out.trans HB1.out)
      replace HOKE := Lib.hid (show winOkT true mm x = ascB x.Nodes by rw [HOKE.out, h5]; rfl)
      rw [h5] at HNX
      have HDONE : Hid (z = chainGo (winOkT true mm) winLt (prevOf xs k) (xs.drop k)) := HE
      clear h5
      have HLE := Lib.hid (show ∃ ln : Nat, x.Nodes.length = ln from ⟨_, rfl⟩)
      by_cases hk0 : k = 0
      · have ht0 : decide (0 < k) = false := by rw [decide_eq_false_iff_not]; omega
        have HG := Lib.hid (show winOkT true mm x = true → z = chainGo (winOkT true mm) winLt (prevOf xs (k + 1)) (xs.drop (k + 1)) from fun e => by rw [HE.out, drop_cons HX.out, chain_first hk0, e, prevOf_succ HX.out]; rfl)
        clear hk0
        go_wp2
        refine wp_region_ext (by kernel_rfl) (by kernel_rfl) ?_
        repeat (go_big_quiet_step (first | ((go_at_call 37; exact Calls.quiet_ext ((Same.ret (sTime_c _ _))))) | ((go_at_call 38; exact Calls.quiet_ext ((HNX.out _ (Later.ext _)))))))
        refine wpQuiet_nil ?_
        intro w1 hb1
        have HB1 := Lib.hid hb1
        clear hcx g0 g1 g2 q0 q1 hb1
        go_wp2
        clear h1 h2 h3
        have hmm := HML.out
        unfold maxLen at hmm
        have hs1 : wo.heap.size + 1 ≤ w1.heap.size := by have := HB1.out.le; simpa using this
        go_loopw [7] (fun iv wr => ∃ j : Nat, 1 ≤ j ∧ j ≤ x.Nodes.length + 1 ∧ iv = .int .i64 j ∧ Ext w1 wr ∧ Hid (winOkT true mm x = chainGo (fun _ => true) ltI (prevOf x.Nodes j) (x.Nodes.drop j))) (fun iv _ => x.Nodes.length + 1 - (intOf iv).toNat)
        case atStart => exact ⟨1, by omega, by omega, rfl, Ext.refl _, Lib.hid (by rw [HOKE.out, asc_start])⟩
        case round =>
          obtain ⟨j, hj1, hj, rfl, hbi, HA⟩ := hrel
          have v2 := HBX.out wr (HB1.out.trans hbi)
          have hsr := hbi.le
          have hbw4 : wo.heap.size < wr.heap.size := by omega
          by_cases hjk : j < x.Nodes.length
          · obtain ⟨b3, o3, y, cs3, rfl, hbw5, hy, _, hcy, rfl, _⟩ := (HSL.out wr (HB1.out.trans hbi)).at_ hjk
            obtain ⟨b4, o4, y2, cs4, e4, _, hy2, _, hcz, rfl, _⟩ := (HSL.out wr (HB1.out.trans hbi)).at_ (show j - 1 < x.Nodes.length by omega)
            injection e4 with e4
            injection e4 with e4 e5
            subst e4 e5
            have y0 := hcy 0 _ rfl
            simp only [Nat.mul_one, Nat.add_zero] at y0
            have z0 := hcz 0 _ rfl
            simp only [Nat.mul_one, Nat.add_zero] at z0
            have HNY := Lib.hid (asc_next hj1 hy2 hy)
            have HBI := Lib.hid hbi
            have hj0 : 0 < j := hj1
            have hcx := @Later.cell wr
            clear hcy hcz hy hy2 hbi
            rcases Bool.eq_false_or_eq_true (decide (y ≤ y2)) with h7 | h7
            · have HF := Lib.hid (HBAD.out (by rw [HA.out, HNY.out, show ltI y2 y = false by unfold ltI; rw [decide_eq_false_iff_not]; have := of_decide_eq_true h7; omega]; rfl))
              go_wp2
              refine wp_region_ext (by kernel_rfl) (by kernel_rfl) ?_
              repeat (go_big_quiet_step (fail))
              refine wpQuiet_nil ?_
              intro w2 hb2
              have HB2 := Lib.hid hb2
              clear hcx v2 y0 z0 hb2
              go_wp2
              exact ret_bool rfl rfl rfl HF.out.symm (HEB.out.trans (HB1.out.trans (HBI.out.trans HB2.out)))
            · have HT := Lib.hid (show winOkT true mm x = chainGo (fun _ => true) ltI (prevOf x.Nodes (j + 1)) (x.Nodes.drop (j + 1)) by rw [HA.out, HNY.out, show ltI y2 y = true by unfold ltI; rw [decide_eq_true_iff]; have := of_decide_eq_false h7; omega]; rfl)
              go_wp2
              refine wp_region_ext (by kernel_rfl) (by kernel_rfl) ?_
              repeat (go_big_quiet_step (fail))
              refine wpQuiet_nil ?_
              intro w2 hb2
              have HB2 := Lib.hid hb2
              clear hcx v2 y0 z0 hb2
              go_wp2
              go_roundw
              case rel => exact ⟨j + 1, by omega, by omega, by go_num, HBI.out.trans HB2.out, HT⟩
              case measure => simp [intOf]; omega
          · have HOK := Lib.hid (HG.out (by rw [HA.out, asc_end (by omega)]))
            have HBI := Lib.hid hbi
            clear hbi
            go_wp2
            go_roundw
            case rel => exact ⟨k + 1, by omega, by go_num, HB.out.trans (HB1.out.trans HBI.out), HOK⟩
            case measure => simp [intOf]; omega
      · have ht0 : decide (0 < k) = true := by rw [decide_eq_true_iff]; omega
        obtain ⟨b', o', p, cs', eb, _, hp, _, hc', hr'⟩ := (H3.out.ext RWindow.mono eW).at_ (show k - 1 < q by omega)
        obtain ⟨A2, c2, rfl, _, _, _, _⟩ := win_cells hr'
        injection eb with eb
        injection eb with eb eo
        subst eb eo
        have p0 := hc' 0 _ rfl
        simp only [Nat.add_zero] at p0
        have hprev : prevOf xs k = some p := by rw [prevOf, if_neg hk0, hp]
        have HP := Lib.hid hprev
        have hk1 : 0 < k := by omega
        rcases Bool.eq_false_or_eq_true (decide (x.From < p.From)) with h6 | h6
        all_goals
          have H6 := Lib.hid (show winLt p x = !(decide (x.From < p.From)) by unfold winLt; rw [Bool.eq_iff_iff]; simp)
          rw [h6] at H6
        · have HF := Lib.hid (show z = false by rw [HE.out, drop_cons HX.out, chain_ge HP.out H6.out])
          clear hml hk0 hp hc' hr' hprev
          generalize x.Nodes.length = ln at *
          go_wp2
          refine wp_region_ext (by kernel_rfl) (by kernel_rfl) ?_
          repeat (go_big_quiet_step (first | ((go_at_call 37; exact Calls.quiet_ext ((Same.ret (sTime_c _ _))))) | ((go_at_call 38; exact Calls.quiet_ext ((HNX.out _ (Later.ext _)))))))
          refine wpQuiet_nil ?_
          intro w1 hb1
          have HB1 := Lib.hid hb1
          clear hcx g0 g1 g2 q0 q1 p0 hb1
          go_wp2
          exact ret_bool rfl rfl rfl HF.out.symm (HEB.out.trans HB1.out)
        · have HG := Lib.hid (show winOkT true mm x = true → z = chainGo (winOkT true mm) winLt (prevOf xs (k + 1)) (xs.drop (k + 1)) from fun e => by rw [HE.out, drop_cons HX.out, chain_lt HP.out H6.out, e, prevOf_succ HX.out]; rfl)
          clear hk0 hp hc' hr' hprev
          go_wp2
          refine wp_region_ext (by kernel_rfl) (by kernel_rfl) ?_
          repeat (go_big_quiet_step (first | ((go_at_call 37; exact Calls.quiet_ext ((Same.ret (sTime_c _ _))))) | ((go_at_call 38; exact Calls.quiet_ext ((HNX.out _ (Later.ext _)))))))
          refine wpQuiet_nil ?_
          intro w1 hb1
          have HB1 := Lib.hid hb1
          clear hcx g0 g1 g2 q0 q1 p0 hb1
          go_wp2
          clear h1 h2 h3
          have hmm := HML.out
          unfold maxLen at hmm
          have hs1 : wo.heap.size + 1 ≤ w1.heap.size := by have := HB1.out.le; simpa using this
          go_loopw [7] (fun iv wr => ∃ j : Nat, 1 ≤ j ∧ j ≤ x.Nodes.length + 1 ∧ iv = .int .i64 j ∧ Ext w1 wr ∧ Hid (winOkT true mm x = chainGo (fun _ => true) ltI (prevOf x.Nodes j) (x.Nodes.drop j))) (fun iv _ => x.Nodes.length + 1 - (intOf iv).toNat)
          case atStart => exact ⟨1, by omega, by omega, rfl, Ext.refl _, Lib.hid (by rw [HOKE.out, asc_start])⟩
          case round =>
            obtain ⟨j, hj1, hj, rfl, hbi, HA⟩ := hrel
            have v2 := HBX.out wr (HB1.out.trans hbi)
            have hsr := hbi.le
            have hbw4 : wo.heap.size < wr.heap.size := by omega
            by_cases hjk : j < x.Nodes.length
            · obtain ⟨b3, o3, y, cs3, rfl, hbw5, hy, _, hcy, rfl, _⟩ := (HSL.out wr (HB1.out.trans hbi)).at_ hjk
              obtain ⟨b4, o4, y2, cs4, e4, _, hy2, _, hcz, rfl, _⟩ := (HSL.out wr (HB1.out.trans hbi)).at_ (show j - 1 < x.Nodes.length by omega)
              injection e4 with e4
              injection e4 with e4 e5
              subst e4 e5
              have y0 := hcy 0 _ rfl
              simp only [Nat.mul_one, Nat.add_zero] at y0
              have z0 := hcz 0 _ rfl
              simp only [Nat.mul_one, Nat.add_zero] at z0
              have HNY := Lib.hid (asc_next hj1 hy2 hy)
              have HBI := Lib.hid hbi
              have hj0 : 0 < j := hj1
              have hcx := @Later.cell wr
              clear hcy hcz hy hy2 hbi
              rcases Bool.eq_false_or_eq_true (decide (y ≤ y2)) with h7 | h7
              · have HF := Lib.hid (HBAD.out (by rw [HA.out, HNY.out, show ltI y2 y = false by unfold ltI; rw [decide_eq_false_iff_not]; have := of_decide_eq_true h7; omega]; rfl))
                go_wp2
                refine wp_region_ext (by kernel_rfl) (by kernel_rfl) ?_
                repeat (go_big_quiet_step (fail))
                refine wpQuiet_nil ?_
                intro w2 hb2
                have HB2 := Lib.hid hb2
                clear hcx v2 y0 z0 hb2
                go_wp2
                exact ret_bool rfl rfl rfl HF.out.symm (HEB.out.trans (HB1.out.trans (HBI.out.trans HB2.out)))
              · have HT := Lib.hid (show winOkT true mm x = chainGo (fun _ => true) ltI (prevOf x.Nodes (j + 1)) (x.Nodes.drop (j + 1)) by rw [HA.out, HNY.out, show ltI y2 y = true by unfold ltI; rw [decide_eq_true_iff]; have := of_decide_eq_false h7; omega]; rfl)
                go_wp2
                refine wp_region_ext (by kernel_rfl) (by kernel_rfl) ?_
                repeat (go_big_quiet_step (fail))
                refine wpQuiet_nil ?_
                intro w2 hb2
                have HB2 := Lib.hid hb2
                clear hcx v2 y0 z0 hb2
                go_wp2
                go_roundw
                case rel => exact ⟨j + 1, by omega, by omega, by go_num, HBI.out.trans HB2.out, HT⟩
                case measure => simp [intOf]; omega
            · have HOK := Lib.hid (HG.out (by rw [HA.out, asc_end (by omega)]))
              have HBI := Lib.hid hbi
              clear hbi
              go_wp2
              go_roundw
              case rel => exact ⟨k + 1, by omega, by go_num, HB.out.trans (HB1.out.trans HBI.out), HOK⟩
              case measure => simp [intOf]; omega
    · have HF := Lib.hid (show z = true by rw [HE.out, List.drop_eq_nil_of_le (by have := HN.out; omega), chain_end])
      go_wp2
      exact ret_bool rfl rfl rfl HF.out.symm eW
end Go.Proofs.Ytafccgnaifhnkaa
