/- Contracts: whether windows are right over a tree of switches, the given program. -/
import Derived.Test.YtafccgnaifhnkaaAsc
import Derived.Test.YtafccgnaifhnkaaWin
namespace Go.Proofs.Ytafccgnaifhnkaa
open Go.RowKit
set_option linter.unusedVariables false
def winOkT (t : Bool) (m : Nat) (x : Window) : Bool := wspanB x.From x.To && (decide (0 < x.Nodes.length) && ((nodesB m x.Nodes && t) && ascB x.Nodes))
def winLt (p x : Window) : Bool := decide (p.From ≤ x.From)
def windowsB (ps : List Int) (ns : List Node) (xs : List Window) : Bool := topoB ps ns && (decide (xs.length ≤ 20) && chainGo (winOkT true ns.length) winLt none xs)
theorem windows_impl (ps : List Int) (ns : List Node) (xs : List Window) : windowsB ps ns xs = (chainGo (winOkT (topoB ps ns) ns.length) winLt none xs && (topoB ps ns && decide (xs.length ≤ 20))) := by
  unfold windowsB
  rcases Bool.eq_false_or_eq_true (topoB ps ns) with h | h
  · rw [h, Bool.true_and, Bool.true_and, Bool.and_comm]
  · rw [h]; simp
set_option maxHeartbeats 8000000 in
set_option maxRecDepth 10000 in
theorem WindowsOk_c (ps : List Int) (ns : List Node) (xs : List Window) (A : Option Addr) (n c : Nat) (B : Option Addr) (m d : Nat) (D : Option Addr) (q f : Nat) (w : World) (h : SlAt RInt 1 w A n ps) (hl : n ≤ maxLen) (h2 : SlAt RNode 4 w B m ns) (hl2 : m ≤ maxLen) (h3 : SlAt RWindow 3 w D q xs) (hl3 : q ≤ maxLen) : Calls Try.prog 14 #[.agg #[.slice A n c, .slice B m d], .slice D q f] w (Ret w (.bool (windowsB ps ns xs))) := by
  have HT := Lib.hid (fun (u : World) (e : Ext w u) => TopoOk_c ps ns A n c B m d u (h.ext (Flat.mono _ _) e) hl (h2.ext (Flat.mono _ _) e) hl2)
  have HAN := Lib.hid (fun (ys : List Int) (C : Option Addr) (r s : Nat) (u : World) (e : Ext w u) (hy : SlAt RInt 1 u C r ys) (hr : r ≤ maxLen) => areNodes_c ps ns ys A n c B m d C r s u (h.ext (Flat.mono _ _) e) hl (h2.ext (Flat.mono _ _) e) hl2 hy hr)
  have hlq := hl3
  unfold maxLen at hl hl2 hl3
  have HN := Lib.hid h3.len
  have HWI := Lib.hid (windows_impl ps ns xs)
  clear h h2
  generalize topoB ps ns = t at HT HAN HWI
  generalize ns.length = mm at HAN HWI
  generalize windowsB ps ns xs = z at HWI ⊢
  go_enter Try.func14, Try.ntmps14
  go_wp2
  go_loopw [9] (fun iv wr => ∃ k : Nat, k ≤ q ∧ iv = .int .i64 k ∧ Ext (w.alloc (.cells #[.slice A n c, .slice B m d] 32)) wr ∧ Hid (chainGo (winOkT t mm) winLt none xs = chainGo (winOkT t mm) winLt (prevOf xs k) (xs.drop k))) (fun iv _ => q - (intOf iv).toNat)
  case atStart => exact ⟨0, Nat.zero_le _, rfl, Ext.refl _, Lib.hid rfl⟩
  case round =>
    obtain ⟨k, hk, rfl, hb, HE⟩ := hrel
    have q0 := hb.cell (acell_box w [.slice A n c, .slice B m d] 32 0 _ rfl)
    have q1 := hb.cell (acell_box w [.slice A n c, .slice B m d] 32 1 _ rfl)
    have eW : Ext w wr := ((Ext.refl w).alloc _).trans hb
    have hsz : w.heap.size < wr.heap.size := lt_of_cell q0
    by_cases hlt : k < q
    · obtain ⟨b, o, x, cs, rfl, hbw, hx, _, hc, hr⟩ := (h3.ext RWindow.mono eW).at_ hlt
      obtain ⟨A1, c1, rfl, hsl, hml, hf, ht⟩ := win_cells hr
      have g0 := hc 0 _ rfl
      have g1 := hc 1 _ rfl
      have g2 := hc 2 _ rfl
      simp only [Nat.add_zero] at g0
      have HB := Lib.hid (hb.alloc (.cells #[.int .i64 x.From, .int .i64 x.To, .slice A1 x.Nodes.length c1] 65))
      have HEB := Lib.hid (eW.alloc (.cells #[.int .i64 x.From, .int .i64 x.To, .slice A1 x.Nodes.length c1] 65))
      have HBAD := Lib.hid (show winOkT t mm x = false → z = false from fun e => by rw [HWI.out, HE.out, drop_cons hx, chain_bad _ e]; rfl)
      have HSL := Lib.hid (fun (u : World) (e : Ext (wr.alloc (.cells #[.int .i64 x.From, .int .i64 x.To, .slice A1 x.Nodes.length c1] 65)) u) => hsl.ext (Flat.mono _ _) (((Ext.refl _).alloc _).trans e))
      have HNX := Lib.hid (fun (u : World) (e : Ext (wr.alloc (.cells #[.int .i64 x.From, .int .i64 x.To, .slice A1 x.Nodes.length c1] 65)) u) => HAN.out x.Nodes A1 x.Nodes.length c1 u (HEB.out.trans e) (HSL.out u e) hml)
      have HAX := Lib.hid (fun (u : World) (e : Ext (wr.alloc (.cells #[.int .i64 x.From, .int .i64 x.To, .slice A1 x.Nodes.length c1] 65)) u) => areAscending_c x.Nodes A1 x.Nodes.length c1 u (HSL.out u e) hml)
      have HX := Lib.hid hx
      have hbw2 : b < wr.heap.size + 1 := by omega
      have hbw3 : w.heap.size < wr.heap.size + 1 := by omega
      have hcx := @Later.cell (wr.alloc (.cells #[.int .i64 x.From, .int .i64 x.To, .slice A1 x.Nodes.length c1] 65))
      have h3' := Lib.hid h3
      clear hc hr hsl hf ht hx hb h3
      rcases (Bool.eq_false_or_eq_true (wspanB x.From x.To)).symm with h1 | h1
      · have HF := Lib.hid (HBAD.out (by unfold winOkT; rw [h1]; rfl))
        go_wp2
        refine wp_region_ext (by kernel_rfl) (by kernel_rfl) ?_
        repeat (go_big_quiet_step ((go_at_call 41; exact Calls.quiet_ext ((Same.ret (isSpan_c _ _ _))))))
        refine wpQuiet_nil ?_
        intro w1 hb1
        have HB1 := Lib.hid hb1
        clear hcx g0 g1 g2 q0 q1 hb1
        go_wp2
        exact ret_bool rfl rfl rfl HF.out.symm (HEB.out.trans HB1.out)
      rcases Nat.eq_zero_or_pos x.Nodes.length with h2 | h2
      · have HF := Lib.hid (HBAD.out (by unfold winOkT; rw [h1, h2]; rfl))
        have hz : (((x.Nodes.length : Nat) : Int) == 0) = true := by rw [beq_iff_eq]; omega
        clear hml
        generalize x.Nodes.length = ln at *
        clear h2
        go_wp2
        refine wp_region_ext (by kernel_rfl) (by kernel_rfl) ?_
        repeat (go_big_quiet_step ((go_at_call 41; exact Calls.quiet_ext ((Same.ret (isSpan_c _ _ _))))))
        refine wpQuiet_nil ?_
        intro w1 hb1
        have HB1 := Lib.hid hb1
        clear hcx g0 g1 g2 q0 q1 hb1
        go_wp2
        exact ret_bool rfl rfl rfl HF.out.symm (HEB.out.trans HB1.out)
      have hz : (((x.Nodes.length : Nat) : Int) == 0) = false := by rw [beq_eq_false_iff_ne]; omega
      have hd : decide (0 < x.Nodes.length) = true := decide_eq_true h2
      have HOKE := Lib.hid (show winOkT t mm x = ((nodesB mm x.Nodes && t) && ascB x.Nodes) by unfold winOkT; rw [h1, hd]; rfl)
      clear hd
      rcases (Bool.eq_false_or_eq_true (nodesB mm x.Nodes && t)).symm with h3 | h3
      · have HF := Lib.hid (HBAD.out (by rw [HOKE.out, h3]; rfl))
        have H3 := Lib.hid h3
        rw [h3] at HNX
        clear hml h3
        generalize x.Nodes.length = ln at *
        go_wp2
        refine wp_region_ext (by kernel_rfl) (by kernel_rfl) ?_
        repeat (go_big_quiet_step (first | ((go_at_call 41; exact Calls.quiet_ext ((Same.ret (isSpan_c _ _ _))))) | ((go_at_call 42; exact Calls.quiet_ext ((HNX.out _ (Later.ext _)))))))
        refine wpQuiet_nil ?_
        intro w1 hb1
        have HB1 := Lib.hid hb1
        clear hcx g0 g1 g2 q0 q1 hb1
        go_wp2
        exact ret_bool rfl rfl rfl HF.out.symm (HEB.out.trans HB1.out)
      rcases (Bool.eq_false_or_eq_true (ascB x.Nodes)).symm with h4 | h4
      · have HF := Lib.hid (HBAD.out (by rw [HOKE.out, h3, h4]; rfl))
        rw [h3] at HNX
        rw [h4] at HAX
        clear hml h3 h4
        generalize x.Nodes.length = ln at *
        go_wp2
        refine wp_region_ext (by kernel_rfl) (by kernel_rfl) ?_
        repeat (go_big_quiet_step (first | ((go_at_call 41; exact Calls.quiet_ext ((Same.ret (isSpan_c _ _ _))))) | ((go_at_call 42; exact Calls.quiet_ext ((HNX.out _ (Later.ext _))))) | ((go_at_call 43; exact Calls.quiet_ext ((HAX.out _ (Later.ext _)))))))
        refine wpQuiet_nil ?_
        intro w1 hb1
        have HB1 := Lib.hid hb1
        clear hcx g0 g1 g2 q0 q1 hb1
        go_wp2
        exact ret_bool rfl rfl rfl HF.out.symm (HEB.out.trans HB1.out)
      have HOK := Lib.hid (show winOkT t mm x = true by rw [HOKE.out, h3, h4]; rfl)
      rw [h3] at HNX
      rw [h4] at HAX
      clear h3 h4
      by_cases hk0 : k = 0
      · have ht0 : decide (0 < k) = false := by rw [decide_eq_false_iff_not]; omega
        have HG := Lib.hid (show chainGo (winOkT t mm) winLt none xs = chainGo (winOkT t mm) winLt (prevOf xs (k + 1)) (xs.drop (k + 1)) by rw [HE.out, drop_cons HX.out, chain_first hk0, HOK.out, prevOf_succ HX.out]; rfl)
        clear hml hk0
        generalize x.Nodes.length = ln at *
        go_wp2
        refine wp_region_ext (by kernel_rfl) (by kernel_rfl) ?_
        repeat (go_big_quiet_step (first | ((go_at_call 41; exact Calls.quiet_ext ((Same.ret (isSpan_c _ _ _))))) | ((go_at_call 42; exact Calls.quiet_ext ((HNX.out _ (Later.ext _))))) | ((go_at_call 43; exact Calls.quiet_ext ((HAX.out _ (Later.ext _)))))))
        refine wpQuiet_nil ?_
        intro w1 hb1
        have HB1 := Lib.hid hb1
        clear hcx g0 g1 g2 q0 q1 hb1
        go_wp2
        go_roundw
        case rel => exact ⟨k + 1, by omega, by go_num, HB.out.trans HB1.out, HG⟩
        case measure => simp [intOf]; omega
      · have ht0 : decide (0 < k) = true := by rw [decide_eq_true_iff]; omega
        obtain ⟨b', o', p, cs', eb, _, hp, _, hc', hr'⟩ := (h3'.out.ext RWindow.mono eW).at_ (show k - 1 < q by omega)
        obtain ⟨A2, c2, rfl, _, _, _, _⟩ := win_cells hr'
        injection eb with eb
        injection eb with eb eo
        subst eb eo
        have p0 := hc' 0 _ rfl
        simp only [Nat.add_zero] at p0
        have hprev : prevOf xs k = some p := by rw [prevOf, if_neg hk0, hp]
        have HP := Lib.hid hprev
        have hk1 : 0 < k := by omega
        rcases Bool.eq_false_or_eq_true (decide (x.From < p.From)) with h5 | h5
        all_goals
          have H5 := Lib.hid (show winLt p x = !(decide (x.From < p.From)) by unfold winLt; rw [Bool.eq_iff_iff]; simp)
          rw [h5] at H5
        · have HF := Lib.hid (show z = false by rw [HWI.out, HE.out, drop_cons HX.out, chain_ge HP.out H5.out]; rfl)
          clear hml hk0 hp hc' hr' hprev
          generalize x.Nodes.length = ln at *
          go_wp2
          refine wp_region_ext (by kernel_rfl) (by kernel_rfl) ?_
          repeat (go_big_quiet_step (first | ((go_at_call 41; exact Calls.quiet_ext ((Same.ret (isSpan_c _ _ _))))) | ((go_at_call 42; exact Calls.quiet_ext ((HNX.out _ (Later.ext _))))) | ((go_at_call 43; exact Calls.quiet_ext ((HAX.out _ (Later.ext _)))))))
          refine wpQuiet_nil ?_
          intro w1 hb1
          have HB1 := Lib.hid hb1
          clear hcx g0 g1 g2 q0 q1 p0 hb1
          go_wp2
          exact ret_bool rfl rfl rfl HF.out.symm (HEB.out.trans HB1.out)
        · have HG := Lib.hid (show chainGo (winOkT t mm) winLt none xs = chainGo (winOkT t mm) winLt (prevOf xs (k + 1)) (xs.drop (k + 1)) by rw [HE.out, drop_cons HX.out, chain_lt HP.out H5.out, HOK.out, prevOf_succ HX.out]; rfl)
          clear hml hk0 hp hc' hr' hprev
          generalize x.Nodes.length = ln at *
          go_wp2
          refine wp_region_ext (by kernel_rfl) (by kernel_rfl) ?_
          repeat (go_big_quiet_step (first | ((go_at_call 41; exact Calls.quiet_ext ((Same.ret (isSpan_c _ _ _))))) | ((go_at_call 42; exact Calls.quiet_ext ((HNX.out _ (Later.ext _))))) | ((go_at_call 43; exact Calls.quiet_ext ((HAX.out _ (Later.ext _)))))))
          refine wpQuiet_nil ?_
          intro w1 hb1
          have HB1 := Lib.hid hb1
          clear hcx g0 g1 g2 q0 q1 p0 hb1
          go_wp2
          go_roundw
          case rel => exact ⟨k + 1, by omega, by go_num, HB.out.trans HB1.out, HG⟩
          case measure => simp [intOf]; omega
    · have HF := Lib.hid (show z = (t && decide (q ≤ 20)) by rw [HWI.out, HE.out, List.drop_eq_nil_of_le (by have := HN.out; omega), chain_end, HN.out]; rfl)
      clear h3
      rcases (Bool.eq_false_or_eq_true t).symm with h1 | h1
      · rw [h1] at HT HF
        go_wp2_with fail
        refine (HT.out _ eW).mono ?_
        rintro e w2 ⟨rfl, hb2⟩
        go_wp2
        exact ret_bool rfl rfl rfl HF.out.symm (eW.trans hb2)
      · rw [h1] at HT HF
        go_wp2_with fail
        refine (HT.out _ eW).mono ?_
        rintro e w2 ⟨rfl, hb2⟩
        go_wp2
        exact ret_bool rfl rfl rfl (by rw [HF.out]; (first | (symm; rw [decide_eq_true_iff]; omega) | (symm; rw [decide_eq_false_iff_not]; omega) | (rw [decide_eq_decide]; omega) | ((try simp only [beq_iff_eq, beq_eq_false_iff_ne, bne_iff_ne, bne_eq_false_iff_eq, ne_eq] at *); rw [Bool.eq_iff_iff]; simp; omega))) (eW.trans hb2)
end Go.Proofs.Ytafccgnaifhnkaa
