/- Merged by mergelean.py: Wins, Wins2, RestLaw, RestLaw2, Resting. -/
import Derived.Test.YtgmlcohffdeplaaGreatAsc
import Derived.Test.YtgmlcohffdeplaaGreatMWin
import Derived.Test.YtgmlcohffdeplaaGreatStateLaw
import Derived.Test.YtgmlcohffdeplaaGreatInts
import Derived.Test.YtgmlcohffdeplaaGreatLaw
/-! Wins -/
namespace Go.Proofs.YtgmlcohffdeplaaGreat
open Go.RowKit
set_option linter.unusedVariables false
def winOkT (t : Bool) (m : Nat) (x : Window) : Bool := wspanB x.From x.To && (decide (0 < x.Nodes.length) && ((nodesB m x.Nodes && t) && ascB x.Nodes))
def winLt (p x : Window) : Bool := decide (p.From ≤ x.From)
def windowsB (ps : List Int) (ns : List Node) (xs : List Window) : Bool := topoB ps ns && (decide (xs.length ≤ 20) && chainGo (winOkT true ns.length) winLt none xs)
theorem windows_impl (ps : List Int) (ns : List Node) (xs : List Window) : windowsB ps ns xs = (chainGo (winOkT (topoB ps ns) ns.length) winLt none xs && (topoB ps ns && decide (xs.length ≤ 20))) := by
  unfold windowsB
  rcases Bool.eq_false_or_eq_true (topoB ps ns) with h | h
  · rw [h, Bool.true_and, Bool.true_and, Bool.and_comm]
  · rw [h]; simp
set_option maxHeartbeats 8000000 in
set_option maxRecDepth 10000 in
theorem WindowsOk_c (ps : List Int) (ns : List Node) (xs : List Window) (A : Option Addr) (n c : Nat) (B : Option Addr) (m d : Nat) (D : Option Addr) (q f : Nat) (w : World) (h : SlAt RInt 1 w A n ps) (hl : n ≤ maxLen) (h2 : SlAt RNode 4 w B m ns) (hl2 : m ≤ maxLen) (h3 : SlAt RWindow 3 w D q xs) (hl3 : q ≤ maxLen) : Calls Tryz.prog 34 #[.agg #[.slice A n c, .slice B m d], .slice D q f] w (Ret w (.bool (windowsB ps ns xs))) := by
  have HT := Lib.hid (fun (u : World) (e : Ext w u) => TopoOk_c ps ns A n c B m d u (h.ext (Flat.mono _ _) e) hl (h2.ext (Flat.mono _ _) e) hl2)
  have HAN := Lib.hid (fun (ys : List Int) (C : Option Addr) (r s : Nat) (u : World) (e : Ext w u) (hy : SlAt RInt 1 u C r ys) (hr : r ≤ maxLen) => areNodes_c ps ns ys A n c B m d C r s u (h.ext (Flat.mono _ _) e) hl (h2.ext (Flat.mono _ _) e) hl2 hy hr)
  have hlq := hl3
  unfold maxLen at hl hl2 hl3
  have HN := Lib.hid h3.len
  have HWI := Lib.hid (windows_impl ps ns xs)
  clear h h2
  generalize topoB ps ns = t at HT HAN HWI
  generalize ns.length = mm at HAN HWI
  generalize windowsB ps ns xs = z at HWI ⊢
  go_enter Tryz.func34, Tryz.ntmps34
  go_wp2
  go_loopw [9] (fun iv wr => ∃ k : Nat, k ≤ q ∧ iv = .int .i64 k ∧ Ext (w.alloc (.cells #[.slice A n c, .slice B m d] 38)) wr ∧ Hid (chainGo (winOkT t mm) winLt none xs = chainGo (winOkT t mm) winLt (prevOf xs k) (xs.drop k))) (fun iv _ => q - (intOf iv).toNat)
  case atStart => exact ⟨0, Nat.zero_le _, rfl, Ext.refl _, Lib.hid rfl⟩
  case round =>
    obtain ⟨k, hk, rfl, hb, HE⟩ := hrel
    have q0 := hb.cell (acell_box w [.slice A n c, .slice B m d] 38 0 _ rfl)
    have q1 := hb.cell (acell_box w [.slice A n c, .slice B m d] 38 1 _ rfl)
    have eW : Ext w wr := ((Ext.refl w).alloc _).trans hb
    have hsz : w.heap.size < wr.heap.size := lt_of_cell q0
    by_cases hlt : k < q
    · obtain ⟨b, o, x, cs, rfl, hbw, hx, _, hc, hr⟩ := (h3.ext RWindow.mono eW).at_ hlt
      obtain ⟨A1, c1, rfl, hsl, hml, hf, ht⟩ := win_cells hr
      have g0 := hc 0 _ rfl
      have g1 := hc 1 _ rfl
      have g2 := hc 2 _ rfl
      simp only [Nat.add_zero] at g0
      have HB := Lib.hid (hb.alloc (.cells #[.int .i64 x.From, .int .i64 x.To, .slice A1 x.Nodes.length c1] 73))
      have HEB := Lib.hid (eW.alloc (.cells #[.int .i64 x.From, .int .i64 x.To, .slice A1 x.Nodes.length c1] 73))
      have HBAD := Lib.hid (show winOkT t mm x = false → z = false from fun e => by rw [HWI.out, HE.out, drop_cons hx, chain_bad _ e]; rfl)
      have HSL := Lib.hid (fun (u : World) (e : Ext (wr.alloc (.cells #[.int .i64 x.From, .int .i64 x.To, .slice A1 x.Nodes.length c1] 73)) u) => hsl.ext (Flat.mono _ _) (((Ext.refl _).alloc _).trans e))
      have HNX := Lib.hid (fun (u : World) (e : Ext (wr.alloc (.cells #[.int .i64 x.From, .int .i64 x.To, .slice A1 x.Nodes.length c1] 73)) u) => HAN.out x.Nodes A1 x.Nodes.length c1 u (HEB.out.trans e) (HSL.out u e) hml)
      have HAX := Lib.hid (fun (u : World) (e : Ext (wr.alloc (.cells #[.int .i64 x.From, .int .i64 x.To, .slice A1 x.Nodes.length c1] 73)) u) => areAscending_c x.Nodes A1 x.Nodes.length c1 u (HSL.out u e) hml)
      have HX := Lib.hid hx
      have hbw2 : b < wr.heap.size + 1 := by omega
      have hbw3 : w.heap.size < wr.heap.size + 1 := by omega
      have hcx := @Later.cell (wr.alloc (.cells #[.int .i64 x.From, .int .i64 x.To, .slice A1 x.Nodes.length c1] 73))
      have h3' := Lib.hid h3
      clear hc hr hsl hf ht hx hb h3
      rcases (Bool.eq_false_or_eq_true (wspanB x.From x.To)).symm with h1 | h1
      · have HF := Lib.hid (HBAD.out (by unfold winOkT; rw [h1]; rfl))
        go_wp2
        refine wp_region_ext (by kernel_rfl) (by kernel_rfl) ?_
        repeat (go_big_quiet_step ((go_at_call 73; exact Calls.quiet_ext ((Same.ret (wisSpan_c _ _ _))))))
        refine wpQuiet_nil ?_
        intro w1 hb1
        have HB1 := Lib.hid hb1
        clear hcx g0 g1 g2 q0 q1 hb1
        go_wp2
        exact ret_bool rfl rfl rfl HF.out.symm (HEB.out.trans HB1.out)
      rcases Nat.eq_zero_or_pos x.Nodes.length with h2 | h2
      · have HF := Lib.hid (HBAD.out (by unfold winOkT; rw [h1, h2]; rfl))
        have hz : (((x.Nodes.length : Nat) : Int) == 0) = true := by rw [beq_iff_eq]; omega
        clear hml
        generalize x.Nodes.length = ln at *
        clear h2
        go_wp2
        refine wp_region_ext (by kernel_rfl) (by kernel_rfl) ?_
        repeat (go_big_quiet_step ((go_at_call 73; exact Calls.quiet_ext ((Same.ret (wisSpan_c _ _ _))))))
        refine wpQuiet_nil ?_
        intro w1 hb1
        have HB1 := Lib.hid hb1
        clear hcx g0 g1 g2 q0 q1 hb1
        go_wp2
        exact ret_bool rfl rfl rfl HF.out.symm (HEB.out.trans HB1.out)
      have hz : (((x.Nodes.length : Nat) : Int) == 0) = false := by rw [beq_eq_false_iff_ne]; omega
      have hd : decide (0 < x.Nodes.length) = true := decide_eq_true h2
      have HOKE := Lib.hid (show winOkT t mm x = ((nodesB mm x.Nodes && t) && ascB x.Nodes) by unfold winOkT; rw [h1, hd]; rfl)
      clear hd
      rcases (Bool.eq_false_or_eq_true (nodesB mm x.Nodes && t)).symm with h3 | h3
      · have HF := Lib.hid (HBAD.out (by rw [HOKE.out, h3]; rfl))
        have H3 := Lib.hid h3
        rw [h3] at HNX
        clear hml h3
        generalize x.Nodes.length = ln at *
        go_wp2
        refine wp_region_ext (by kernel_rfl) (by kernel_rfl) ?_
        repeat (go_big_quiet_step (first | ((go_at_call 73; exact Calls.quiet_ext ((Same.ret (wisSpan_c _ _ _))))) | ((go_at_call 74; exact Calls.quiet_ext ((HNX.out _ (Later.ext _)))))))
        refine wpQuiet_nil ?_
        intro w1 hb1
        have HB1 := Lib.hid hb1
        clear hcx g0 g1 g2 q0 q1 hb1
        go_wp2
        exact ret_bool rfl rfl rfl HF.out.symm (HEB.out.trans HB1.out)
      rcases (Bool.eq_false_or_eq_true (ascB x.Nodes)).symm with h4 | h4
      · have HF := Lib.hid (HBAD.out (by rw [HOKE.out, h3, h4]; rfl))
        rw [h3] at HNX
        rw [h4] at HAX
        clear hml h3 h4
        generalize x.Nodes.length = ln at *
        go_wp2
        refine wp_region_ext (by kernel_rfl) (by kernel_rfl) ?_
        repeat (go_big_quiet_step (first | ((go_at_call 73; exact Calls.quiet_ext ((Same.ret (wisSpan_c _ _ _))))) | ((go_at_call 74; exact Calls.quiet_ext ((HNX.out _ (Later.ext _))))) | ((go_at_call 75; exact Calls.quiet_ext ((HAX.out _ (Later.ext _)))))))
        refine wpQuiet_nil ?_
        intro w1 hb1
        have HB1 := Lib.hid hb1
        clear hcx g0 g1 g2 q0 q1 hb1
        go_wp2
        exact ret_bool rfl rfl rfl HF.out.symm (HEB.out.trans HB1.out)
      have HOK := Lib.hid (show winOkT t mm x = true by rw [HOKE.out, h3, h4]; rfl)
      rw [h3] at HNX
      rw [h4] at HAX
      clear h3 h4
      by_cases hk0 : k = 0
      · have ht0 : decide (0 < k) = false := by rw [decide_eq_false_iff_not]; omega
        have HG := Lib.hid (show chainGo (winOkT t mm) winLt none xs = chainGo (winOkT t mm) winLt (prevOf xs (k + 1)) (xs.drop (k + 1)) by rw [HE.out, drop_cons HX.out, chain_first hk0, HOK.out, prevOf_succ HX.out]; rfl)
        clear hml hk0
        generalize x.Nodes.length = ln at *
        go_wp2
        refine wp_region_ext (by kernel_rfl) (by kernel_rfl) ?_
        repeat (go_big_quiet_step (first | ((go_at_call 73; exact Calls.quiet_ext ((Same.ret (wisSpan_c _ _ _))))) | ((go_at_call 74; exact Calls.quiet_ext ((HNX.out _ (Later.ext _))))) | ((go_at_call 75; exact Calls.quiet_ext ((HAX.out _ (Later.ext _)))))))
        refine wpQuiet_nil ?_
        intro w1 hb1
        have HB1 := Lib.hid hb1
        clear hcx g0 g1 g2 q0 q1 hb1
        go_wp2
        go_roundw
        case rel => exact ⟨k + 1, by omega, by go_num, HB.out.trans HB1.out, HG⟩
        case measure => simp [intOf]; omega
      · have ht0 : decide (0 < k) = true := by rw [decide_eq_true_iff]; omega
        obtain ⟨b', o', p, cs', eb, _, hp, _, hc', hr'⟩ := (h3'.out.ext RWindow.mono eW).at_ (show k - 1 < q by omega)
        obtain ⟨A2, c2, rfl, _, _, _, _⟩ := win_cells hr'
        injection eb with eb
        injection eb with eb eo
        subst eb eo
        have p0 := hc' 0 _ rfl
        simp only [Nat.add_zero] at p0
        have hprev : prevOf xs k = some p := by rw [prevOf, if_neg hk0, hp]
        have HP := Lib.hid hprev
        have hk1 : 0 < k := by omega
        rcases Bool.eq_false_or_eq_true (decide (x.From < p.From)) with h5 | h5
        all_goals
          have H5 := Lib.hid (show winLt p x = !(decide (x.From < p.From)) by unfold winLt; rw [Bool.eq_iff_iff]; simp)
          rw [h5] at H5
        · have HF := Lib.hid (show z = false by rw [HWI.out, HE.out, drop_cons HX.out, chain_ge HP.out H5.out]; rfl)
          clear hml hk0 hp hc' hr' hprev
          generalize x.Nodes.length = ln at *
          go_wp2
          refine wp_region_ext (by kernel_rfl) (by kernel_rfl) ?_
          repeat (go_big_quiet_step (first | ((go_at_call 73; exact Calls.quiet_ext ((Same.ret (wisSpan_c _ _ _))))) | ((go_at_call 74; exact Calls.quiet_ext ((HNX.out _ (Later.ext _))))) | ((go_at_call 75; exact Calls.quiet_ext ((HAX.out _ (Later.ext _)))))))
          refine wpQuiet_nil ?_
          intro w1 hb1
          have HB1 := Lib.hid hb1
          clear hcx g0 g1 g2 q0 q1 p0 hb1
          go_wp2
          exact ret_bool rfl rfl rfl HF.out.symm (HEB.out.trans HB1.out)
        · have HG := Lib.hid (show chainGo (winOkT t mm) winLt none xs = chainGo (winOkT t mm) winLt (prevOf xs (k + 1)) (xs.drop (k + 1)) by rw [HE.out, drop_cons HX.out, chain_lt HP.out H5.out, HOK.out, prevOf_succ HX.out]; rfl)
          clear hml hk0 hp hc' hr' hprev
          generalize x.Nodes.length = ln at *
          go_wp2
          refine wp_region_ext (by kernel_rfl) (by kernel_rfl) ?_
          repeat (go_big_quiet_step (first | ((go_at_call 73; exact Calls.quiet_ext ((Same.ret (wisSpan_c _ _ _))))) | ((go_at_call 74; exact Calls.quiet_ext ((HNX.out _ (Later.ext _))))) | ((go_at_call 75; exact Calls.quiet_ext ((HAX.out _ (Later.ext _)))))))
          refine wpQuiet_nil ?_
          intro w1 hb1
          have HB1 := Lib.hid hb1
          clear hcx g0 g1 g2 q0 q1 p0 hb1
          go_wp2
          go_roundw
          case rel => exact ⟨k + 1, by omega, by go_num, HB.out.trans HB1.out, HG⟩
          case measure => simp [intOf]; omega
    · have HF := Lib.hid (show z = (t && decide (q ≤ 20)) by rw [HWI.out, HE.out, List.drop_eq_nil_of_le (by have := HN.out; omega), chain_end, HN.out]; rfl)
      clear h3
      rcases (Bool.eq_false_or_eq_true t).symm with h1 | h1
      · rw [h1] at HT HF
        go_wp2_with fail
        refine (HT.out _ eW).mono ?_
        rintro e w2 ⟨rfl, hb2⟩
        go_wp2
        exact ret_bool rfl rfl rfl HF.out.symm (eW.trans hb2)
      · rw [h1] at HT HF
        go_wp2_with fail
        refine (HT.out _ eW).mono ?_
        rintro e w2 ⟨rfl, hb2⟩
        go_wp2
        exact ret_bool rfl rfl rfl (by rw [HF.out]; (first | (symm; rw [decide_eq_true_iff]; omega) | (symm; rw [decide_eq_false_iff_not]; omega) | (rw [decide_eq_decide]; omega) | ((try simp only [beq_iff_eq, beq_eq_false_iff_ne, bne_iff_ne, bne_eq_false_iff_eq, ne_eq] at *); rw [Bool.eq_iff_iff]; simp; omega))) (eW.trans hb2)
end Go.Proofs.YtgmlcohffdeplaaGreat
/-! Wins2 -/
namespace Go.Proofs.YtgmlcohffdeplaaGreat
open Go.RowKit
set_option linter.unusedVariables false
theorem spec_start {ps : List Int} {ns : List Node} {xs : List Window} {t : Bool} {q : Nat} (ht : topoB ps ns = t) (hq : xs.length = q) : windowsB ps ns xs = (t && (decide (q ≤ 20) && chainGo (winOkT true ns.length) winLt none xs)) := by
  unfold windowsB; rw [ht, hq]
set_option maxHeartbeats 8000000 in
set_option maxRecDepth 10000 in
theorem sWindowsOk_c (ps : List Int) (ns : List Node) (xs : List Window) (A : Option Addr) (n c : Nat) (B : Option Addr) (m d : Nat) (D : Option Addr) (q f : Nat) (w : World) (h : SlAt RInt 1 w A n ps) (hl : n ≤ maxLen) (h2 : SlAt RNode 4 w B m ns) (hl2 : m ≤ maxLen) (h3 : SlAt RWindow 3 w D q xs) (hl3 : q ≤ maxLen) : Calls Tryz.prog 26 #[.agg #[.slice A n c, .slice B m d], .slice D q f] w (Ret w (.bool (windowsB ps ns xs))) := by
  have HT := Lib.hid (fun (u : World) (e : Ext w u) => sTopoOk_c ps ns A n c B m d u (h.ext (Flat.mono _ _) e) hl (h2.ext (Flat.mono _ _) e) hl2)
  have HAN := Lib.hid (fun (ys : List Int) (C : Option Addr) (r s : Nat) (u : World) (e : Ext w u) (hy : SlAt RInt 1 u C r ys) (hr : r ≤ maxLen) => l02Nodes_c ps ns ys A n c B m d C r s u (h.ext (Flat.mono _ _) e) hl (h2.ext (Flat.mono _ _) e) hl2 hy hr)
  unfold maxLen at hl hl2 hl3
  have HN := Lib.hid h3.len
  have HWI := Lib.hid (fun (t : Bool) (e : topoB ps ns = t) => spec_start e h3.len)
  clear h h2
  generalize topoB ps ns = t at HT HAN HWI
  replace HWI := Lib.hid (HWI.out t rfl)
  generalize ns.length = mm at HAN HWI
  generalize windowsB ps ns xs = z at HWI ⊢
  have e0 := HT.out (w.alloc (.cells #[.slice A n c, .slice B m d] 38)) ((Ext.refl w).alloc _)
  have HT0 := Lib.hid e0
  clear e0 HT
  rcases (Bool.eq_false_or_eq_true t).symm with h1 | h1
  · rw [h1] at HT0 HWI
    have HF := Lib.hid (show z = false from HWI.out)
    go_enter Tryz.func26, Tryz.ntmps26
    go_wp2_with fail
    refine HT0.out.mono ?_
    rintro e w2 ⟨rfl, hb2⟩
    clear h3
    go_wp2
    exact ret_bool rfl rfl rfl HF.out.symm (((Ext.refl w).alloc _).trans hb2)
  rw [h1] at HT0 HWI HAN
  clear h1
  by_cases hbig : 20 < q
  · have HF := Lib.hid (show z = false by rw [HWI.out, show decide (q ≤ 20) = false by rw [decide_eq_false_iff_not]; omega]; rfl)
    go_enter Tryz.func26, Tryz.ntmps26
    go_wp2_with fail
    refine HT0.out.mono ?_
    rintro e w2 ⟨rfl, hb2⟩
    clear h3
    go_wp2
    exact ret_bool rfl rfl rfl HF.out.symm (((Ext.refl w).alloc _).trans hb2)
  replace HWI := Lib.hid (show z = chainGo (winOkT true mm) winLt none xs by rw [HWI.out, show decide (q ≤ 20) = true by rw [decide_eq_true_iff]; omega]; rfl)
  go_enter Tryz.func26, Tryz.ntmps26
  go_wp2_with fail
  refine HT0.out.mono ?_
  rintro e w2 ⟨rfl, hb2⟩
  have HB2 := Lib.hid hb2
  have hz2 : w.heap.size < w2.heap.size := by have := hb2.le; simp at this; omega
  have HW2 := Lib.hid (((Ext.refl w).alloc (.cells #[.slice A n c, .slice B m d] 38)).trans hb2)
  have H3 := Lib.hid h3
  clear hb2 h3
  go_wp2
  go_loopw [18] (fun iv wr => ∃ k : Nat, k ≤ q ∧ iv = .int .i64 k ∧ Ext w2 wr ∧ Hid (z = chainGo (winOkT true mm) winLt (prevOf xs k) (xs.drop k))) (fun iv _ => q - (intOf iv).toNat)
  case atStart => exact ⟨0, Nat.zero_le _, rfl, Ext.refl _, Lib.hid HWI.out⟩
  case round =>
    obtain ⟨k, hk, rfl, hb, HE⟩ := hrel
    obtain ⟨wo, rfl⟩ : ∃ wo, wo = wr := ⟨_, rfl⟩
    have q0 := (HB2.out.trans hb).cell (acell_box w [.slice A n c, .slice B m d] 38 0 _ rfl)
    have q1 := (HB2.out.trans hb).cell (acell_box w [.slice A n c, .slice B m d] 38 1 _ rfl)
    have eW : Ext w wo := HW2.out.trans hb
    have hsz : w.heap.size < wo.heap.size := lt_of_cell q0
    by_cases hlt : k < q
    · obtain ⟨b, o, x, cs, rfl, hbw, hx, _, hc, hr⟩ := (H3.out.ext RWindow.mono eW).at_ hlt
      obtain ⟨A1, c1, rfl, hsl, hml, hf, ht⟩ := win_cells hr
      have g0 := hc 0 _ rfl
      have g1 := hc 1 _ rfl
      have g2 := hc 2 _ rfl
      simp only [Nat.add_zero] at g0
      have HB := Lib.hid (hb.alloc (.cells #[.int .i64 x.From, .int .i64 x.To, .slice A1 x.Nodes.length c1] 73))
      have HEB := Lib.hid (eW.alloc (.cells #[.int .i64 x.From, .int .i64 x.To, .slice A1 x.Nodes.length c1] 73))
      have HBAD := Lib.hid (show winOkT true mm x = false → z = false from fun e => by rw [HE.out, drop_cons hx, chain_bad _ e])
      have HSL := Lib.hid (fun (u : World) (e : Ext (wo.alloc (.cells #[.int .i64 x.From, .int .i64 x.To, .slice A1 x.Nodes.length c1] 73)) u) => hsl.ext (Flat.mono _ _) (((Ext.refl _).alloc _).trans e))
      have HNX := Lib.hid (fun (u : World) (e : Ext (wo.alloc (.cells #[.int .i64 x.From, .int .i64 x.To, .slice A1 x.Nodes.length c1] 73)) u) => HAN.out x.Nodes A1 x.Nodes.length c1 u (HEB.out.trans e) (HSL.out u e) hml)
      have HX := Lib.hid hx
      have HBX := Lib.hid (fun (u : World) (e : Ext (wo.alloc (.cells #[.int .i64 x.From, .int .i64 x.To, .slice A1 x.Nodes.length c1] 73)) u) => e.cell (acell_box wo [.int .i64 x.From, .int .i64 x.To, .slice A1 x.Nodes.length c1] 73 2 _ rfl))
      have hbw2 : b < wo.heap.size + 1 := by omega
      have hbw3 : w.heap.size < wo.heap.size + 1 := by omega
      have hcx := @Later.cell (wo.alloc (.cells #[.int .i64 x.From, .int .i64 x.To, .slice A1 x.Nodes.length c1] 73))
      have HML := Lib.hid hml
      clear hc hr hsl hf ht hx hb
      rcases (Bool.eq_false_or_eq_true (timeB x.From)).symm with h1 | h1
      · have HF := Lib.hid (HBAD.out (by unfold winOkT wspanB; rw [h1]; rfl))
        clear hml
        go_wp2
        refine wp_region_ext (by kernel_rfl) (by kernel_rfl) ?_
        repeat (go_big_quiet_step ((go_at_call 65; exact Calls.quiet_ext ((Same.ret (sTime_c _ _))))))
        refine wpQuiet_nil ?_
        intro w1 hb1
        have HB1 := Lib.hid hb1
        clear hcx g0 g1 g2 q0 q1 hb1
        go_wp2
        exact ret_bool rfl rfl rfl HF.out.symm (HEB.out.trans HB1.out)
      rcases (Bool.eq_false_or_eq_true (timeB x.To)).symm with h2 | h2
      · have HF := Lib.hid (HBAD.out (by unfold winOkT wspanB; rw [h1, h2]; rfl))
        clear hml
        go_wp2
        refine wp_region_ext (by kernel_rfl) (by kernel_rfl) ?_
        repeat (go_big_quiet_step ((go_at_call 65; exact Calls.quiet_ext ((Same.ret (sTime_c _ _))))))
        refine wpQuiet_nil ?_
        intro w1 hb1
        have HB1 := Lib.hid hb1
        clear hcx g0 g1 g2 q0 q1 hb1
        go_wp2
        exact ret_bool rfl rfl rfl HF.out.symm (HEB.out.trans HB1.out)
      rcases Bool.eq_false_or_eq_true (decide (x.To ≤ x.From)) with h3 | h3
      · have HF := Lib.hid (HBAD.out (by unfold winOkT wspanB; rw [h1, h2, show decide (x.From < x.To) = false by rw [decide_eq_false_iff_not]; have := of_decide_eq_true h3; omega]; rfl))
        clear hml
        go_wp2
        refine wp_region_ext (by kernel_rfl) (by kernel_rfl) ?_
        repeat (go_big_quiet_step ((go_at_call 65; exact Calls.quiet_ext ((Same.ret (sTime_c _ _))))))
        refine wpQuiet_nil ?_
        intro w1 hb1
        have HB1 := Lib.hid hb1
        clear hcx g0 g1 g2 q0 q1 hb1
        go_wp2
        exact ret_bool rfl rfl rfl HF.out.symm (HEB.out.trans HB1.out)
      have HSP := Lib.hid (show wspanB x.From x.To = true by unfold wspanB; rw [h1, h2, show decide (x.From < x.To) = true by rw [decide_eq_true_iff]; have := of_decide_eq_false h3; omega]; rfl)
      rcases Nat.eq_zero_or_pos x.Nodes.length with h4 | h4
      · have HF := Lib.hid (HBAD.out (by unfold winOkT; rw [HSP.out, h4]; rfl))
        have hz : decide (((x.Nodes.length : Nat) : Int) < 1) = true := by rw [decide_eq_true_iff]; omega
        clear hml
        generalize x.Nodes.length = ln at *
        clear h4
        go_wp2
        refine wp_region_ext (by kernel_rfl) (by kernel_rfl) ?_
        repeat (go_big_quiet_step ((go_at_call 65; exact Calls.quiet_ext ((Same.ret (sTime_c _ _))))))
        refine wpQuiet_nil ?_
        intro w1 hb1
        have HB1 := Lib.hid hb1
        clear hcx g0 g1 g2 q0 q1 hb1
        go_wp2
        exact ret_bool rfl rfl rfl HF.out.symm (HEB.out.trans HB1.out)
      have hz : decide (((x.Nodes.length : Nat) : Int) < 1) = false := by rw [decide_eq_false_iff_not]; omega
      have HD := Lib.hid (decide_eq_true h4)
      clear h4
      have HOKE := Lib.hid (show winOkT true mm x = ((nodesB mm x.Nodes && true) && ascB x.Nodes) by unfold winOkT; rw [HSP.out, HD.out]; rfl)
      rcases (Bool.eq_false_or_eq_true (nodesB mm x.Nodes && true)).symm with h5 | h5
      · have HF := Lib.hid (HBAD.out (by rw [HOKE.out, h5]; rfl))
        rw [h5] at HNX
        clear hml h5
        have HLN := Lib.hid (rfl : x.Nodes.length = x.Nodes.length)
        generalize x.Nodes.length = ln at *
        go_wp2
        refine wp_region_ext (by kernel_rfl) (by kernel_rfl) ?_
        repeat (go_big_quiet_step (first | ((go_at_call 65; exact Calls.quiet_ext ((Same.ret (sTime_c _ _))))) | ((go_at_call 66; exact Calls.quiet_ext ((HNX.out _ (Later.ext _)))))))
        refine wpQuiet_nil ?_
        intro w1 hb1
        have HB1 := Lib.hid hb1
        clear hcx g0 g1 g2 q0 q1 hb1
        go_wp2
        exact ret_bool rfl rfl rfl HF.out.symm (HEB.out.trans HB1.out)
      replace HOKE := Lib.hid (show winOkT true mm x = ascB x.Nodes by rw [HOKE.out, h5]; rfl)
      rw [h5] at HNX
      have HDONE : Hid (z = chainGo (winOkT true mm) winLt (prevOf xs k) (xs.drop k)) := HE
      clear h5
      have HLE := Lib.hid (show ∃ ln : Nat, x.Nodes.length = ln from ⟨_, rfl⟩)
      by_cases hk0 : k = 0
      · have ht0 : decide (0 < k) = false := by rw [decide_eq_false_iff_not]; omega
        have HG := Lib.hid (show winOkT true mm x = true → z = chainGo (winOkT true mm) winLt (prevOf xs (k + 1)) (xs.drop (k + 1)) from fun e => by rw [HE.out, drop_cons HX.out, chain_first hk0, e, prevOf_succ HX.out]; rfl)
        clear hk0
        go_wp2
        refine wp_region_ext (by kernel_rfl) (by kernel_rfl) ?_
        repeat (go_big_quiet_step (first | ((go_at_call 65; exact Calls.quiet_ext ((Same.ret (sTime_c _ _))))) | ((go_at_call 66; exact Calls.quiet_ext ((HNX.out _ (Later.ext _)))))))
        refine wpQuiet_nil ?_
        intro w1 hb1
        have HB1 := Lib.hid hb1
        clear hcx g0 g1 g2 q0 q1 hb1
        go_wp2
        clear h1 h2 h3
        have hmm := HML.out
        unfold maxLen at hmm
        have hs1 : wo.heap.size + 1 ≤ w1.heap.size := by have := HB1.out.le; simpa using this
        go_loopw [7] (fun iv wr => ∃ j : Nat, 1 ≤ j ∧ j ≤ x.Nodes.length + 1 ∧ iv = .int .i64 j ∧ Ext w1 wr ∧ Hid (winOkT true mm x = chainGo (fun _ => true) ltI (prevOf x.Nodes j) (x.Nodes.drop j))) (fun iv _ => x.Nodes.length + 1 - (intOf iv).toNat)
        case atStart => exact ⟨1, by omega, by omega, rfl, Ext.refl _, Lib.hid (by rw [HOKE.out, asc_start])⟩
        case round =>
          obtain ⟨j, hj1, hj, rfl, hbi, HA⟩ := hrel
          have v2 := HBX.out wr (HB1.out.trans hbi)
          have hsr := hbi.le
          have hbw4 : wo.heap.size < wr.heap.size := by omega
          by_cases hjk : j < x.Nodes.length
          · obtain ⟨b3, o3, y, cs3, rfl, hbw5, hy, _, hcy, rfl, _⟩ := (HSL.out wr (HB1.out.trans hbi)).at_ hjk
            obtain ⟨b4, o4, y2, cs4, e4, _, hy2, _, hcz, rfl, _⟩ := (HSL.out wr (HB1.out.trans hbi)).at_ (show j - 1 < x.Nodes.length by omega)
            injection e4 with e4
            injection e4 with e4 e5
            subst e4 e5
            have y0 := hcy 0 _ rfl
            simp only [Nat.mul_one, Nat.add_zero] at y0
            have z0 := hcz 0 _ rfl
            simp only [Nat.mul_one, Nat.add_zero] at z0
            have HNY := Lib.hid (asc_next hj1 hy2 hy)
            have HBI := Lib.hid hbi
            have hj0 : 0 < j := hj1
            have hcx := @Later.cell wr
            clear hcy hcz hy hy2 hbi
            rcases Bool.eq_false_or_eq_true (decide (y ≤ y2)) with h7 | h7
            · have HF := Lib.hid (HBAD.out (by rw [HA.out, HNY.out, show ltI y2 y = false by unfold ltI; rw [decide_eq_false_iff_not]; have := of_decide_eq_true h7; omega]; rfl))
              go_wp2
              refine wp_region_ext (by kernel_rfl) (by kernel_rfl) ?_
              repeat (go_big_quiet_step (fail))
              refine wpQuiet_nil ?_
              intro w2 hb2
              have HB2 := Lib.hid hb2
              clear hcx v2 y0 z0 hb2
              go_wp2
              exact ret_bool rfl rfl rfl HF.out.symm (HEB.out.trans (HB1.out.trans (HBI.out.trans HB2.out)))
            · have HT := Lib.hid (show winOkT true mm x = chainGo (fun _ => true) ltI (prevOf x.Nodes (j + 1)) (x.Nodes.drop (j + 1)) by rw [HA.out, HNY.out, show ltI y2 y = true by unfold ltI; rw [decide_eq_true_iff]; have := of_decide_eq_false h7; omega]; rfl)
              go_wp2
              refine wp_region_ext (by kernel_rfl) (by kernel_rfl) ?_
              repeat (go_big_quiet_step (fail))
              refine wpQuiet_nil ?_
              intro w2 hb2
              have HB2 := Lib.hid hb2
              clear hcx v2 y0 z0 hb2
              go_wp2
              go_roundw
              case rel => exact ⟨j + 1, by omega, by omega, by go_num, HBI.out.trans HB2.out, HT⟩
              case measure => simp [intOf]; omega
          · have HOK := Lib.hid (HG.out (by rw [HA.out, asc_end (by omega)]))
            have HBI := Lib.hid hbi
            clear hbi
            go_wp2
            go_roundw
            case rel => exact ⟨k + 1, by omega, by go_num, HB.out.trans (HB1.out.trans HBI.out), HOK⟩
            case measure => simp [intOf]; omega
      · have ht0 : decide (0 < k) = true := by rw [decide_eq_true_iff]; omega
        obtain ⟨b', o', p, cs', eb, _, hp, _, hc', hr'⟩ := (H3.out.ext RWindow.mono eW).at_ (show k - 1 < q by omega)
        obtain ⟨A2, c2, rfl, _, _, _, _⟩ := win_cells hr'
        injection eb with eb
        injection eb with eb eo
        subst eb eo
        have p0 := hc' 0 _ rfl
        simp only [Nat.add_zero] at p0
        have hprev : prevOf xs k = some p := by rw [prevOf, if_neg hk0, hp]
        have HP := Lib.hid hprev
        have hk1 : 0 < k := by omega
        rcases Bool.eq_false_or_eq_true (decide (x.From < p.From)) with h6 | h6
        all_goals
          have H6 := Lib.hid (show winLt p x = !(decide (x.From < p.From)) by unfold winLt; rw [Bool.eq_iff_iff]; simp)
          rw [h6] at H6
        · have HF := Lib.hid (show z = false by rw [HE.out, drop_cons HX.out, chain_ge HP.out H6.out])
          clear hml hk0 hp hc' hr' hprev
          generalize x.Nodes.length = ln at *
          go_wp2
          refine wp_region_ext (by kernel_rfl) (by kernel_rfl) ?_
          repeat (go_big_quiet_step (first | ((go_at_call 65; exact Calls.quiet_ext ((Same.ret (sTime_c _ _))))) | ((go_at_call 66; exact Calls.quiet_ext ((HNX.out _ (Later.ext _)))))))
          refine wpQuiet_nil ?_
          intro w1 hb1
          have HB1 := Lib.hid hb1
          clear hcx g0 g1 g2 q0 q1 p0 hb1
          go_wp2
          exact ret_bool rfl rfl rfl HF.out.symm (HEB.out.trans HB1.out)
        · have HG := Lib.hid (show winOkT true mm x = true → z = chainGo (winOkT true mm) winLt (prevOf xs (k + 1)) (xs.drop (k + 1)) from fun e => by rw [HE.out, drop_cons HX.out, chain_lt HP.out H6.out, e, prevOf_succ HX.out]; rfl)
          clear hk0 hp hc' hr' hprev
          go_wp2
          refine wp_region_ext (by kernel_rfl) (by kernel_rfl) ?_
          repeat (go_big_quiet_step (first | ((go_at_call 65; exact Calls.quiet_ext ((Same.ret (sTime_c _ _))))) | ((go_at_call 66; exact Calls.quiet_ext ((HNX.out _ (Later.ext _)))))))
          refine wpQuiet_nil ?_
          intro w1 hb1
          have HB1 := Lib.hid hb1
          clear hcx g0 g1 g2 q0 q1 p0 hb1
          go_wp2
          clear h1 h2 h3
          have hmm := HML.out
          unfold maxLen at hmm
          have hs1 : wo.heap.size + 1 ≤ w1.heap.size := by have := HB1.out.le; simpa using this
          go_loopw [7] (fun iv wr => ∃ j : Nat, 1 ≤ j ∧ j ≤ x.Nodes.length + 1 ∧ iv = .int .i64 j ∧ Ext w1 wr ∧ Hid (winOkT true mm x = chainGo (fun _ => true) ltI (prevOf x.Nodes j) (x.Nodes.drop j))) (fun iv _ => x.Nodes.length + 1 - (intOf iv).toNat)
          case atStart => exact ⟨1, by omega, by omega, rfl, Ext.refl _, Lib.hid (by rw [HOKE.out, asc_start])⟩
          case round =>
            obtain ⟨j, hj1, hj, rfl, hbi, HA⟩ := hrel
            have v2 := HBX.out wr (HB1.out.trans hbi)
            have hsr := hbi.le
            have hbw4 : wo.heap.size < wr.heap.size := by omega
            by_cases hjk : j < x.Nodes.length
            · obtain ⟨b3, o3, y, cs3, rfl, hbw5, hy, _, hcy, rfl, _⟩ := (HSL.out wr (HB1.out.trans hbi)).at_ hjk
              obtain ⟨b4, o4, y2, cs4, e4, _, hy2, _, hcz, rfl, _⟩ := (HSL.out wr (HB1.out.trans hbi)).at_ (show j - 1 < x.Nodes.length by omega)
              injection e4 with e4
              injection e4 with e4 e5
              subst e4 e5
              have y0 := hcy 0 _ rfl
              simp only [Nat.mul_one, Nat.add_zero] at y0
              have z0 := hcz 0 _ rfl
              simp only [Nat.mul_one, Nat.add_zero] at z0
              have HNY := Lib.hid (asc_next hj1 hy2 hy)
              have HBI := Lib.hid hbi
              have hj0 : 0 < j := hj1
              have hcx := @Later.cell wr
              clear hcy hcz hy hy2 hbi
              rcases Bool.eq_false_or_eq_true (decide (y ≤ y2)) with h7 | h7
              · have HF := Lib.hid (HBAD.out (by rw [HA.out, HNY.out, show ltI y2 y = false by unfold ltI; rw [decide_eq_false_iff_not]; have := of_decide_eq_true h7; omega]; rfl))
                go_wp2
                refine wp_region_ext (by kernel_rfl) (by kernel_rfl) ?_
                repeat (go_big_quiet_step (fail))
                refine wpQuiet_nil ?_
                intro w2 hb2
                have HB2 := Lib.hid hb2
                clear hcx v2 y0 z0 hb2
                go_wp2
                exact ret_bool rfl rfl rfl HF.out.symm (HEB.out.trans (HB1.out.trans (HBI.out.trans HB2.out)))
              · have HT := Lib.hid (show winOkT true mm x = chainGo (fun _ => true) ltI (prevOf x.Nodes (j + 1)) (x.Nodes.drop (j + 1)) by rw [HA.out, HNY.out, show ltI y2 y = true by unfold ltI; rw [decide_eq_true_iff]; have := of_decide_eq_false h7; omega]; rfl)
                go_wp2
                refine wp_region_ext (by kernel_rfl) (by kernel_rfl) ?_
                repeat (go_big_quiet_step (fail))
                refine wpQuiet_nil ?_
                intro w2 hb2
                have HB2 := Lib.hid hb2
                clear hcx v2 y0 z0 hb2
                go_wp2
                go_roundw
                case rel => exact ⟨j + 1, by omega, by omega, by go_num, HBI.out.trans HB2.out, HT⟩
                case measure => simp [intOf]; omega
            · have HOK := Lib.hid (HG.out (by rw [HA.out, asc_end (by omega)]))
              have HBI := Lib.hid hbi
              clear hbi
              go_wp2
              go_roundw
              case rel => exact ⟨k + 1, by omega, by go_num, HB.out.trans (HB1.out.trans HBI.out), HOK⟩
              case measure => simp [intOf]; omega
    · have HF := Lib.hid (show z = true by rw [HE.out, List.drop_eq_nil_of_le (by have := HN.out; omega), chain_end])
      go_wp2
      exact ret_bool rfl rfl rfl HF.out.symm eW
end Go.Proofs.YtgmlcohffdeplaaGreat
/-! RestLaw -/
namespace Go.Proofs.YtgmlcohffdeplaaGreat
open Go.RowKit
set_option linter.unusedVariables false
theorem free_snoc (acc : List Pt) (x : Pt) (t : Int) : freeAt (acc ++ [x]) t = if x.At ≤ t then x.Free else freeAt acc t := by
  unfold freeAt
  rw [List.foldl_append]
  rfl
theorem put_free {acc : List Pt} {a : Int} {v : Vec} (h : ∀ q, acc.getLast? = some q → q.At < a) (t : Int) : freeAt (putPt acc a v) t = if a ≤ t then v else freeAt acc t := by
  unfold putPt
  split
  · exact free_snoc acc ⟨a, v⟩ t
  · rename_i hl
    by_cases hat : a ≤ t
    · rw [if_pos hat]
      unfold lastF at hl
      cases hq : acc.getLast? with
      | none => rw [hq] at hl; exact absurd rfl hl
      | some q =>
        rw [hq] at hl
        have hf : q.Free = v := by simpa using hl
        obtain ⟨r, rfl⟩ := List.getLast?_eq_some_iff.1 hq
        have h1 := h q hq
        rw [free_snoc, if_pos (by omega), hf]
    · rw [if_neg hat]
theorem put_last {acc : List Pt} {a : Int} {v : Vec} (h : ∀ q, acc.getLast? = some q → q.At < a) {q : Pt} (hq : (putPt acc a v).getLast? = some q) : q.At ≤ a := by
  unfold putPt at hq
  split at hq
  · rw [last_app] at hq; injection hq with hq; subst hq; exact Int.le_refl _
  · have := h q hq; omega
theorem chg_free {l : List Pt} {fr to : Int} {g : Vec → Option Vec} : ∀ (ts : List Int) (acc o : List Pt), ts.Pairwise (· < ·) → (∀ q, acc.getLast? = some q → ∀ t ∈ ts, q.At < t) → chgGo l fr to g ts acc = some o →
    ∀ t : Int, ((∀ t' ∈ ts, t < t') → freeAt o t = freeAt acc t) ∧ ∀ t' ∈ ts, t' ≤ t → (∀ t'' ∈ ts, t'' ≤ t → t'' ≤ t') → atV l fr to g t' = some (freeAt o t) := by
  intro ts
  induction ts with
  | nil =>
    intro acc o _ _ h t
    injection h with h; subst h
    exact ⟨fun _ => rfl, fun t' hm => by cases hm⟩
  | cons a r ih =>
    intro acc o hp hl h t
    obtain ⟨hp1, hp2⟩ := List.pairwise_cons.1 hp
    rw [chgGo] at h
    split at h
    · cases h
    · rename_i x hx
      have ha : ∀ q, acc.getLast? = some q → q.At < a := fun q hq => hl q hq a (List.mem_cons_self ..)
      obtain ⟨i1, i2⟩ := ih (putPt acc a x) o hp2 (fun q hq t' ht' => by
        have h1 := put_last ha hq
        have h2 := hp1 t' ht'
        omega) h t
      refine ⟨fun hall => ?_, fun t' hm hle hmax => ?_⟩
      · have h1 := hall a (List.mem_cons_self ..)
        rw [i1 (fun t' ht' => hall t' (List.mem_cons_of_mem _ ht')), put_free ha, if_neg (by omega)]
      · rcases List.mem_cons.1 hm with e | hm
        · subst e
          rw [i1 (fun t'' ht'' => by
            rcases Int.lt_or_le t t'' with hlt | hge
            · exact hlt
            · have h1 := hmax t'' (List.mem_cons_of_mem _ ht'') hge
              have h2 := hp1 t'' ht''
              omega), put_free ha, if_pos hle]
          exact hx
        · exact i2 t' hm hle (fun t'' ht'' h2 => hmax t'' (List.mem_cons_of_mem _ ht'') h2)
theorem exists_max (t : Int) : ∀ l : List Int, (∃ x ∈ l, x ≤ t) → ∃ x ∈ l, x ≤ t ∧ ∀ y ∈ l, y ≤ t → y ≤ x := by
  intro l
  induction l with
  | nil => rintro ⟨x, hx, _⟩; cases hx
  | cons a r ih =>
    rintro ⟨x, hx, hxt⟩
    by_cases hr : ∃ y ∈ r, y ≤ t
    · obtain ⟨m, hm, hmt, hmax⟩ := ih hr
      by_cases ha : a ≤ t ∧ m < a
      · exact ⟨a, List.mem_cons_self .., ha.1, fun y hy hyt => by
          rcases List.mem_cons.1 hy with e | hy
          · omega
          · have := hmax y hy hyt; omega⟩
      · exact ⟨m, List.mem_cons_of_mem _ hm, hmt, fun y hy hyt => by
          rcases List.mem_cons.1 hy with e | hy
          · subst e; omega
          · exact hmax y hy hyt⟩
    · rcases List.mem_cons.1 hx with e | hx
      · subst e
        exact ⟨x, List.mem_cons_self .., hxt, fun y hy hyt => by
          rcases List.mem_cons.1 hy with e | hy
          · omega
          · exact absurd ⟨y, hy, hyt⟩ hr⟩
      · exact absurd ⟨x, hx, hxt⟩ hr
/-- At every time the changed profile has what the change says. -/
theorem take_free {l o : List Pt} {fr to : Int} {g : Vec → Option Vec} (hl : profB l = true) (hs : timeB fr = true ∧ timeB to = true ∧ fr < to) (h : takeG l fr to g = some o) {t : Int} (ht : 0 ≤ t) : atV l fr to g t = some (freeAt o t) := by
  unfold takeG at h
  split at h
  · cases h
  · rename_i o' ho
    split at h
    · injection h with h
      subst h
      have hsort := timesL_sorted fr to (profB_parts hl).2.2.2.1
      obtain ⟨r, hr⟩ := timesL_head hl hs
      obtain ⟨t', hm, hle, hmax⟩ := exists_max t (timesL l fr to) ⟨0, by rw [hr]; exact List.mem_cons_self .., ht⟩
      have h1 := ((chg_free _ _ _ hsort (fun q hq => by simp at hq) ho t).2 t' hm hle hmax)
      rw [← h1]
      have e1 : freeAt l t' = freeAt l t := freeAt_congr (fun x hx => ⟨fun h => by omega, fun h => hmax _ (timesL_mem.2 (.inr (.inr ⟨x, hx, rfl⟩))) h⟩)
      have e2 : fr ≤ t → fr ≤ t' := hmax fr (timesL_mem.2 (.inr (.inl rfl)))
      have e3 : to ≤ t → to ≤ t' := hmax to (timesL_mem.2 (.inl rfl))
      unfold atV
      rw [e1]
      by_cases hi : fr ≤ t ∧ t < to
      · rw [if_pos hi, if_pos ⟨e2 hi.1, by omega⟩]
      · rw [if_neg hi, if_neg (fun hj => hi ⟨by omega, by rcases Int.lt_or_le t to with h2 | h2; exact h2; have := e3 h2; omega⟩)]
    · cases h
/-- A change that always goes, of a profile with points to spare. -/
theorem chg_total {l : List Pt} {fr to : Int} {g : Vec → Option Vec} (hg : ∀ x, ∃ y, g x = some y) : ∀ (ts : List Int) (acc : List Pt), ∃ o, chgGo l fr to g ts acc = some o := by
  intro ts
  induction ts with
  | nil => intro acc; exact ⟨acc, rfl⟩
  | cons a r ih =>
    intro acc
    have : ∃ x, atV l fr to g a = some x := by
      unfold atV; split
      · exact hg _
      · exact ⟨_, rfl⟩
    obtain ⟨x, hx⟩ := this
    rw [chg_some hx]
    exact ih _
theorem take_total {l : List Pt} {fr to : Int} {g : Vec → Option Vec} (hg : ∀ x, ∃ y, g x = some y) (hlen : l.length + 2 ≤ 200) : ∃ o, takeG l fr to g = some o ∧ o.length ≤ l.length + 2 := by
  obtain ⟨o, ho⟩ := chg_total (l := l) (fr := fr) (to := to) hg (timesL l fr to) []
  have h1 := chg_len _ _ _ ho
  have h2 := timesL_len l fr to
  have h3 : o.length ≤ l.length + 2 := by simp at h1; omega
  exact ⟨o, by rw [take_some ho, if_pos (by omega)], h3⟩
/-- Nothing is free in a span. -/
def restG : Vec → Option Vec := byG (fun _ => ⟨0, 0, 0⟩) (fun _ => true)
theorem restG_total (x : Vec) : ∃ y, restG x = some y := ⟨_, rfl⟩
theorem rest_valid {l o : List Pt} {fr to : Int} (hl : profB l = true) (hs : timeB fr = true ∧ timeB to = true ∧ fr < to) (h : takeG l fr to restG = some o) : profB o = true := by
  unfold takeG at h
  split at h
  · cases h
  · rename_i o' ho
    split at h
    · rename_i hle
      injection h with h; subst h
      rw [take_valid (fun x y _ h => by injection h with h; subst h; rfl) hl hs (free_vec hl) (timesL_sorted fr to (profB_parts hl).2.2.2.1) (timesL_time hl hs) (timesL_head hl hs) ho]
      rw [decide_eq_true_iff]; exact hle
    · cases h
theorem rest_free {l o : List Pt} {fr to : Int} (hl : profB l = true) (hs : timeB fr = true ∧ timeB to = true ∧ fr < to) (h : takeG l fr to restG = some o) {t : Int} (ht : 0 ≤ t) : freeAt o t = if fr ≤ t ∧ t < to then ⟨0, 0, 0⟩ else freeAt l t := by
  have h1 := take_free hl hs h ht
  unfold atV at h1
  split at h1
  · rename_i hi; rw [if_pos hi]; injection h1 with h1; exact h1.symm
  · rename_i hi; rw [if_neg hi]; injection h1 with h1; exact h1.symm
end Go.Proofs.YtgmlcohffdeplaaGreat
/-! RestLaw2 -/
namespace Go.Proofs.YtgmlcohffdeplaaGreat
open Go.RowKit
set_option linter.unusedVariables false
def restN (fr te : Int) : List Int → List (List Pt) → Option (List (List Pt))
  | [], ps => some ps
  | n :: r, ps => match takeG (ps.getD n.toNat []) fr te restG with
    | none => none
    | some p => restN fr te r (ps.set n.toNat p)
def restL : List Window → List (List Pt) → Option (List (List Pt))
  | [], ps => some ps
  | w :: r, ps => match restN w.From w.To w.Nodes ps with
    | none => none
    | some qs => restL r qs
def goodWin (m : Nat) (w : Window) : Prop := (timeB w.From = true ∧ timeB w.To = true ∧ w.From < w.To) ∧ w.Nodes.Nodup ∧ ∀ n ∈ w.Nodes, 0 ≤ n ∧ n < m
def restAt (l : List Window) (n t : Int) : Bool := l.any (fun x => x.Nodes.contains n && (decide (x.From ≤ t) && decide (t < x.To)))
theorem restN_ok {m K : Nat} {fr te : Int} (hs : timeB fr = true ∧ timeB te = true ∧ fr < te) (hK : K + 2 ≤ 200) : ∀ (nodes : List Int) (ps : List (List Pt)), nodes.Nodup → (∀ n ∈ nodes, 0 ≤ n ∧ n < m) → ps.length = m → (∀ p ∈ ps, profB p = true) → (∀ n ∈ nodes, ∀ p, ps[n.toNat]? = some p → p.length ≤ K) →
    ∃ qs, restN fr te nodes ps = some qs ∧ qs.length = m ∧ (∀ q ∈ qs, profB q = true) ∧ ∀ (i : Nat) (p : List Pt), ps[i]? = some p → ∃ q, qs[i]? = some q ∧ ((i : Int) ∉ nodes → q = p) ∧ ((i : Int) ∈ nodes → takeG p fr te restG = some q) := by
  intro nodes
  induction nodes with
  | nil => intro ps _ _ hl hv _; exact ⟨ps, rfl, hl, hv, fun i p hp => ⟨p, hp, fun _ => rfl, fun h => by cases h⟩⟩
  | cons n r ih =>
    intro ps hnd hin hl hv hlen
    obtain ⟨hn1, hn2⟩ := List.nodup_cons.1 hnd
    obtain ⟨h0, h1⟩ := hin n (List.mem_cons_self ..)
    obtain ⟨i0, rfl⟩ := Int.eq_ofNat_of_zero_le h0
    have hi0 : i0 < ps.length := by omega
    obtain ⟨p0, hp0⟩ : ∃ p, ps[i0]? = some p := ⟨_, List.getElem?_eq_getElem hi0⟩
    have hgd : ps.getD ((i0 : Int)).toNat [] = p0 := by rw [show ((i0 : Int)).toNat = i0 by omega, List.getD_eq_getElem?_getD, hp0]; rfl
    have hp0v := hv p0 (List.mem_of_getElem? hp0)
    obtain ⟨o, ho, hol⟩ := take_total (l := p0) (fr := fr) (to := te) restG_total (by have := hlen (i0 : Int) (List.mem_cons_self ..) p0 (by rw [show ((i0 : Int)).toNat = i0 by omega]; exact hp0); omega)
    have hov := rest_valid hp0v hs ho
    obtain ⟨qs, e1, e2, e3, e4⟩ := ih (ps.set i0 o) hn2 (fun k hk => hin k (List.mem_cons_of_mem _ hk)) (by rw [List.length_set]; exact hl) (fun p hp => by
      rcases List.mem_or_eq_of_mem_set hp with hp | rfl
      · exact hv p hp
      · exact hov) (fun k hk p hp => by
      have hkn : k ≠ (i0 : Int) := fun e => hn1 (e ▸ hk)
      obtain ⟨hk0, _⟩ := hin k (List.mem_cons_of_mem _ hk)
      rw [List.getElem?_set_ne (by omega)] at hp
      exact hlen k (List.mem_cons_of_mem _ hk) p hp)
    refine ⟨qs, ?_, e2, e3, fun i p hp => ?_⟩
    · rw [restN, hgd, ho]
      simp only []
      rw [show ((i0 : Int)).toNat = i0 by omega]
      exact e1
    · by_cases hii : i = i0
      · subst hii
        rw [hp0] at hp; injection hp with hp; subst hp
        obtain ⟨q, f1, f2, _⟩ := e4 i o (by rw [List.getElem?_set_self hi0])
        have hq := f2 hn1
        subst hq
        exact ⟨q, f1, fun h => absurd (List.mem_cons_self ..) h, fun _ => ho⟩
      · obtain ⟨q, f1, f2, f3⟩ := e4 i p (by rw [List.getElem?_set_ne (fun e => hii e.symm)]; exact hp)
        refine ⟨q, f1, fun h => f2 (fun hm => h (List.mem_cons_of_mem _ hm)), fun h => f3 ?_⟩
        rcases List.mem_cons.1 h with e | h
        · exact absurd (Int.ofNat_inj.1 e) hii
        · exact h
theorem restL_ok {m : Nat} : ∀ (ws : List Window) (K : Nat) (ps : List (List Pt)), (∀ w ∈ ws, goodWin m w) → ps.length = m → (∀ p ∈ ps, profB p = true ∧ p.length ≤ K) → K + 2 * ws.length ≤ 200 →
    ∃ qs, restL ws ps = some qs ∧ qs.length = m ∧ (∀ q ∈ qs, profB q = true ∧ q.length ≤ K + 2 * ws.length) ∧ ∀ (i : Nat) (p q : List Pt), ps[i]? = some p → qs[i]? = some q → ∀ t : Int, 0 ≤ t → freeAt q t = if restAt ws i t = true then ⟨0, 0, 0⟩ else freeAt p t := by
  intro ws
  induction ws with
  | nil =>
    intro K ps _ hl hv hK
    exact ⟨ps, rfl, hl, fun q hq => ⟨(hv q hq).1, by have := (hv q hq).2; simp; omega⟩, fun i p q hp hq t _ => by rw [hp] at hq; injection hq with hq; subst hq; rfl⟩
  | cons w r ih =>
    intro K ps hg hl hv hK
    obtain ⟨hs, hnd, hin⟩ := hg w (List.mem_cons_self ..)
    rw [List.length_cons] at hK
    obtain ⟨qs, e1, e2, e3, e4⟩ := restN_ok (m := m) (K := K) hs (by omega) w.Nodes ps hnd hin hl (fun p hp => (hv p hp).1) (fun n hn p hp => (hv p (List.mem_of_getElem? hp)).2)
    have hqv : ∀ q ∈ qs, profB q = true ∧ q.length ≤ K + 2 := fun q hq => by
      refine ⟨e3 q hq, ?_⟩
      obtain ⟨i, hi⟩ := List.mem_iff_getElem?.1 hq
      have hil : i < ps.length := by have := (List.getElem?_eq_some_iff.1 hi).1; omega
      obtain ⟨q', f1, f2, f3⟩ := e4 i _ (List.getElem?_eq_getElem hil)
      rw [hi] at f1; injection f1 with f1; subst f1
      have hp := (hv _ (List.getElem_mem hil)).2
      by_cases hm : (i : Int) ∈ w.Nodes
      · obtain ⟨o, ho, hol⟩ := take_total (l := ps[i]) (fr := w.From) (to := w.To) restG_total (by omega)
        rw [f3 hm] at ho
        injection ho with ho; subst ho
        omega
      · rw [f2 hm]; omega
    obtain ⟨rs, g1, g2, g3, g4⟩ := ih (K + 2) qs (fun x hx => hg x (List.mem_cons_of_mem _ hx)) e2 hqv (by omega)
    refine ⟨rs, by rw [restL, e1]; exact g1, g2, fun q hq => ⟨(g3 q hq).1, by have := (g3 q hq).2; rw [List.length_cons]; omega⟩, fun i p q hp hq t ht => ?_⟩
    obtain ⟨q', f1, f2, f3⟩ := e4 i p hp
    have h1 := g4 i q' q f1 hq t ht
    have hpv := (hv p (List.mem_of_getElem? hp)).1
    have h2 : freeAt q' t = if (w.Nodes.contains (i : Int) && (decide (w.From ≤ t) && decide (t < w.To))) = true then ⟨0, 0, 0⟩ else freeAt p t := by
      by_cases hm : (i : Int) ∈ w.Nodes
      · rw [rest_free hpv hs (f3 hm) ht]
        have hc : w.Nodes.contains (i : Int) = true := by simpa using hm
        rw [hc]
        by_cases hi : w.From ≤ t ∧ t < w.To
        · rw [if_pos hi, if_pos (by simp [hi.1, hi.2])]
        · rw [if_neg hi, if_neg (by simp; omega)]
      · rw [f2 hm]
        have hc : w.Nodes.contains (i : Int) = false := by rw [Bool.eq_false_iff]; intro h; exact hm (by simpa using h)
        rw [hc]; rfl
    rw [h1, h2]
    unfold restAt
    rw [List.any_cons]
    cases h3 : (w.Nodes.contains (i : Int) && (decide (w.From ≤ t) && decide (t < w.To))) <;> cases h4 : r.any (fun x => x.Nodes.contains (i : Int) && (decide (x.From ≤ t) && decide (t < x.To))) <;> simp
end Go.Proofs.YtgmlcohffdeplaaGreat
/-! Resting -/
namespace Go.Proofs.YtgmlcohffdeplaaGreat
open Go.RowKit
set_option linter.unusedVariables false
def restsB (n t : Int) (x : Window) : Bool := x.Nodes.contains n && (decide (x.From ≤ t) && decide (t < x.To))
def restingB (l : List Window) (n t : Int) : Bool := l.any (restsB n t)
set_option maxHeartbeats 2000000 in
set_option maxRecDepth 4000 in
theorem Resting_c (xs : List Window) (v t : Int) (A : Option Addr) (n c : Nat) (w : World) (h : SlAt RWindow 3 w A n xs) (hl : n ≤ maxLen) : Calls Tryz.prog 18 #[.slice A n c, .int .i64 v, .int .i64 t] w (Ret w (.bool (restingB xs v t))) := by
  unfold maxLen at hl
  have HN := Lib.hid h.len
  go_enter Tryz.func18, Tryz.ntmps18
  go_wp2
  go_loopw [11] (fun i wr => ∃ k : Nat, k ≤ n ∧ i = .int .i64 k ∧ Ext w wr ∧ Hid (restingB xs v t = (xs.drop k).any (restsB v t))) (fun i _ => n - (intOf i).toNat)
  case atStart => exact ⟨0, Nat.zero_le _, rfl, Ext.refl _, Lib.hid rfl⟩
  case round =>
    obtain ⟨k, hk, rfl, hb, HE⟩ := hrel
    by_cases hlt : k < n
    · obtain ⟨b, o, x, cs, rfl, hbw, hx, _, hc, hr⟩ := (h.ext RWindow.mono hb).at_ hlt
      obtain ⟨A1, c1, rfl, hsl, hml, hf, ht⟩ := win_cells hr
      have g0 := hc 0 _ rfl
      have g1 := hc 1 _ rfl
      have g2 := hc 2 _ rfl
      simp only [Nat.add_zero] at g0
      have HX := Lib.hid (show (xs.drop k).any (restsB v t) = (restsB v t x || (xs.drop (k + 1)).any (restsB v t)) by rw [drop_cons hx, List.any_cons])
      have HQ := Lib.hid (show restsB v t x = (x.Nodes.contains v && (decide (x.From ≤ t) && decide (t < x.To))) from rfl)
      have HC := Lib.hid (fun (u : World) (e : Ext wr u) => Contains_c x.Nodes v A1 x.Nodes.length c1 u (hsl.ext (Flat.mono _ _) e) hml)
      clear hc hr hsl hml hf ht hx h
      rcases (Bool.eq_false_or_eq_true (x.Nodes.contains v)).symm with h1 | h1
      all_goals
        rw [h1] at HC HQ
        clear h1
        go_wp2_with fail
        refine (HC.out _ ((Ext.refl _).alloc _)).mono ?_
        rintro e w1 ⟨rfl, hb1⟩
        have y0 := hb1.cell (law_box wr [.int .i64 x.From, .int .i64 x.To, .slice A1 x.Nodes.length c1] 73 0 _ rfl)
        have y1 := hb1.cell (law_box wr [.int .i64 x.From, .int .i64 x.To, .slice A1 x.Nodes.length c1] 73 1 _ rfl)
        have hzz : wr.heap.size < w1.heap.size := by have := hb1.le; simp at this; omega
        have HB1 := Lib.hid (hb.trans (((Ext.refl _).alloc _).trans hb1))
        clear g0 g1 g2 hb1
      · go_wp2
        go_roundw
        case rel => exact ⟨k + 1, by omega, by go_num, HB1.out, Lib.hid (by rw [HE.out, HX.out, HQ.out]; rfl)⟩
        case measure => simp [intOf]; omega
      · rcases (Bool.eq_false_or_eq_true (decide (x.From ≤ t))).symm with h2 | h2
        · have H2 := Lib.hid h2
          go_wp2
          go_roundw
          case rel => exact ⟨k + 1, by omega, by go_num, HB1.out, Lib.hid (by rw [HE.out, HX.out, HQ.out, H2.out]; rfl)⟩
          case measure => simp [intOf]; omega
        rcases (Bool.eq_false_or_eq_true (decide (t < x.To))).symm with h3 | h3
        · have H2 := Lib.hid h2
          have H3 := Lib.hid h3
          go_wp2
          go_roundw
          case rel => exact ⟨k + 1, by omega, by go_num, HB1.out, Lib.hid (by rw [HE.out, HX.out, HQ.out, H2.out, H3.out]; rfl)⟩
          case measure => simp [intOf]; omega
        · have H2 := Lib.hid h2
          have H3 := Lib.hid h3
          go_wp2
          exact ret_bool rfl rfl rfl (by rw [HE.out, HX.out, HQ.out, H2.out, H3.out]; rfl) HB1.out
    · clear h
      go_wp2
      exact ret_bool rfl rfl rfl (by rw [HE.out, List.drop_eq_nil_of_le (by have := HN.out; omega)]; rfl) hb
end Go.Proofs.YtgmlcohffdeplaaGreat
