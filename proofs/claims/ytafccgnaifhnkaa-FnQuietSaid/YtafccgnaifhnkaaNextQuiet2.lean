/- Contracts: the next quiet time, the spec's way. -/
import Derived.Test.YtafccgnaifhnkaaNextQuiet
namespace Go.Proofs.Ytafccgnaifhnkaa
open Go.RowKit
set_option linter.unusedVariables false
theorem nqAt_succ {fr : Int} {xs : List Window} {k : Nat} {x : Window} (h : xs[k]? = some x) : (nqAt fr xs)[k + 1]? = some x.To := by simp [nqAt, h]
theorem nq_next {fr t : Int} {xs : List Window} {k : Nat} (f : Int → Int → Int) (b : Int) (h : (nqAt fr xs)[k]? = some t) : ((nqAt fr xs).drop k).foldl f b = ((nqAt fr xs).drop (k + 1)).foldl f (f b t) := by rw [drop_cons h]; rfl
set_option maxHeartbeats 8000000 in
set_option maxRecDepth 8000 in
theorem sNextQuiet_c (ps : List Int) (ns : List Node) (xs : List Window) (nodes : List Int) (fr wall : Int) (A : Option Addr) (n c : Nat) (B : Option Addr) (m d : Nat) (D : Option Addr) (q f : Nat) (C : Option Addr) (r g : Nat) (w : World) (h : SlAt RInt 1 w A n ps) (hl : n ≤ maxLen) (h2 : SlAt RNode 4 w B m ns) (hl2 : m ≤ maxLen) (h3 : SlAt RWindow 3 w D q xs) (hl3 : q ≤ maxLen) (h4 : SlAt RInt 1 w C r nodes) (hl4 : r ≤ maxLen) (_ : In64 fr) (hwall : In64 wall) : Calls Try.prog 21 #[.agg #[.slice A n c, .slice B m d], .slice D q f, .slice C r g, .int .i64 fr, .int .i64 wall] w (Ret w (.int .i64 (nextQ ps ns xs nodes fr wall))) := by
  have HW := Lib.hid (fun (u : World) (e : Ext w u) => sWindowsOk_c ps ns xs A n c B m d D q f u (h.ext (Flat.mono _ _) e) hl (h2.ext (Flat.mono _ _) e) hl2 (h3.ext RWindow.mono e) hl3)
  have HQ0 := Lib.hid (fun (fr to : Int) (u : World) (e : Ext w u) (a : In64 fr) (b : In64 to) => sQuiet_c ps ns xs nodes fr to A n c B m d D q f C r g u (h.ext (Flat.mono _ _) e) hl (h2.ext (Flat.mono _ _) e) hl2 (h3.ext RWindow.mono e) hl3 (h4.ext (Flat.mono _ _) e) hl4 a b)
  have HZ := Lib.hid (show nextQ ps ns xs nodes fr wall = if (windowsB ps ns xs && (timeB fr && withinB wall 1 1000000)) = true then (nqAt fr xs).foldl (nqStep xs nodes fr wall) (-1) else -1 from rfl)
  have HOK := Lib.hid (fun (a : windowsB ps ns xs = true) (b : timeB fr = true) => nqAt_ok a b)
  have HQB := Lib.hid (fun (fr to : Int) => show quietB ps ns xs nodes fr to = (windowsB ps ns xs && quietL xs nodes fr to) from rfl)
  have H20 := Lib.hid (fun (a : windowsB ps ns xs = true) => show q ≤ 20 by
    have := h3.len
    unfold windowsB at a
    simp only [Bool.and_eq_true, decide_eq_true_eq] at a
    omega)
  have H3 := Lib.hid (fun (u : World) (e : Ext w u) => h3.ext RWindow.mono e)
  have HN := Lib.hid h3.len
  have hE : Ext w (w.alloc (.cells #[.slice A n c, .slice B m d] 32)) := (Ext.refl w).alloc _
  clear h h2 h3 h4 hl hl2 hl3 hl4
  generalize nextQ ps ns xs nodes fr wall = z at *
  generalize quietB ps ns xs nodes = qb at *
  generalize windowsB ps ns xs = wb at *
  rcases (Bool.eq_false_or_eq_true wb).symm with rfl | rfl
  · go_enter Try.func21, Try.ntmps21
    go_wp2_with fail
    refine (HW.out _ hE).mono ?_
    rintro e w1 ⟨rfl, hb1⟩
    go_wp2
    exact ret_int rfl rfl rfl HZ.out.symm (hE.trans hb1)
  have HQ := Lib.hid (fun (fr to : Int) (u : World) (e : Ext w u) (a : In64 fr) (b : In64 to) => show Calls _ _ _ u (Ret u (.bool (quietL xs nodes fr to))) by have e1 := HQ0.out fr to u e a b; rw [HQB.out] at e1; exact e1)
  clear HQ0 HQB
  rcases (Bool.eq_false_or_eq_true (timeB fr)).symm with h1 | h1
  · have HF := Lib.hid (show z = -1 by rw [HZ.out, h1]; rfl)
    go_enter Try.func21, Try.ntmps21
    go_wp2_with fail
    refine (HW.out _ hE).mono ?_
    rintro e w1 ⟨rfl, hb1⟩
    go_wp2_with fail
    refine (sTime_c fr _).mono ?_
    rintro e w2 ⟨rfl, rfl⟩
    go_wp2
    exact ret_int rfl rfl rfl HF.out.symm (hE.trans hb1)
  rcases (Bool.eq_false_or_eq_true (decide (wall < 1))).symm with h2 | h2
  rotate_left
  · have HF := Lib.hid (show z = -1 by rw [HZ.out, show withinB wall 1 1000000 = false by (unfold withinB; rw [decide_eq_false_iff_not]; have := of_decide_eq_true h2; omega), h1]; rfl)
    go_enter Try.func21, Try.ntmps21
    go_wp2_with fail
    refine (HW.out _ hE).mono ?_
    rintro e w1 ⟨rfl, hb1⟩
    go_wp2_with fail
    refine (sTime_c fr _).mono ?_
    rintro e w2 ⟨rfl, rfl⟩
    go_wp2
    exact ret_int rfl rfl rfl HF.out.symm (hE.trans hb1)
  rcases (Bool.eq_false_or_eq_true (decide (1000000 < wall))).symm with h3 | h3
  rotate_left
  · have HF := Lib.hid (show z = -1 by rw [HZ.out, show withinB wall 1 1000000 = false by (unfold withinB; rw [decide_eq_false_iff_not]; have := of_decide_eq_true h3; omega), h1]; rfl)
    go_enter Try.func21, Try.ntmps21
    go_wp2_with fail
    refine (HW.out _ hE).mono ?_
    rintro e w1 ⟨rfl, hb1⟩
    go_wp2_with fail
    refine (sTime_c fr _).mono ?_
    rintro e w2 ⟨rfl, rfl⟩
    go_wp2
    exact ret_int rfl rfl rfl HF.out.symm (hE.trans hb1)
  have hw1 : 1 ≤ wall := by have := of_decide_eq_false h2; omega
  have hw2 : wall ≤ 1000000 := by have := of_decide_eq_false h3; omega
  have HF := Lib.hid (show z = (nqAt fr xs).foldl (nqStep xs nodes fr wall) (-1) by rw [HZ.out, h1, show withinB wall 1 1000000 = true by (unfold withinB; rw [decide_eq_true_iff]; omega)]; rfl)
  have HAT := Lib.hid (HOK.out rfl h1)
  have hq20 := H20.out rfl
  have hf1 : 0 ≤ fr ∧ fr ≤ 1000000000 := by unfold timeB at h1; simpa using h1
  obtain ⟨hf1, hf2⟩ := hf1
  have HLN := Lib.hid (show (nqAt fr xs).length = q + 1 by rw [nqAt_len, HN.out])
  clear HZ HOK H20
  go_enter Try.func21, Try.ntmps21
  go_wp2_with fail
  refine (HW.out _ hE).mono ?_
  rintro e w1 ⟨rfl, hb1⟩
  go_wp2_with fail
  refine (sTime_c fr _).mono ?_
  rintro e w2 ⟨rfl, rfl⟩
  have HW1 := Lib.hid (hE.trans hb1)
  have HB1 := Lib.hid hb1
  have hsz1 : w.heap.size < w1.heap.size := by have := hb1.le; simp at this; omega
  clear hE hb1
  go_wp2
  clear h1 h2 h3
  go_loopw [11, 12] (fun bv iv wr => ∃ (k : Nat) (best : Int), k ≤ q + 1 ∧ iv = .int .i64 ((k : Int) - 1) ∧ bv = .int .i64 best ∧ -1 ≤ best ∧ best ≤ 1000000000 ∧ Ext w1 wr ∧ Hid (z = ((nqAt fr xs).drop k).foldl (nqStep xs nodes fr wall) best)) (fun _ iv _ => (q + 1 - intOf iv).toNat)
  case atStart => exact ⟨0, -1, Nat.zero_le _, rfl, rfl, by omega, by omega, Ext.refl _, HF⟩
  case round =>
    obtain ⟨k, best, hk, rfl, rfl, hb0, hbx, hb, HE⟩ := hrel
    have eW : Ext w wr := HW1.out.trans hb
    have q0 := (HB1.out.trans hb).cell (acell_box w [.slice A n c, .slice B m d] 32 0 _ rfl)
    have q1 := (HB1.out.trans hb).cell (acell_box w [.slice A n c, .slice B m d] 32 1 _ rfl)
    have hsz := lt_of_cell q0
    by_cases hlt : k < q + 1
    · by_cases hk0 : k = 0
      · subst hk0
        have HX := Lib.hid (nq_next (nqStep xs nodes fr wall) best (show (nqAt fr xs)[0]? = some fr from rfl))
        have HC := Lib.hid (HQ.out fr (fr + wall) wr eW (by unfold In64; omega) (by unfold In64; omega))
        rcases (Bool.eq_false_or_eq_true (decide (fr ≤ fr))).symm with h1 | h1
        · have HS := Lib.hid (show nqStep xs nodes fr wall best fr = best by unfold nqStep nqOk; rw [h1]; rfl)
          have hneg : ¬ fr ≤ fr := of_decide_eq_false h1
          exact absurd (Int.le_refl _) hneg
        have HTM := Lib.hid (sTime_c (fr + wall) wr)
        have HTT := Lib.hid (show timeB (fr + wall) = decide (fr + wall ≤ 1000000000) by unfold timeB; rw [decide_eq_decide]; omega)
        rw [HTT.out] at HTM
        rcases (Bool.eq_false_or_eq_true (decide (fr + wall ≤ 1000000000))).symm with h2 | h2
        · have HS := Lib.hid (show nqStep xs nodes fr wall best fr = best by unfold nqStep nqOk; rw [h1, h2]; rfl)
          rw [h2] at HTM
          clear h2
          go_wp2_with fail
          refine HTM.out.mono ?_
          rintro e w4 ⟨rfl, rfl⟩
          go_wp2
          go_roundw
          case rel => exact ⟨1, best, by omega, by first | go_num | simp, rfl, hb0, hbx, hb, Lib.hid (by rw [HE.out, HX.out, HS.out])⟩
          case measure => simp [intOf]; omega
        have HOKE := Lib.hid (show nqOk xs nodes fr wall best fr = ((decide (best < 0) || decide (fr < best)) && quietL xs nodes fr (fr + wall)) by unfold nqOk; rw [h1, h2]; rfl)
        rw [h2] at HTM
        clear h2
        rcases (Bool.eq_false_or_eq_true (quietL xs nodes fr (fr + wall))).symm with h5 | h5
        all_goals
          rw [h5] at HC HOKE
          clear h5
          rcases (Bool.eq_false_or_eq_true (decide (best < 0))).symm with h3 | h3
          rcases (Bool.eq_false_or_eq_true (decide (fr < best))).symm with h4 | h4
          all_goals
            go_wp2_with fail
            refine HTM.out.mono ?_
            rintro e w4 ⟨rfl, rfl⟩
            go_wp2_with fail
            refine HC.out.mono ?_
            rintro e w5 ⟨rfl, hb5⟩
        · have HS := Lib.hid (show nqStep xs nodes fr wall best fr = best by unfold nqStep; rw [HOKE.out, h3, h4]; rfl)
          go_wp2
          go_roundw
          case rel => exact ⟨1, best, by omega, by first | go_num | simp, rfl, hb0, hbx, hb.trans hb5, Lib.hid (by rw [HE.out, HX.out, HS.out])⟩
          case measure => simp [intOf]; omega
        · have HS := Lib.hid (show nqStep xs nodes fr wall best fr = best by unfold nqStep; rw [HOKE.out, h3, h4]; rfl)
          go_wp2
          go_roundw
          case rel => exact ⟨1, best, by omega, by first | go_num | simp, rfl, hb0, hbx, hb.trans hb5, Lib.hid (by rw [HE.out, HX.out, HS.out])⟩
          case measure => simp [intOf]; omega
        · have HS := Lib.hid (show nqStep xs nodes fr wall best fr = best by unfold nqStep; rw [HOKE.out, h3]; rfl)
          go_wp2
          go_roundw
          case rel => exact ⟨1, best, by omega, by first | go_num | simp, rfl, hb0, hbx, hb.trans hb5, Lib.hid (by rw [HE.out, HX.out, HS.out])⟩
          case measure => simp [intOf]; omega
        · have HS := Lib.hid (show nqStep xs nodes fr wall best fr = best by unfold nqStep; rw [HOKE.out, h3, h4]; rfl)
          go_wp2
          go_roundw
          case rel => exact ⟨1, best, by omega, by first | go_num | simp, rfl, hb0, hbx, hb.trans hb5, Lib.hid (by rw [HE.out, HX.out, HS.out])⟩
          case measure => simp [intOf]; omega
        · have HS := Lib.hid (show nqStep xs nodes fr wall best fr = fr by unfold nqStep; rw [HOKE.out, h3, h4]; rfl)
          go_wp2
          go_roundw
          case rel => exact ⟨1, fr, by omega, by first | go_num | simp, rfl, by omega, by omega, hb.trans hb5, Lib.hid (by rw [HE.out, HX.out, HS.out])⟩
          case measure => simp [intOf]; omega
        · have HS := Lib.hid (show nqStep xs nodes fr wall best fr = fr by unfold nqStep; rw [HOKE.out, h3]; rfl)
          go_wp2
          go_roundw
          case rel => exact ⟨1, fr, by omega, by first | go_num | simp, rfl, by omega, by omega, hb.trans hb5, Lib.hid (by rw [HE.out, HX.out, HS.out])⟩
          case measure => simp [intOf]; omega
      · obtain ⟨b, o, x, cs, rfl, hbw, hx, _, hc, hr⟩ := (H3.out wr eW).at_ (show k - 1 < q by omega)
        obtain ⟨A2, c2, rfl, hsl, hml, hf, ht⟩ := win_cells hr
        have g1 := hc 1 _ rfl
        have hxk : (nqAt fr xs)[k]? = some x.To := by have e := nqAt_succ (fr := fr) hx; rw [show k - 1 + 1 = k by omega] at e; exact e
        obtain ⟨ht1, ht2⟩ := HAT.out x.To (List.mem_of_getElem? hxk)
        have HX := Lib.hid (nq_next (nqStep xs nodes fr wall) best hxk)
        have HC := Lib.hid (HQ.out x.To (x.To + wall) wr eW (by unfold In64; omega) (by unfold In64; omega))
        have hk1 : 0 < k := by omega
        clear hc hr hsl hml hf ht hx hxk hk0
        rcases (Bool.eq_false_or_eq_true (decide (fr ≤ x.To))).symm with h1 | h1
        · have HS := Lib.hid (show nqStep xs nodes fr wall best x.To = best by unfold nqStep nqOk; rw [h1]; rfl)
          have hneg : ¬ fr ≤ x.To := of_decide_eq_false h1
          clear h1
          go_wp2
          go_roundw
          case rel => exact ⟨k + 1, best, by omega, by first | go_num | simp, rfl, hb0, hbx, hb, Lib.hid (by rw [HE.out, HX.out, HS.out])⟩
          case measure => simp [intOf]; omega
        have HTM := Lib.hid (sTime_c (x.To + wall) wr)
        have HTT := Lib.hid (show timeB (x.To + wall) = decide (x.To + wall ≤ 1000000000) by unfold timeB; rw [decide_eq_decide]; omega)
        rw [HTT.out] at HTM
        rcases (Bool.eq_false_or_eq_true (decide (x.To + wall ≤ 1000000000))).symm with h2 | h2
        · have HS := Lib.hid (show nqStep xs nodes fr wall best x.To = best by unfold nqStep nqOk; rw [h1, h2]; rfl)
          rw [h2] at HTM
          clear h2
          go_wp2_with fail
          refine HTM.out.mono ?_
          rintro e w4 ⟨rfl, rfl⟩
          go_wp2
          go_roundw
          case rel => exact ⟨k + 1, best, by omega, by first | go_num | simp, rfl, hb0, hbx, hb, Lib.hid (by rw [HE.out, HX.out, HS.out])⟩
          case measure => simp [intOf]; omega
        have HOKE := Lib.hid (show nqOk xs nodes fr wall best x.To = ((decide (best < 0) || decide (x.To < best)) && quietL xs nodes x.To (x.To + wall)) by unfold nqOk; rw [h1, h2]; rfl)
        rw [h2] at HTM
        clear h2
        rcases (Bool.eq_false_or_eq_true (quietL xs nodes x.To (x.To + wall))).symm with h5 | h5
        all_goals
          rw [h5] at HC HOKE
          clear h5
          rcases (Bool.eq_false_or_eq_true (decide (best < 0))).symm with h3 | h3
          rcases (Bool.eq_false_or_eq_true (decide (x.To < best))).symm with h4 | h4
          all_goals
            go_wp2_with fail
            refine HTM.out.mono ?_
            rintro e w4 ⟨rfl, rfl⟩
            go_wp2_with fail
            refine HC.out.mono ?_
            rintro e w5 ⟨rfl, hb5⟩
        · have HS := Lib.hid (show nqStep xs nodes fr wall best x.To = best by unfold nqStep; rw [HOKE.out, h3, h4]; rfl)
          go_wp2
          go_roundw
          case rel => exact ⟨k + 1, best, by omega, by first | go_num | simp, rfl, hb0, hbx, hb.trans hb5, Lib.hid (by rw [HE.out, HX.out, HS.out])⟩
          case measure => simp [intOf]; omega
        · have HS := Lib.hid (show nqStep xs nodes fr wall best x.To = best by unfold nqStep; rw [HOKE.out, h3, h4]; rfl)
          go_wp2
          go_roundw
          case rel => exact ⟨k + 1, best, by omega, by first | go_num | simp, rfl, hb0, hbx, hb.trans hb5, Lib.hid (by rw [HE.out, HX.out, HS.out])⟩
          case measure => simp [intOf]; omega
        · have HS := Lib.hid (show nqStep xs nodes fr wall best x.To = best by unfold nqStep; rw [HOKE.out, h3]; rfl)
          go_wp2
          go_roundw
          case rel => exact ⟨k + 1, best, by omega, by first | go_num | simp, rfl, hb0, hbx, hb.trans hb5, Lib.hid (by rw [HE.out, HX.out, HS.out])⟩
          case measure => simp [intOf]; omega
        · have HS := Lib.hid (show nqStep xs nodes fr wall best x.To = best by unfold nqStep; rw [HOKE.out, h3, h4]; rfl)
          go_wp2
          go_roundw
          case rel => exact ⟨k + 1, best, by omega, by first | go_num | simp, rfl, hb0, hbx, hb.trans hb5, Lib.hid (by rw [HE.out, HX.out, HS.out])⟩
          case measure => simp [intOf]; omega
        · have HS := Lib.hid (show nqStep xs nodes fr wall best x.To = x.To by unfold nqStep; rw [HOKE.out, h3, h4]; rfl)
          go_wp2
          go_roundw
          case rel => exact ⟨k + 1, x.To, by omega, by first | go_num | simp, rfl, by omega, by omega, hb.trans hb5, Lib.hid (by rw [HE.out, HX.out, HS.out])⟩
          case measure => simp [intOf]; omega
        · have HS := Lib.hid (show nqStep xs nodes fr wall best x.To = x.To by unfold nqStep; rw [HOKE.out, h3]; rfl)
          go_wp2
          go_roundw
          case rel => exact ⟨k + 1, x.To, by omega, by first | go_num | simp, rfl, by omega, by omega, hb.trans hb5, Lib.hid (by rw [HE.out, HX.out, HS.out])⟩
          case measure => simp [intOf]; omega
    · have HX := Lib.hid (show z = best by rw [HE.out, List.drop_eq_nil_of_le (by rw [HLN.out]; omega)]; rfl)
      go_wp2
      exact ret_int rfl rfl rfl HX.out.symm eW
end Go.Proofs.Ytafccgnaifhnkaa
