/- Contracts: the next quiet time. -/
import Derived.Test.YtafccgnaifhnkaaQuiet2
namespace Go.Proofs.Ytafccgnaifhnkaa
open Go.RowKit
set_option linter.unusedVariables false
def nqOk (xs : List Window) (nodes : List Int) (fr wall best t : Int) : Bool := decide (fr ≤ t) && (decide (t + wall ≤ 1000000000) && ((decide (best < 0) || decide (t < best)) && quietL xs nodes t (t + wall)))
def nqStep (xs : List Window) (nodes : List Int) (fr wall best t : Int) : Int := if nqOk xs nodes fr wall best t = true then t else best
def nqAt (fr : Int) (xs : List Window) : List Int := fr :: xs.map Window.To
def nextQ (ps : List Int) (ns : List Node) (xs : List Window) (nodes : List Int) (fr wall : Int) : Int :=
  if (windowsB ps ns xs && (timeB fr && withinB wall 1 1000000)) = true then (nqAt fr xs).foldl (nqStep xs nodes fr wall) (-1) else -1
theorem nqAt_ok {ps : List Int} {ns : List Node} {xs : List Window} {fr : Int} (h : windowsB ps ns xs = true) (hf : timeB fr = true) : ∀ x ∈ nqAt fr xs, 0 ≤ x ∧ x ≤ 1000000000 := by
  intro x hx
  rcases List.mem_cons.1 hx with rfl | hx
  · unfold timeB at hf; simpa using hf
  · obtain ⟨y, hy, rfl⟩ := List.mem_map.1 hx
    exact (win_span h y hy).2
theorem nqAt_len (fr : Int) (xs : List Window) : (nqAt fr xs).length = xs.length + 1 := by simp [nqAt]
theorem own_slAt {w : World} {base n c : Nat} {e : TypeId} {A : Option Addr} {l : List Int} (h : w.ownsRow base e 1 (.slice A n c) n (l.flatMap encInt)) (hn : l.length = n) (hok : ∀ y ∈ l, In64 y) : SlAt RInt 1 w A n l := by
  subst hn
  exact (OwnAt.flat encInt_size hok h).slAt
set_option maxHeartbeats 2000000 in
set_option maxRecDepth 4000 in
theorem ends_c (xs : List Window) (A : Option Addr) (n c : Nat) (w : World) (h : SlAt RWindow 3 w A n xs) (hl : n ≤ 1048576) : Calls Try.prog 51 #[.slice A n c] w (RetOwn RInt 3 1 w (xs.map Window.To)) := by
  obtain ⟨i0, hi, hI0, hI1, hI2⟩ := info_parts TInt.info
  have HN := Lib.hid h.len
  have HS := Lib.hid (fun (u : World) (e : Ext w u) => h.ext RWindow.mono e)
  clear h
  have HO0 := Lib.hid (owns_empty w 3 1)
  go_enter Try.func51, Try.ntmps51
  go_wp2
  go_loopw [3, 9] (fun l iv wr => ∃ (k : Nat) (A1 : Option Addr) (c1 : Nat) (acc : List Int), k ≤ n ∧ iv = .int .i64 k ∧ l = .slice A1 acc.length c1 ∧ acc.length = k ∧ Hid (acc = (xs.take k).map Window.To) ∧ Hid (∀ y ∈ acc, In64 y) ∧ wr.ownsRow w.heap.size 3 1 (.slice A1 acc.length c1) acc.length (acc.flatMap encInt) ∧ Ext w wr) (fun _ iv _ => n - (intOf iv).toNat)
  case atStart => exact ⟨0, _, 0, [], by omega, rfl, rfl, rfl, Lib.hid rfl, Lib.hid (fun y hy => by cases hy), HO0.out, (Ext.refl _).alloc _⟩
  case round =>
    obtain ⟨k, A1, c1, acc, hk, rfl, rfl, hla, HE, HIN, ho, hb⟩ := hrel
    have HO := Lib.hid ho
    have hle := hb.le
    clear ho
    by_cases hlt : k < n
    · obtain ⟨b, o, x, cs, rfl, hbw, hx, _, hc, hr⟩ := (HS.out wr hb).at_ hlt
      obtain ⟨A2, c2, rfl, hsl, hml, hf, ht⟩ := win_cells hr
      have g0 := hc 0 _ rfl
      have g1 := hc 1 _ rfl
      have g2 := hc 2 _ rfl
      simp only [Nat.add_zero] at g0
      have HT := Lib.hid (show acc ++ [x.To] = (xs.take (k + 1)).map Window.To by rw [HE.out, take_succ hx, List.map_append]; rfl)
      have HIN3 := Lib.hid (show ∀ y ∈ acc ++ [x.To], In64 y from fun y hy => by
        rcases List.mem_append.1 hy with hy | hy
        · exact HIN.out y hy
        · rw [List.mem_singleton.1 hy]; exact ht)
      clear hc hr hsl hml hf ht hx
      have HO2 := Lib.hid (HO.out.alloc (.cells #[.int .i64 x.From, .int .i64 x.To, .slice A2 x.Nodes.length c2] 65))
      have hb2 := hb.alloc (.cells #[.int .i64 x.From, .int .i64 x.To, .slice A2 x.Nodes.length c2] 65)
      go_wp2_with (at_builtin; go_must (refine wpList_append_one (w0 := w) (.tmp 13) (.tmp 16) _ w.heap.size 3 i0 _ 1 8 _ acc.length _ (encInt x.To) rfl rfl Try.underlying22 hi hI0 hI1 hI2 rfl (by omega) rfl (HO2.out) _ rfl (by first | rfl | simp) rfl (TInt.one _) (by unfold maxLen; omega) (by omega) hb2 (Nat.le_refl _) (by simp; omega) ?_); intro A3 c3 w3 ho3 hb3 hs3)
      have HO3 := Lib.hid ho3
      clear ho3
      go_wp2
      go_roundw
      case rel => exact ⟨k + 1, A3, c3, acc ++ [x.To], by omega, by go_num, by simp [hla], by simp; omega, HT, HIN3, by rw [List.flatMap_append, List.length_append]; simpa using HO3.out, hb3⟩
      case measure => simp [intOf]; omega
    · have HT := Lib.hid (show acc = xs.map Window.To by rw [HE.out, List.take_of_length_le (by have := HN.out; omega)])
      go_wp2
      rw [← HT.out]
      exact ret_own2 rfl HO.out rfl encInt_size HIN.out hb
set_option maxHeartbeats 8000000 in
set_option maxRecDepth 8000 in
theorem NextQuiet_c (ps : List Int) (ns : List Node) (xs : List Window) (nodes : List Int) (fr wall : Int) (A : Option Addr) (n c : Nat) (B : Option Addr) (m d : Nat) (D : Option Addr) (q f : Nat) (C : Option Addr) (r g : Nat) (w : World) (h : SlAt RInt 1 w A n ps) (hl : n ≤ maxLen) (h2 : SlAt RNode 4 w B m ns) (hl2 : m ≤ maxLen) (h3 : SlAt RWindow 3 w D q xs) (hl3 : q ≤ maxLen) (h4 : SlAt RInt 1 w C r nodes) (hl4 : r ≤ maxLen) (_ : In64 fr) (_ : In64 wall) : Calls Try.prog 22 #[.agg #[.slice A n c, .slice B m d], .slice D q f, .slice C r g, .int .i64 fr, .int .i64 wall] w (Ret w (.int .i64 (nextQ ps ns xs nodes fr wall))) := by
  have HW := Lib.hid (fun (u : World) (e : Ext w u) => WindowsOk_c ps ns xs A n c B m d D q f u (h.ext (Flat.mono _ _) e) hl (h2.ext (Flat.mono _ _) e) hl2 (h3.ext RWindow.mono e) hl3)
  have HQ := Lib.hid (fun (fr to : Int) (u : World) (e : Ext w u) => quiet_c xs nodes fr to D q f C r g u (h3.ext RWindow.mono e) hl3 (h4.ext (Flat.mono _ _) e) hl4)
  have HZ := Lib.hid (show nextQ ps ns xs nodes fr wall = if (windowsB ps ns xs && (timeB fr && withinB wall 1 1000000)) = true then (nqAt fr xs).foldl (nqStep xs nodes fr wall) (-1) else -1 from rfl)
  have HOK := Lib.hid (fun (a : windowsB ps ns xs = true) (b : timeB fr = true) => nqAt_ok a b)
  have H20 := Lib.hid (fun (a : windowsB ps ns xs = true) => show q ≤ 20 by
    have := h3.len
    unfold windowsB at a
    simp only [Bool.and_eq_true, decide_eq_true_eq] at a
    omega)
  have H3 := Lib.hid (fun (u : World) (e : Ext w u) => h3.ext RWindow.mono e)
  have HN := Lib.hid h3.len
  have hE : Ext w (w.alloc (.cells #[.slice A n c, .slice B m d] 32)) := (Ext.refl w).alloc _
  clear h h2 h3 h4 hl hl2 hl3 hl4
  generalize nextQ ps ns xs nodes fr wall = z at *
  generalize windowsB ps ns xs = wb at *
  rcases (Bool.eq_false_or_eq_true wb).symm with rfl | rfl
  · go_enter Try.func22, Try.ntmps22
    go_wp2_with fail
    refine (HW.out _ hE).mono ?_
    rintro e w1 ⟨rfl, hb1⟩
    go_wp2
    exact ret_int rfl rfl rfl HZ.out.symm (hE.trans hb1)
  rcases (Bool.eq_false_or_eq_true (timeB fr)).symm with h1 | h1
  · have HF := Lib.hid (show z = -1 by rw [HZ.out, h1]; rfl)
    go_enter Try.func22, Try.ntmps22
    go_wp2_with fail
    refine (HW.out _ hE).mono ?_
    rintro e w1 ⟨rfl, hb1⟩
    go_wp2_with fail
    refine (isTime_c fr _).mono ?_
    rintro e w2 ⟨rfl, rfl⟩
    go_wp2
    exact ret_int rfl rfl rfl HF.out.symm (hE.trans hb1)
  rcases (Bool.eq_false_or_eq_true (withinB wall 1 1000000)).symm with h2 | h2
  · have HF := Lib.hid (show z = -1 by rw [HZ.out, h2, h1]; rfl)
    go_enter Try.func22, Try.ntmps22
    go_wp2_with fail
    refine (HW.out _ hE).mono ?_
    rintro e w1 ⟨rfl, hb1⟩
    go_wp2_with fail
    refine (isTime_c fr _).mono ?_
    rintro e w2 ⟨rfl, rfl⟩
    go_wp2_with fail
    refine (within_c wall 1 1000000 _).mono ?_
    rintro e w3 ⟨rfl, rfl⟩
    go_wp2
    exact ret_int rfl rfl rfl HF.out.symm (hE.trans hb1)
  have HF := Lib.hid (show z = (nqAt fr xs).foldl (nqStep xs nodes fr wall) (-1) by rw [HZ.out, h1, h2]; rfl)
  have HAT := Lib.hid (HOK.out rfl h1)
  have hq20 := H20.out rfl
  have hw1 : 1 ≤ wall ∧ wall ≤ 1000000 := by unfold withinB at h2; simpa using h2
  obtain ⟨hw1, hw2⟩ := hw1
  have hf1 : 0 ≤ fr ∧ fr ≤ 1000000000 := by unfold timeB at h1; simpa using h1
  have HF1 := Lib.hid hf1
  have HLN := Lib.hid (show (nqAt fr xs).length = q + 1 by rw [nqAt_len, HN.out])
  obtain ⟨i0, hi, hI0, hI1, hI2⟩ := info_parts TInt.info
  clear HZ HOK H20
  go_enter Try.func22, Try.ntmps22
  go_wp2_with fail
  refine (HW.out _ hE).mono ?_
  rintro e w1 ⟨rfl, hb1⟩
  go_wp2_with fail
  refine (isTime_c fr _).mono ?_
  rintro e w2 ⟨rfl, rfl⟩
  go_wp2_with fail
  refine (within_c wall 1 1000000 _).mono ?_
  rintro e w3 ⟨rfl, rfl⟩
  have HW1 := Lib.hid (hE.trans hb1)
  clear hE hb1 hf1
  go_wp2_with (first | (go_at_call 51; go_must (refine (ends_c xs D q f _ (H3.out _ (HW1.out.alloc _)) (by omega)).mono ?_); rintro e w2 ⟨A2, c2, rfl, ho2, hb2⟩; have hs2 : SlAt RInt 1 w2 A2 xs.length (xs.map Window.To) := (by have e0 := (OwnIn.of ho2).sl; rw [List.length_map] at e0; exact e0)) | (at_builtin; go_must (refine wpList_append_list (w0 := w1) (.tmp 29) (.tmp 31) _ w1.heap.size 3 i0 _ 1 8 _ 1 [.int .i64 fr] A2 xs.length c2 (xs.map Window.To) rfl rfl Try.underlying22 hi hI0 hI1 hI2 rfl (by omega) rfl (owns_ext (World.ownsRow_lit w1 #[.int .i64 fr] 1 (Nat.le_refl _) (by unfold maxLen; omega) (by simp)) hb2) rfl hs2 encInt_size TInt.one (by rw [HN.out]; unfold maxLen; omega) (by rw [HN.out]; omega) (((Ext.refl _).alloc _).trans hb2) (Nat.le_refl _) (by have := hb2.le; simp at this; omega) ?_); intro A3 c3 w3 ho3 hb3 hs3))
  have HSA := Lib.hid (show SlAt RInt 1 w3 A3 (q + 1) (nqAt fr xs) from own_slAt (by have e : 1 + xs.length = q + 1 := (by rw [HN.out]; omega); rw [e] at ho3; simpa [nqAt, encInt] using ho3) HLN.out (fun y hy => by have := HAT.out y hy; unfold In64; omega))
  have hq1 : 1 + xs.length = q + 1 := by rw [HN.out]; omega
  have hq2 : (1 : Int) + (xs.length : Int) = (q : Int) + 1 := by rw [HN.out]; omega
  rw [hq1]
  clear ho3 hs3 hs2 ho2 hb2 hq1 h1 h2
  go_wp2
  rw [hq2]
  clear hq2
  go_loopw [11, 34] (fun bv iv wr => ∃ (k : Nat) (best : Int), k ≤ q + 1 ∧ iv = .int .i64 k ∧ bv = .int .i64 best ∧ -1 ≤ best ∧ best ≤ 1000000000 ∧ Ext w3 wr ∧ Hid (z = ((nqAt fr xs).drop k).foldl (nqStep xs nodes fr wall) best)) (fun _ iv _ => q + 1 - (intOf iv).toNat)
  case atStart => exact ⟨0, -1, Nat.zero_le _, rfl, rfl, by omega, by omega, Ext.refl _, HF⟩
  case round =>
    obtain ⟨k, best, hk, rfl, rfl, hb0, hbx, hb, HE⟩ := hrel
    have eW : Ext w wr := HW1.out.trans (hb3.trans hb)
    by_cases hlt : k < q + 1
    · obtain ⟨b, o, t, cs, rfl, hbw, hx, _, hc, rfl, _⟩ := (HSA.out.ext (Flat.mono _ _) hb).at_ hlt
      have y0 := hc 0 _ rfl
      simp only [Nat.mul_one, Nat.add_zero] at y0
      obtain ⟨ht1, ht2⟩ := HAT.out t (List.mem_of_getElem? hx)
      have HX := Lib.hid (show ((nqAt fr xs).drop k).foldl (nqStep xs nodes fr wall) best = ((nqAt fr xs).drop (k + 1)).foldl (nqStep xs nodes fr wall) (nqStep xs nodes fr wall best t) by rw [drop_cons hx]; rfl)
      have HC := Lib.hid (HQ.out t (t + wall) wr eW)
      clear hc hx
      rcases (Bool.eq_false_or_eq_true (decide (fr ≤ t))).symm with h1 | h1
      · have HS := Lib.hid (show nqStep xs nodes fr wall best t = best by unfold nqStep nqOk; rw [h1]; rfl)
        have hneg : ¬ fr ≤ t := of_decide_eq_false h1
        clear h1
        go_wp2
        go_roundw
        case rel => exact ⟨k + 1, best, by omega, by go_num, rfl, hb0, hbx, hb, Lib.hid (by rw [HE.out, HX.out, HS.out])⟩
        case measure => simp [intOf]; omega
      rcases (Bool.eq_false_or_eq_true (decide (t + wall ≤ 1000000000))).symm with h2 | h2
      · have HS := Lib.hid (show nqStep xs nodes fr wall best t = best by unfold nqStep nqOk; rw [h1, h2]; rfl)
        go_wp2
        go_roundw
        case rel => exact ⟨k + 1, best, by omega, by go_num, rfl, hb0, hbx, hb, Lib.hid (by rw [HE.out, HX.out, HS.out])⟩
        case measure => simp [intOf]; omega
      have HOKE := Lib.hid (show nqOk xs nodes fr wall best t = ((decide (best < 0) || decide (t < best)) && quietL xs nodes t (t + wall)) by unfold nqOk; rw [h1, h2]; rfl)
      rcases (Bool.eq_false_or_eq_true (quietL xs nodes t (t + wall))).symm with h5 | h5
      all_goals
        rw [h5] at HC HOKE
        clear h5
        rcases (Bool.eq_false_or_eq_true (decide (best < 0))).symm with h3 | h3
        rcases (Bool.eq_false_or_eq_true (decide (t < best))).symm with h4 | h4
      · have HS := Lib.hid (show nqStep xs nodes fr wall best t = best by unfold nqStep; rw [HOKE.out, h3, h4]; rfl)
        go_wp2
        go_roundw
        case rel => exact ⟨k + 1, best, by omega, by go_num, rfl, hb0, hbx, hb, Lib.hid (by rw [HE.out, HX.out, HS.out])⟩
        case measure => simp [intOf]; omega
      · have HS := Lib.hid (show nqStep xs nodes fr wall best t = best by unfold nqStep; rw [HOKE.out, h3, h4]; rfl)
        go_wp2_with fail
        refine HC.out.mono ?_
        rintro e w5 ⟨rfl, hb5⟩
        go_wp2
        go_roundw
        case rel => exact ⟨k + 1, best, by omega, by go_num, rfl, hb0, hbx, hb.trans hb5, Lib.hid (by rw [HE.out, HX.out, HS.out])⟩
        case measure => simp [intOf]; omega
      · have HS := Lib.hid (show nqStep xs nodes fr wall best t = best by unfold nqStep; rw [HOKE.out, h3]; rfl)
        go_wp2_with fail
        refine HC.out.mono ?_
        rintro e w5 ⟨rfl, hb5⟩
        go_wp2
        go_roundw
        case rel => exact ⟨k + 1, best, by omega, by go_num, rfl, hb0, hbx, hb.trans hb5, Lib.hid (by rw [HE.out, HX.out, HS.out])⟩
        case measure => simp [intOf]; omega
      · have HS := Lib.hid (show nqStep xs nodes fr wall best t = best by unfold nqStep; rw [HOKE.out, h3, h4]; rfl)
        go_wp2
        go_roundw
        case rel => exact ⟨k + 1, best, by omega, by go_num, rfl, hb0, hbx, hb, Lib.hid (by rw [HE.out, HX.out, HS.out])⟩
        case measure => simp [intOf]; omega
      · have HS := Lib.hid (show nqStep xs nodes fr wall best t = t by unfold nqStep; rw [HOKE.out, h3, h4]; rfl)
        go_wp2_with fail
        refine HC.out.mono ?_
        rintro e w5 ⟨rfl, hb5⟩
        go_wp2
        go_roundw
        case rel => exact ⟨k + 1, t, by omega, by go_num, rfl, by omega, by omega, hb.trans hb5, Lib.hid (by rw [HE.out, HX.out, HS.out])⟩
        case measure => simp [intOf]; omega
      · have HS := Lib.hid (show nqStep xs nodes fr wall best t = t by unfold nqStep; rw [HOKE.out, h3]; rfl)
        go_wp2_with fail
        refine HC.out.mono ?_
        rintro e w5 ⟨rfl, hb5⟩
        go_wp2
        go_roundw
        case rel => exact ⟨k + 1, t, by omega, by go_num, rfl, by omega, by omega, hb.trans hb5, Lib.hid (by rw [HE.out, HX.out, HS.out])⟩
        case measure => simp [intOf]; omega
    · have HX := Lib.hid (show z = best by rw [HE.out, List.drop_eq_nil_of_le (by rw [HLN.out]; omega)]; rfl)
      go_wp2
      exact ret_int rfl rfl rfl HX.out.symm eW
end Go.Proofs.Ytafccgnaifhnkaa
