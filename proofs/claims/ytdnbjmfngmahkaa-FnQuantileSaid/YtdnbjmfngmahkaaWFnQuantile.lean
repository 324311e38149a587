/- The law FnQuantile returns true: the walk. -/
import Derived.Test.YtdnbjmfngmahkaaDraw7
import Derived.Test.YtdnbjmfngmahkaaQuant2
import Derived.Test.YtdnbjmfngmahkaaQuant3
namespace Go.Proofs.Ytdnbjmfngmahkaa
open Go.RowKit
set_option linter.unusedVariables false
theorem quant_bad {l : List Int} {k : Int} (h : ¬ (timesB l = true ∧ withinB k 1 l.length = true)) : quantI l k = -1 := by unfold quantI; rw [if_neg h]
theorem quant_mem {l : List Int} {k : Int} (hT : timesB l = true) (hk : withinB k 1 l.length = true) : quantI l k ∈ l := by
  unfold quantI; rw [if_pos ⟨hT, hk⟩]; exact (hit_sorted hk).1
theorem quant_pos {l : List Int} {k : Int} (hT : timesB l = true) (hk : withinB k 1 l.length = true) : 0 ≤ quantI l k := by
  have h := quant_mem hT hk
  unfold timesB at hT
  rw [Bool.and_eq_true, List.all_eq_true] at hT
  have := hT.1 _ h
  unfold timeB at this; rw [decide_eq_true_iff] at this; exact this.1
theorem quant_step {l : List Int} {k : Int} (hT : timesB l = true) (hk : withinB k 1 l.length = true) (h1 : k ≠ 1) : quantI l (k - 1) ≤ quantI l k := by
  unfold withinB at hk; rw [decide_eq_true_iff] at hk
  have := quant_mono hT (i := (k - 2).toNat) (j := (k - 1).toNat) (by omega) (by omega)
  rw [show (((k - 2).toNat : Nat) : Int) + 1 = k - 1 by omega, show (((k - 1).toNat : Nat) : Int) + 1 = k by omega] at this
  exact this
set_option maxHeartbeats 4000000 in
set_option maxRecDepth 20000 in
theorem FnQuantile_c (w : World) (A0 : Option Addr) (n0 c0 : Nat) (x0 : List Int) (h0 : SlAt RU8 1 w A0 n0 x0) (hn0 : n0 ≤ maxLen) : Calls Try.prog 3 #[.slice A0 n0 c0] w (Ret w (.bool true)) := by
  unfold maxLen at hn0
  by_cases hbig : 1048576 < n0
  · clear h0
    go_enter Try.func3, Try.ntmps3
    go_wp2
    exact ret_bool rfl rfl rfl rfl (Ext.refl _)
  have HD := Lib.hid (DrawQuantile_c x0 A0 n0 c0 w h0 (by omega))
  clear h0
  go_enter Try.func3, Try.ntmps3
  go_wp2_with fail
  refine HD.out.mono ?_
  rintro e w1 ⟨A, c, xs, k, rfl, hs, hl, hk, hb1⟩
  have hlm : xs.length ≤ maxLen := by unfold maxLen; omega
  unfold In64 at hk
  have HQ := Lib.hid (fun (k : Int) (u : World) (e : Ext w1 u) => Quantile_c xs k A xs.length c u (hs.ext (Flat.mono _ _) e) hlm)
  have HP := Lib.hid (fun (u : World) (e : Ext w1 u) => sQuantile_c xs k A xs.length c u (hs.ext (Flat.mono _ _) e) hlm)
  have HM := Lib.hid (fun (u : World) (e : Ext w1 u) => Mean_c xs A xs.length c u (hs.ext (Flat.mono _ _) e) hlm)
  have HI := Lib.hid (fun (v : Int) (u : World) (e : Ext w1 u) => hasInt_c xs v A xs.length c u (hs.ext (Flat.mono _ _) e) hlm)
  have HQk := Lib.hid (HQ.out k)
  have HQ1 := Lib.hid (HQ.out 1)
  have HQn := Lib.hid (HQ.out xs.length)
  have HQp := Lib.hid (HQ.out (k - 1))
  have HIq := Lib.hid (HI.out (quantI xs k))
  clear hs
  by_cases hv : timesB xs = true ∧ withinB k 1 xs.length = true
  rotate_left
  · rw [quant_bad hv] at HQk HP
    clear hv
    go_wp2_with fail
    refine (HQk.out _ (Ext.refl _)).mono ?_
    rintro e w2 ⟨rfl, hb2⟩
    go_wp2_with fail
    refine (HP.out _ hb2).mono ?_
    rintro e w3 ⟨rfl, hb3⟩
    go_wp2
    exact ret_bool rfl rfl rfl rfl ((hb1.trans hb2).trans hb3)
  obtain ⟨hT, hw⟩ := hv
  have hlen : 0 < xs.length := by unfold withinB at hw; rw [decide_eq_true_iff] at hw; omega
  have hkl : 1 ≤ k := by unfold withinB at hw; rw [decide_eq_true_iff] at hw; exact hw.1
  have hq0 := quant_pos hT hw
  have hqm := quant_mem hT hw
  obtain ⟨b1, b2⟩ := quant_bounds hT hlen _ hqm
  obtain ⟨b3, b4⟩ := quant_mean hT hlen
  have hst := quant_step hT hw
  rw [show xs.contains (quantI xs k) = true from List.contains_iff_mem.2 hqm] at HIq
  generalize quantI xs (k - 1) = qp at *
  generalize quantI xs xs.length = qn at *
  generalize quantI xs 1 = q1 at *
  generalize quantI xs k = q at *
  generalize meanI xs = m at *
  clear hT hw hqm HQ HI
  go_wp2_with fail
  refine (HQk.out _ (Ext.refl _)).mono ?_
  rintro e w2 ⟨rfl, hb2⟩
  go_wp2_with fail
  refine (HP.out _ hb2).mono ?_
  rintro e w3 ⟨rfl, hb3⟩
  have e3 := hb2.trans hb3
  go_wp2_with fail
  refine (HQ1.out _ e3).mono ?_
  rintro e w4 ⟨rfl, hb4⟩
  have e4 := e3.trans hb4
  go_wp2_with fail
  refine (HQn.out _ e4).mono ?_
  rintro e w5 ⟨rfl, hb5⟩
  have e5 := e4.trans hb5
  go_wp2_with fail
  refine (HM.out _ e5).mono ?_
  rintro e w6 ⟨rfl, rfl⟩
  go_wp2_with fail
  refine (HIq.out _ e5).mono ?_
  rintro e w7 ⟨rfl, hb7⟩
  have e7 := e5.trans hb7
  have d1 : decide (q1 ≤ q) = true := decide_eq_true b1
  have d2 : decide (q ≤ qn) = true := decide_eq_true b2
  have d3 : decide (q1 ≤ m) = true := decide_eq_true b3
  have d4 : decide (m ≤ qn) = true := decide_eq_true b4
  have HE := Lib.hid e7
  have HB1 := Lib.hid hb1
  have HST := Lib.hid hst
  clear b1 b2 b3 b4 hst hq0 hb1 hb2 hb3 hb4 hb5 hb7 e3 e4 e5 e7 HQk HP HQ1 HQn HM HIq HD hlen hlm hl hbig hn0
  by_cases hk1 : k = 1
  · subst hk1
    go_wp2
    exact ret_bool rfl rfl rfl rfl (HB1.out.trans HE.out)
  · have hkb : (k == 1) = false := by rw [beq_eq_false_iff_ne]; exact hk1
    have d5 : decide (qp ≤ q) = true := decide_eq_true (HST.out hk1)
    have hk9 : IntKind.i64.wrap (k - 1) = k - 1 := IntWalk.i64_in _ ⟨by omega, by omega⟩
    clear hk1 HST
    go_wp2_with fail
    refine (HQp.out _ HE.out).mono ?_
    rintro e w8 ⟨rfl, hb8⟩
    have HB8 := Lib.hid hb8
    clear hb8
    go_wp2
    exact ret_bool rfl rfl rfl rfl (HB1.out.trans (HE.out.trans HB8.out))
end Go.Proofs.Ytdnbjmfngmahkaa
