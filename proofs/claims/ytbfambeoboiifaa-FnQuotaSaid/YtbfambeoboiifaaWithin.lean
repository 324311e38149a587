/- Contracts: whether what is held is within the quotas. -/
import Derived.Test.YtbfambeoboiifaaHeldBy
import Derived.Test.YtbfambeoboiifaaQuota
namespace Go.Proofs.Ytbfambeoboiifaa
open Go.RowKit
set_option linter.unusedVariables false
def fitsB (a b : Vec) : Bool := vecB a && vecB b && decide (a.A ≤ b.A ∧ a.B ≤ b.B ∧ a.C ≤ b.C)
def fitQ (l : List Hold) (x : Quota) : Bool := heldB l x.Name && !decide (x.Jobs < heldJ l x.Name) && !decide (x.Nodes < heldN l x.Name) && fitsB (heldV l x.Name) x.Res
def withinL (q : List Quota) (l : List Hold) : Bool := quotasB q && holdsB l && q.all (fitQ l)
def mayHoldB (q : List Quota) (l : List Hold) (h : Hold) : Bool := withinL q l && withinL q (l ++ [h])
set_option maxHeartbeats 1000000 in
theorem VecFits_c (a b : Vec) (w : World) : Calls Try.prog 52 #[.agg #[.int .i64 a.A, .int .i64 a.B, .int .i64 a.C], .agg #[.int .i64 b.A, .int .i64 b.B, .int .i64 b.C]] w (Ret w (.bool (fitsB a b))) := by
  rcases (Bool.eq_false_or_eq_true (vecB a)).symm with h1 | h1
  · have HF := Lib.hid (show fitsB a b = false by unfold fitsB; rw [h1]; rfl)
    go_enter Try.func52, Try.ntmps52
    go_wp2_with fail
    refine (VecOk_c a _).mono ?_
    rintro e w1 ⟨rfl, hb1⟩
    obtain ⟨hcr1, hfr1, hz1⟩ := hb1.rules
    (try simp at hz1)
    have hy1_w0 : w.heap.size < w1.heap.size := (by omega)
    have hy1_w1 : w.heap.size + 1 < w1.heap.size := (by omega)
    go_wp2
    exact ret_bool rfl rfl rfl HF.out.symm (by repeat (first | exact Ext.refl _ | assumption | apply Ext.alloc | apply Ext.drewN | apply Ext.drew | (refine Ext.setCell ?_ (by first | (simp; done) | (simp; omega) | omega) _) | (refine Ext.trans ?_ (by assumption))))
  rcases (Bool.eq_false_or_eq_true (vecB b)).symm with h2 | h2
  · have HF := Lib.hid (show fitsB a b = false by unfold fitsB; rw [h1, h2]; rfl)
    go_enter Try.func52, Try.ntmps52
    go_wp2_with fail
    refine (VecOk_c a _).mono ?_
    rintro e w1 ⟨rfl, hb1⟩
    obtain ⟨hcr1, hfr1, hz1⟩ := hb1.rules
    (try simp at hz1)
    have hy1_w0 : w.heap.size < w1.heap.size := (by omega)
    have hy1_w1 : w.heap.size + 1 < w1.heap.size := (by omega)
    go_wp2_with fail
    refine (VecOk_c b _).mono ?_
    rintro e w2 ⟨rfl, hb2⟩
    obtain ⟨hcr2, hfr2, hz2⟩ := hb2.rules
    (try simp at hz2)
    have hy2_w0 : w.heap.size < w2.heap.size := (by omega)
    have hy2_w1 : w.heap.size + 1 < w2.heap.size := (by omega)
    go_wp2
    exact ret_bool rfl rfl rfl HF.out.symm (by repeat (first | exact Ext.refl _ | assumption | apply Ext.alloc | apply Ext.drewN | apply Ext.drew | (refine Ext.setCell ?_ (by first | (simp; done) | (simp; omega) | omega) _) | (refine Ext.trans ?_ (by assumption))))
  · have HF := Lib.hid (show fitsB a b = decide (a.A ≤ b.A ∧ a.B ≤ b.B ∧ a.C ≤ b.C) by unfold fitsB; rw [h1, h2]; rfl)
    go_enter Try.func52, Try.ntmps52
    go_wp2_with fail
    refine (VecOk_c a _).mono ?_
    rintro e w1 ⟨rfl, hb1⟩
    obtain ⟨hcr1, hfr1, hz1⟩ := hb1.rules
    (try simp at hz1)
    have hy1_w0 : w.heap.size < w1.heap.size := (by omega)
    have hy1_w1 : w.heap.size + 1 < w1.heap.size := (by omega)
    go_wp2_with fail
    refine (VecOk_c b _).mono ?_
    rintro e w2 ⟨rfl, hb2⟩
    obtain ⟨hcr2, hfr2, hz2⟩ := hb2.rules
    (try simp at hz2)
    have hy2_w0 : w.heap.size < w2.heap.size := (by omega)
    have hy2_w1 : w.heap.size + 1 < w2.heap.size := (by omega)
    go_wp2
    all_goals (refine ret_bool rfl rfl rfl ?_ (by repeat (first | exact Ext.refl _ | assumption | apply Ext.alloc | apply Ext.drewN | apply Ext.drew | (refine Ext.setCell ?_ (by first | (simp; done) | (simp; omega) | omega) _) | (refine Ext.trans ?_ (by assumption)))); rw [HF.out]; first | (symm; rw [decide_eq_true_iff]; omega) | (symm; rw [decide_eq_false_iff_not]; omega) | (rw [decide_eq_decide]; omega))
set_option maxHeartbeats 1000000 in
theorem sVecFits_c (a b : Vec) (w : World) : Calls Try.prog 91 #[.agg #[.int .i64 a.A, .int .i64 a.B, .int .i64 a.C], .agg #[.int .i64 b.A, .int .i64 b.B, .int .i64 b.C]] w (Ret w (.bool (fitsB a b))) := by
  rcases (Bool.eq_false_or_eq_true (vecB a)).symm with h1 | h1
  · have HF := Lib.hid (show fitsB a b = false by unfold fitsB; rw [h1]; rfl)
    go_enter Try.func91, Try.ntmps91
    go_wp2_with fail
    refine (sVecOk_c a _).mono ?_
    rintro e w1 ⟨rfl, hb1⟩
    obtain ⟨hcr1, hfr1, hz1⟩ := hb1.rules
    (try simp at hz1)
    have hy1_w0 : w.heap.size < w1.heap.size := (by omega)
    have hy1_w1 : w.heap.size + 1 < w1.heap.size := (by omega)
    go_wp2
    exact ret_bool rfl rfl rfl HF.out.symm (by repeat (first | exact Ext.refl _ | assumption | apply Ext.alloc | apply Ext.drewN | apply Ext.drew | (refine Ext.setCell ?_ (by first | (simp; done) | (simp; omega) | omega) _) | (refine Ext.trans ?_ (by assumption))))
  rcases (Bool.eq_false_or_eq_true (vecB b)).symm with h2 | h2
  · have HF := Lib.hid (show fitsB a b = false by unfold fitsB; rw [h1, h2]; rfl)
    go_enter Try.func91, Try.ntmps91
    go_wp2_with fail
    refine (sVecOk_c a _).mono ?_
    rintro e w1 ⟨rfl, hb1⟩
    obtain ⟨hcr1, hfr1, hz1⟩ := hb1.rules
    (try simp at hz1)
    have hy1_w0 : w.heap.size < w1.heap.size := (by omega)
    have hy1_w1 : w.heap.size + 1 < w1.heap.size := (by omega)
    go_wp2_with fail
    refine (sVecOk_c b _).mono ?_
    rintro e w2 ⟨rfl, hb2⟩
    obtain ⟨hcr2, hfr2, hz2⟩ := hb2.rules
    (try simp at hz2)
    have hy2_w0 : w.heap.size < w2.heap.size := (by omega)
    have hy2_w1 : w.heap.size + 1 < w2.heap.size := (by omega)
    go_wp2
    exact ret_bool rfl rfl rfl HF.out.symm (by repeat (first | exact Ext.refl _ | assumption | apply Ext.alloc | apply Ext.drewN | apply Ext.drew | (refine Ext.setCell ?_ (by first | (simp; done) | (simp; omega) | omega) _) | (refine Ext.trans ?_ (by assumption))))
  · have HF := Lib.hid (show fitsB a b = decide (a.A ≤ b.A ∧ a.B ≤ b.B ∧ a.C ≤ b.C) by unfold fitsB; rw [h1, h2]; rfl)
    go_enter Try.func91, Try.ntmps91
    go_wp2_with fail
    refine (sVecOk_c a _).mono ?_
    rintro e w1 ⟨rfl, hb1⟩
    obtain ⟨hcr1, hfr1, hz1⟩ := hb1.rules
    (try simp at hz1)
    have hy1_w0 : w.heap.size < w1.heap.size := (by omega)
    have hy1_w1 : w.heap.size + 1 < w1.heap.size := (by omega)
    go_wp2_with fail
    refine (sVecOk_c b _).mono ?_
    rintro e w2 ⟨rfl, hb2⟩
    obtain ⟨hcr2, hfr2, hz2⟩ := hb2.rules
    (try simp at hz2)
    have hy2_w0 : w.heap.size < w2.heap.size := (by omega)
    have hy2_w1 : w.heap.size + 1 < w2.heap.size := (by omega)
    go_wp2
    all_goals (refine ret_bool rfl rfl rfl ?_ (by repeat (first | exact Ext.refl _ | assumption | apply Ext.alloc | apply Ext.drewN | apply Ext.drew | (refine Ext.setCell ?_ (by first | (simp; done) | (simp; omega) | omega) _) | (refine Ext.trans ?_ (by assumption)))); rw [HF.out]; first | (symm; rw [decide_eq_true_iff]; omega) | (symm; rw [decide_eq_false_iff_not]; omega) | (rw [decide_eq_decide]; omega))
set_option maxHeartbeats 4000000 in
set_option maxRecDepth 10000 in
theorem Within_c (xs : List Quota) (hs : List Hold) (A : Option Addr) (n c : Nat) (A2 : Option Addr) (n2 c2 : Nat) (w : World) (h : SlAt RQuota 6 w A n xs) (hl : n ≤ maxLen) (h2 : SlAt RHold 12 w A2 n2 hs) (hl2 : n2 ≤ maxLen) (hcap : n2 ≤ c2) : Calls Try.prog 25 #[.slice A n c, .slice A2 n2 c2] w (Ret w (.bool (withinL xs hs))) := by
  have hl' := hl
  unfold maxLen at hl
  have HN := Lib.hid h.len
  have hM := Flat.mono Quota.enc Quota.ok
  have hA := Lib.hid (fun (u : World) (e : Ext w u) => QuotasOk_c xs A n c u (h.ext hM e) hl')
  have hH := Lib.hid (fun (u : World) (e : Ext w u) => HoldsOk_c hs A2 n2 c2 u (h2.ext (Flat.mono _ _) e) hl2 hcap)
  have HH := Lib.hid (fun (name : ByteArray) (u : World) (e : Ext w u) => HeldBy_c hs name A2 n2 c2 u (h2.ext (Flat.mono _ _) e) hl2 hcap)
  rcases (Bool.eq_false_or_eq_true (quotasB xs)).symm with h1 | h1
  · have HF := Lib.hid (show withinL xs hs = false by unfold withinL; rw [h1]; rfl)
    rw [h1] at hA
    clear HH
    go_enter Try.func25, Try.ntmps25
    go_wp2_with fail
    refine (hA.out _ (Ext.refl _)).mono ?_
    rintro e w1 ⟨rfl, hb1⟩
    go_wp2
    exact ret_bool rfl rfl rfl HF.out.symm hb1
  rcases (Bool.eq_false_or_eq_true (holdsB hs)).symm with h3 | h3
  · have HF := Lib.hid (show withinL xs hs = false by unfold withinL; rw [h1, h3]; rfl)
    rw [h1] at hA
    rw [h3] at hH
    clear HH
    go_enter Try.func25, Try.ntmps25
    go_wp2_with fail
    refine (hA.out _ (Ext.refl _)).mono ?_
    rintro e w1 ⟨rfl, hb1⟩
    go_wp2_with fail
    refine (hH.out _ hb1).mono ?_
    rintro e w2 ⟨rfl, hb2⟩
    go_wp2
    exact ret_bool rfl rfl rfl HF.out.symm (hb1.trans hb2)
  have HF := Lib.hid (show withinL xs hs = xs.all (fitQ hs) by unfold withinL; rw [h1, h3]; rfl)
  rw [h1] at hA
  rw [h3] at hH
  go_enter Try.func25, Try.ntmps25
  go_wp2_with fail
  refine (hA.out _ (Ext.refl _)).mono ?_
  rintro e w1 ⟨rfl, hb1⟩
  go_wp2_with fail
  refine (hH.out _ hb1).mono ?_
  rintro e w2 ⟨rfl, hb2⟩
  clear hA hH
  go_wp2
  go_loopw [21] (fun i wr => ∃ k : Nat, k ≤ n ∧ i = .int .i64 k ∧ Ext w wr ∧ withinL xs hs = (xs.drop k).all (fitQ hs)) (fun i _ => n - (intOf i).toNat)
  case atStart => exact ⟨0, Nat.zero_le _, rfl, hb1.trans hb2, HF.out⟩
  case round =>
    obtain ⟨k, hk, rfl, hb, hE⟩ := hrel
    have HE := Lib.hid hE; clear hE
    by_cases hlt : k < n
    · obtain ⟨b, o, x, cs, rfl, hbw, hx, _, hc, rfl, _⟩ := (h.ext hM hb).at_ hlt
      have g0 := hc 0 _ rfl
      have g1 := hc 1 _ rfl
      have g2 := hc 2 _ rfl
      have g3 := hc 3 _ rfl
      have g4 := hc 4 _ rfl
      have g5 := hc 5 _ rfl
      simp only [Nat.add_zero] at g0
      have HX := Lib.hid hx
      have HC := Lib.hid (HH.out x.Name)
      have HQ := Lib.hid (show fitQ hs x = (heldB hs x.Name && !decide (x.Jobs < heldJ hs x.Name) && !decide (x.Nodes < heldN hs x.Name) && fitsB (heldV hs x.Name) x.Res) from rfl)
      clear hc hx h HH h2
      generalize heldB hs x.Name = hb' at *
      generalize heldJ hs x.Name = hj at *
      generalize heldN hs x.Name = hn at *
      generalize heldV hs x.Name = hv at *
      cases hb'
      · go_wp2_with fail
        refine (HC.out _ (hb.alloc _)).mono ?_
        rintro e w3 ⟨rfl, hb3⟩
        obtain ⟨hcr3, hfr3, hz3⟩ := hb3.rules
        (try simp at hz3)
        have hy3_wr0 : wr.heap.size < w3.heap.size := (by omega)
        go_wp2
        exact ret_bool rfl rfl rfl (by rw [HE.out, drop_cons HX.out, List.all_cons, HQ.out]; rfl) (by repeat (first | exact Ext.refl _ | assumption | apply Ext.alloc | apply Ext.drewN | apply Ext.drew | (refine Ext.setCell ?_ (by first | (simp; done) | (simp; omega) | omega) _) | (refine Ext.trans ?_ (by assumption))))
      rcases Bool.eq_false_or_eq_true (decide (x.Jobs < hj)) with h4 | h4
      · have H4 := Lib.hid h4
        go_wp2_with fail
        refine (HC.out _ (hb.alloc _)).mono ?_
        rintro e w3 ⟨rfl, hb3⟩
        obtain ⟨hcr3, hfr3, hz3⟩ := hb3.rules
        (try simp at hz3)
        have hy3_wr0 : wr.heap.size < w3.heap.size := (by omega)
        go_wp2
        exact ret_bool rfl rfl rfl (by rw [HE.out, drop_cons HX.out, List.all_cons, HQ.out, H4.out]; rfl) (by repeat (first | exact Ext.refl _ | assumption | apply Ext.alloc | apply Ext.drewN | apply Ext.drew | (refine Ext.setCell ?_ (by first | (simp; done) | (simp; omega) | omega) _) | (refine Ext.trans ?_ (by assumption))))
      rcases Bool.eq_false_or_eq_true (decide (x.Nodes < hn)) with h5 | h5
      · have H4 := Lib.hid h4
        have H5 := Lib.hid h5
        go_wp2_with fail
        refine (HC.out _ (hb.alloc _)).mono ?_
        rintro e w3 ⟨rfl, hb3⟩
        obtain ⟨hcr3, hfr3, hz3⟩ := hb3.rules
        (try simp at hz3)
        have hy3_wr0 : wr.heap.size < w3.heap.size := (by omega)
        go_wp2
        exact ret_bool rfl rfl rfl (by rw [HE.out, drop_cons HX.out, List.all_cons, HQ.out, H4.out, H5.out]; rfl) (by repeat (first | exact Ext.refl _ | assumption | apply Ext.alloc | apply Ext.drewN | apply Ext.drew | (refine Ext.setCell ?_ (by first | (simp; done) | (simp; omega) | omega) _) | (refine Ext.trans ?_ (by assumption))))
      have H4 := Lib.hid h4
      have H5 := Lib.hid h5
      rcases Bool.eq_false_or_eq_true (fitsB hv x.Res) with h6 | h6
      all_goals
        have H6 := Lib.hid h6
        have HV := Lib.hid (fun u : World => VecFits_c hv x.Res u)
        rw [h6] at HV
        clear h6
        go_wp2_with fail
        refine (HC.out _ (hb.alloc _)).mono ?_
        rintro e w3 ⟨rfl, hb3⟩
        obtain ⟨hcr3, hfr3, hz3⟩ := hb3.rules
        (try simp at hz3)
        have hy3_wr0 : wr.heap.size < w3.heap.size := (by omega)
        go_wp2_with fail
        refine (HV.out _).mono ?_
        rintro e w4 ⟨rfl, hb4⟩
        go_wp2
      · go_roundw
        case rel => exact ⟨k + 1, by omega, by go_num, (by repeat (first | exact Ext.refl _ | assumption | apply Ext.alloc | apply Ext.drewN | apply Ext.drew | (refine Ext.setCell ?_ (by first | (simp; done) | (simp; omega) | omega) _) | (refine Ext.trans ?_ (by assumption)))), by rw [HE.out, drop_cons HX.out, List.all_cons, HQ.out, H4.out, H5.out, H6.out]; rfl⟩
        case measure => simp [intOf]; omega
      · exact ret_bool rfl rfl rfl (by rw [HE.out, drop_cons HX.out, List.all_cons, HQ.out, H4.out, H5.out, H6.out]; rfl) (by repeat (first | exact Ext.refl _ | assumption | apply Ext.alloc | apply Ext.drewN | apply Ext.drew | (refine Ext.setCell ?_ (by first | (simp; done) | (simp; omega) | omega) _) | (refine Ext.trans ?_ (by assumption))))
    · go_wp2
      exact ret_bool rfl rfl rfl (by rw [HE.out, List.drop_eq_nil_of_le (by have := HN.out; omega)]; rfl) hb
set_option maxHeartbeats 4000000 in
set_option maxRecDepth 10000 in
theorem sWithin_c (xs : List Quota) (hs : List Hold) (A : Option Addr) (n c : Nat) (A2 : Option Addr) (n2 c2 : Nat) (w : World) (h : SlAt RQuota 6 w A n xs) (hl : n ≤ maxLen) (h2 : SlAt RHold 12 w A2 n2 hs) (hl2 : n2 ≤ maxLen) (hcap : n2 ≤ c2) : Calls Try.prog 59 #[.slice A n c, .slice A2 n2 c2] w (Ret w (.bool (withinL xs hs))) := by
  have hl' := hl
  unfold maxLen at hl
  have HN := Lib.hid h.len
  have hM := Flat.mono Quota.enc Quota.ok
  have hA := Lib.hid (fun (u : World) (e : Ext w u) => sQuotasOk_c xs A n c u (h.ext hM e) hl')
  have hH := Lib.hid (fun (u : World) (e : Ext w u) => sHoldsOk_c hs A2 n2 c2 u (h2.ext (Flat.mono _ _) e) hl2 hcap)
  have HH := Lib.hid (fun (name : ByteArray) (u : World) (e : Ext w u) => sHeldBy_c hs name A2 n2 c2 u (h2.ext (Flat.mono _ _) e) hl2 hcap)
  rcases (Bool.eq_false_or_eq_true (quotasB xs)).symm with h1 | h1
  · have HF := Lib.hid (show withinL xs hs = false by unfold withinL; rw [h1]; rfl)
    rw [h1] at hA
    clear HH
    go_enter Try.func59, Try.ntmps59
    go_wp2_with fail
    refine (hA.out _ (Ext.refl _)).mono ?_
    rintro e w1 ⟨rfl, hb1⟩
    go_wp2
    exact ret_bool rfl rfl rfl HF.out.symm hb1
  rcases (Bool.eq_false_or_eq_true (holdsB hs)).symm with h3 | h3
  · have HF := Lib.hid (show withinL xs hs = false by unfold withinL; rw [h1, h3]; rfl)
    rw [h1] at hA
    rw [h3] at hH
    clear HH
    go_enter Try.func59, Try.ntmps59
    go_wp2_with fail
    refine (hA.out _ (Ext.refl _)).mono ?_
    rintro e w1 ⟨rfl, hb1⟩
    go_wp2_with fail
    refine (hH.out _ hb1).mono ?_
    rintro e w2 ⟨rfl, hb2⟩
    go_wp2
    exact ret_bool rfl rfl rfl HF.out.symm (hb1.trans hb2)
  have HF := Lib.hid (show withinL xs hs = xs.all (fitQ hs) by unfold withinL; rw [h1, h3]; rfl)
  rw [h1] at hA
  rw [h3] at hH
  go_enter Try.func59, Try.ntmps59
  go_wp2_with fail
  refine (hA.out _ (Ext.refl _)).mono ?_
  rintro e w1 ⟨rfl, hb1⟩
  go_wp2_with fail
  refine (hH.out _ hb1).mono ?_
  rintro e w2 ⟨rfl, hb2⟩
  clear hA hH
  go_wp2
  go_loopw [21] (fun i wr => ∃ k : Nat, k ≤ n ∧ i = .int .i64 k ∧ Ext w wr ∧ withinL xs hs = (xs.drop k).all (fitQ hs)) (fun i _ => n - (intOf i).toNat)
  case atStart => exact ⟨0, Nat.zero_le _, rfl, hb1.trans hb2, HF.out⟩
  case round =>
    obtain ⟨k, hk, rfl, hb, hE⟩ := hrel
    have HE := Lib.hid hE; clear hE
    by_cases hlt : k < n
    · obtain ⟨b, o, x, cs, rfl, hbw, hx, _, hc, rfl, _⟩ := (h.ext hM hb).at_ hlt
      have g0 := hc 0 _ rfl
      have g1 := hc 1 _ rfl
      have g2 := hc 2 _ rfl
      have g3 := hc 3 _ rfl
      have g4 := hc 4 _ rfl
      have g5 := hc 5 _ rfl
      simp only [Nat.add_zero] at g0
      have HX := Lib.hid hx
      have HC := Lib.hid (HH.out x.Name)
      have HQ := Lib.hid (show fitQ hs x = (heldB hs x.Name && !decide (x.Jobs < heldJ hs x.Name) && !decide (x.Nodes < heldN hs x.Name) && fitsB (heldV hs x.Name) x.Res) from rfl)
      clear hc hx h HH h2
      generalize heldB hs x.Name = hb' at *
      generalize heldJ hs x.Name = hj at *
      generalize heldN hs x.Name = hn at *
      generalize heldV hs x.Name = hv at *
      cases hb'
      · go_wp2_with fail
        refine (HC.out _ (hb.alloc _)).mono ?_
        rintro e w3 ⟨rfl, hb3⟩
        obtain ⟨hcr3, hfr3, hz3⟩ := hb3.rules
        (try simp at hz3)
        have hy3_wr0 : wr.heap.size < w3.heap.size := (by omega)
        go_wp2
        exact ret_bool rfl rfl rfl (by rw [HE.out, drop_cons HX.out, List.all_cons, HQ.out]; rfl) (by repeat (first | exact Ext.refl _ | assumption | apply Ext.alloc | apply Ext.drewN | apply Ext.drew | (refine Ext.setCell ?_ (by first | (simp; done) | (simp; omega) | omega) _) | (refine Ext.trans ?_ (by assumption))))
      rcases Bool.eq_false_or_eq_true (decide (x.Jobs < hj)) with h4 | h4
      · have H4 := Lib.hid h4
        go_wp2_with fail
        refine (HC.out _ (hb.alloc _)).mono ?_
        rintro e w3 ⟨rfl, hb3⟩
        obtain ⟨hcr3, hfr3, hz3⟩ := hb3.rules
        (try simp at hz3)
        have hy3_wr0 : wr.heap.size < w3.heap.size := (by omega)
        go_wp2
        exact ret_bool rfl rfl rfl (by rw [HE.out, drop_cons HX.out, List.all_cons, HQ.out, H4.out]; rfl) (by repeat (first | exact Ext.refl _ | assumption | apply Ext.alloc | apply Ext.drewN | apply Ext.drew | (refine Ext.setCell ?_ (by first | (simp; done) | (simp; omega) | omega) _) | (refine Ext.trans ?_ (by assumption))))
      rcases Bool.eq_false_or_eq_true (decide (x.Nodes < hn)) with h5 | h5
      · have H4 := Lib.hid h4
        have H5 := Lib.hid h5
        go_wp2_with fail
        refine (HC.out _ (hb.alloc _)).mono ?_
        rintro e w3 ⟨rfl, hb3⟩
        obtain ⟨hcr3, hfr3, hz3⟩ := hb3.rules
        (try simp at hz3)
        have hy3_wr0 : wr.heap.size < w3.heap.size := (by omega)
        go_wp2
        exact ret_bool rfl rfl rfl (by rw [HE.out, drop_cons HX.out, List.all_cons, HQ.out, H4.out, H5.out]; rfl) (by repeat (first | exact Ext.refl _ | assumption | apply Ext.alloc | apply Ext.drewN | apply Ext.drew | (refine Ext.setCell ?_ (by first | (simp; done) | (simp; omega) | omega) _) | (refine Ext.trans ?_ (by assumption))))
      have H4 := Lib.hid h4
      have H5 := Lib.hid h5
      rcases Bool.eq_false_or_eq_true (fitsB hv x.Res) with h6 | h6
      all_goals
        have H6 := Lib.hid h6
        have HV := Lib.hid (fun u : World => sVecFits_c hv x.Res u)
        rw [h6] at HV
        clear h6
        go_wp2_with fail
        refine (HC.out _ (hb.alloc _)).mono ?_
        rintro e w3 ⟨rfl, hb3⟩
        obtain ⟨hcr3, hfr3, hz3⟩ := hb3.rules
        (try simp at hz3)
        have hy3_wr0 : wr.heap.size < w3.heap.size := (by omega)
        go_wp2_with fail
        refine (HV.out _).mono ?_
        rintro e w4 ⟨rfl, hb4⟩
        go_wp2
      · go_roundw
        case rel => exact ⟨k + 1, by omega, by go_num, (by repeat (first | exact Ext.refl _ | assumption | apply Ext.alloc | apply Ext.drewN | apply Ext.drew | (refine Ext.setCell ?_ (by first | (simp; done) | (simp; omega) | omega) _) | (refine Ext.trans ?_ (by assumption)))), by rw [HE.out, drop_cons HX.out, List.all_cons, HQ.out, H4.out, H5.out, H6.out]; rfl⟩
        case measure => simp [intOf]; omega
      · exact ret_bool rfl rfl rfl (by rw [HE.out, drop_cons HX.out, List.all_cons, HQ.out, H4.out, H5.out, H6.out]; rfl) (by repeat (first | exact Ext.refl _ | assumption | apply Ext.alloc | apply Ext.drewN | apply Ext.drew | (refine Ext.setCell ?_ (by first | (simp; done) | (simp; omega) | omega) _) | (refine Ext.trans ?_ (by assumption))))
    · go_wp2
      exact ret_bool rfl rfl rfl (by rw [HE.out, List.drop_eq_nil_of_le (by have := HN.out; omega)]; rfl) hb
end Go.Proofs.Ytbfambeoboiifaa
