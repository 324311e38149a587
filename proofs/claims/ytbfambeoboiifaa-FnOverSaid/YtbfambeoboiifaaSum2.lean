/- Contracts over profiles: the reference's sum over pieces, the rest. -/
import Derived.Test.YtbfambeoboiifaaSum
namespace Go.Proofs.Ytbfambeoboiifaa
open Go.RowKit
set_option linter.unusedVariables false
set_option maxHeartbeats 8000000 in
set_option maxRecDepth 10000 in
theorem l16Sum_true (xs : List Pt) (fr to : Int) (v : Vec) (A : Option Addr) (n c : Nat) (w : World) (h : SlAt RPt 4 w A n xs) (hl : n ≤ maxLen) : Calls Try.prog 53 #[.agg #[.slice A n c], .int .i64 fr, .int .i64 to, .agg #[.int .i64 v.A, .int .i64 v.B, .int .i64 v.C], .bool true] w (Ret w (.tuple #[.agg #[.int .i64 (usedU xs v fr to).A, .int .i64 (usedU xs v fr to).B, .int .i64 (usedU xs v fr to).C], .bool (usedB xs v fr to)])) := by
  have hl' := hl
  unfold maxLen at hl
  have HN := Lib.hid h.len
  have HM := Lib.hid (Flat.mono Pt.enc Pt.ok)
  have hA := Lib.hid (fun (u : World) (e : Ext w u) => sProfMin_c xs fr to A n c u (h.ext HM.out e) hl')
  rcases (Bool.eq_false_or_eq_true (overB xs fr to)).symm with hO | hO
  · have HB := used_over (v := v) hO
    rw [usedU_bad HB, HB]
    -- rw [overU_bad hO, hO]
    rw [hO] at hA
    go_enter Try.func53, Try.ntmps53
    go_wp2_with fail
    refine (hA.out _ (by repeat (first | exact Ext.refl _ | assumption | apply Ext.alloc | apply Ext.drewN | apply Ext.drew | (refine Ext.setCell ?_ (by first | (simp; done) | (simp; omega) | omega) _) | (refine Ext.trans ?_ (by assumption))))).mono ?_
    rintro e w1 ⟨v1, rfl, hb1⟩
    have q0 := (((Ext.refl _).alloc _).trans hb1).cell (cell_box_at ((w.alloc (.cells #[.slice A n c] 40)).alloc (.cells #[.int .i64 v.A, .int .i64 v.B, .int .i64 v.C] 42)) (w.heap.size + 1 + 1) (by simp) [.int .i64 0, .int .i64 0, .int .i64 0] 45 0 _ rfl)
    have q1 := (((Ext.refl _).alloc _).trans hb1).cell (cell_box_at ((w.alloc (.cells #[.slice A n c] 40)).alloc (.cells #[.int .i64 v.A, .int .i64 v.B, .int .i64 v.C] 42)) (w.heap.size + 1 + 1) (by simp) [.int .i64 0, .int .i64 0, .int .i64 0] 45 1 _ rfl)
    have q2 := (((Ext.refl _).alloc _).trans hb1).cell (cell_box_at ((w.alloc (.cells #[.slice A n c] 40)).alloc (.cells #[.int .i64 v.A, .int .i64 v.B, .int .i64 v.C] 42)) (w.heap.size + 1 + 1) (by simp) [.int .i64 0, .int .i64 0, .int .i64 0] 45 2 _ rfl)
    have qf0 := ((((Ext.refl _).alloc _).trans hb1).frozenEq (a := ⟨w.heap.size + 1 + 1, 0, none⟩) (by simp)).trans (frozen_box_at ((w.alloc (.cells #[.slice A n c] 40)).alloc (.cells #[.int .i64 v.A, .int .i64 v.B, .int .i64 v.C] 42)) (w.heap.size + 1 + 1) (by simp) #[.int .i64 0, .int .i64 0, .int .i64 0] 45 0)
    have qf1 := ((((Ext.refl _).alloc _).trans hb1).frozenEq (a := ⟨w.heap.size + 1 + 1, 1, none⟩) (by simp)).trans (frozen_box_at ((w.alloc (.cells #[.slice A n c] 40)).alloc (.cells #[.int .i64 v.A, .int .i64 v.B, .int .i64 v.C] 42)) (w.heap.size + 1 + 1) (by simp) #[.int .i64 0, .int .i64 0, .int .i64 0] 45 1)
    have qf2 := ((((Ext.refl _).alloc _).trans hb1).frozenEq (a := ⟨w.heap.size + 1 + 1, 2, none⟩) (by simp)).trans (frozen_box_at ((w.alloc (.cells #[.slice A n c] 40)).alloc (.cells #[.int .i64 v.A, .int .i64 v.B, .int .i64 v.C] 42)) (w.heap.size + 1 + 1) (by simp) #[.int .i64 0, .int .i64 0, .int .i64 0] 45 2)
    have r0 := (hb1).cell (cell_box_at (((w.alloc (.cells #[.slice A n c] 40)).alloc (.cells #[.int .i64 v.A, .int .i64 v.B, .int .i64 v.C] 42)).alloc (.cells #[.int .i64 0, .int .i64 0, .int .i64 0] 45)) (w.heap.size + 1 + 1 + 1) (by simp) [.int .i64 0, .int .i64 0, .int .i64 0] 45 0 _ rfl)
    have r1 := (hb1).cell (cell_box_at (((w.alloc (.cells #[.slice A n c] 40)).alloc (.cells #[.int .i64 v.A, .int .i64 v.B, .int .i64 v.C] 42)).alloc (.cells #[.int .i64 0, .int .i64 0, .int .i64 0] 45)) (w.heap.size + 1 + 1 + 1) (by simp) [.int .i64 0, .int .i64 0, .int .i64 0] 45 1 _ rfl)
    have r2 := (hb1).cell (cell_box_at (((w.alloc (.cells #[.slice A n c] 40)).alloc (.cells #[.int .i64 v.A, .int .i64 v.B, .int .i64 v.C] 42)).alloc (.cells #[.int .i64 0, .int .i64 0, .int .i64 0] 45)) (w.heap.size + 1 + 1 + 1) (by simp) [.int .i64 0, .int .i64 0, .int .i64 0] 45 2 _ rfl)
    have rf0 := ((hb1).frozenEq (a := ⟨w.heap.size + 1 + 1 + 1, 0, none⟩) (by simp)).trans (frozen_box_at (((w.alloc (.cells #[.slice A n c] 40)).alloc (.cells #[.int .i64 v.A, .int .i64 v.B, .int .i64 v.C] 42)).alloc (.cells #[.int .i64 0, .int .i64 0, .int .i64 0] 45)) (w.heap.size + 1 + 1 + 1) (by simp) #[.int .i64 0, .int .i64 0, .int .i64 0] 45 0)
    have rf1 := ((hb1).frozenEq (a := ⟨w.heap.size + 1 + 1 + 1, 1, none⟩) (by simp)).trans (frozen_box_at (((w.alloc (.cells #[.slice A n c] 40)).alloc (.cells #[.int .i64 v.A, .int .i64 v.B, .int .i64 v.C] 42)).alloc (.cells #[.int .i64 0, .int .i64 0, .int .i64 0] 45)) (w.heap.size + 1 + 1 + 1) (by simp) #[.int .i64 0, .int .i64 0, .int .i64 0] 45 1)
    have rf2 := ((hb1).frozenEq (a := ⟨w.heap.size + 1 + 1 + 1, 2, none⟩) (by simp)).trans (frozen_box_at (((w.alloc (.cells #[.slice A n c] 40)).alloc (.cells #[.int .i64 v.A, .int .i64 v.B, .int .i64 v.C] 42)).alloc (.cells #[.int .i64 0, .int .i64 0, .int .i64 0] 45)) (w.heap.size + 1 + 1 + 1) (by simp) #[.int .i64 0, .int .i64 0, .int .i64 0] 45 2)
    have hz1 := hb1.le
    simp at hz1
    have hy1 : w.heap.size + 1 + 1 + 1 < w1.heap.size := by omega
    have hy2 : w.heap.size + 1 + 1 < w1.heap.size := by omega
    go_wp2
    exact ret_is (by simp [results, Try.results53, go_sem, *]) rfl (by repeat (first | exact Ext.refl _ | assumption | apply Ext.alloc | apply Ext.drewN | apply Ext.drew | (refine Ext.setCell ?_ (by first | (simp; done) | (simp; omega) | omega) _) | (refine Ext.trans ?_ (by assumption))))
  rw [hO] at hA
  obtain ⟨hP, hSp⟩ := Bool.and_eq_true_iff.1 hO
  obtain ⟨⟨f0, f1⟩, ⟨t0, t1⟩, ft⟩ := spanB_iff.1 hSp
  obtain ⟨l1, l2, _, _, hall⟩ := profB_parts hP
  obtain ⟨hs, hin, hto, hfr⟩ := over_times (fr := fr) (to := to) hP
  have HTS := Lib.hid hs
  have HIN := Lib.hid hin
  have HTO := Lib.hid hto
  have HFR := Lib.hid hfr
  have HALL := Lib.hid hall
  have HO := Lib.hid hO
  rw [HN.out] at l1 l2
  have hT := Lib.hid (fun (u : World) (e : Ext w u) => l03Times_c xs fr to A n c u (h.ext HM.out e) l2 (by unfold In64; omega) (by unfold In64; omega))
  have hV := Lib.hid (fun (t : Int) (u : World) (e : Ext w u) => l03At_c xs t A n c u (h.ext HM.out e) hl')
  have HFB := Lib.hid (fun t => freeAt_in hall t)
  have HTL := Lib.hid (timesL_len xs fr to)
  -- have HRES := Lib.hid (show overU xs fr to = ⟨area Vec.A xs fr to, area Vec.B xs fr to, area Vec.C xs fr to⟩ by unfold overU; rw [hO, if_pos rfl])
  -- generalize overU xs fr to = r at *
  -- rw [hO]
  have HBAD := Lib.hid (fun t => used_bad (l := xs) (v := v) (fr := fr) (to := to) (t := t))
  have HGOOD := Lib.hid (used_good (v := v) hO hs hin hto hfr)
  have HUB := Lib.hid (usedU_bad (l := xs) (v := v) (fr := fr) (to := to))
  have HUG := Lib.hid (show usedB xs v fr to = true → usedU xs v fr to = ⟨(to - fr) * v.A - area Vec.A xs fr to, (to - fr) * v.B - area Vec.B xs fr to, (to - fr) * v.C - area Vec.C xs fr to⟩ from fun hu => by unfold usedU; rw [hu, if_pos rfl])
  generalize usedU xs v fr to = r at *
  generalize usedB xs v fr to = rb at *
  clear hs hin hto hfr hall hP hSp hO
  generalize timesL xs fr to = ts at *
  have HLEN := Lib.hid (show ts.length ≤ n + 2 by have := HTL.out; rw [HN.out] at this; exact this)
  go_enter Try.func53, Try.ntmps53
  go_wp2_with fail
  refine (hA.out _ (by repeat (first | exact Ext.refl _ | assumption | apply Ext.alloc | apply Ext.drewN | apply Ext.drew | (refine Ext.setCell ?_ (by first | (simp; done) | (simp; omega) | omega) _) | (refine Ext.trans ?_ (by assumption))))).mono ?_
  rintro e w1 ⟨v1, rfl, hb1⟩
  have hz1 := hb1.le
  simp at hz1
  have hy1 : w.heap.size < w1.heap.size := by omega
  have x0 := (((((Ext.refl _).alloc _).alloc _).alloc _).trans hb1).cell (cell_box_at w (w.heap.size) (by simp) [.slice A n c] 40 0 _ rfl)
  have xf0 := ((((((Ext.refl _).alloc _).alloc _).alloc _).trans hb1).frozenEq (a := ⟨w.heap.size, 0, none⟩) (by simp)).trans (frozen_box_at w (w.heap.size) (by simp) #[.slice A n c] 40 0)
  go_wp2_with fail
  refine (hT.out _ (by repeat (first | exact Ext.refl _ | assumption | apply Ext.alloc | apply Ext.drewN | apply Ext.drew | (refine Ext.setCell ?_ (by first | (simp; done) | (simp; omega) | omega) _) | (refine Ext.trans ?_ (by assumption))))).mono ?_
  rintro e w2 ⟨A2, c2, rfl, hs2, hlo2, hb2⟩
  have HSL := Lib.hid hs2
  have HLO := Lib.hid (show ∀ k, (Value.slice A2 ts.length c2).ownBlock = some k → w.heap.size + 1 + 1 + 1 < k from fun k hk => by have := hlo2 k hk; simp at this; omega)
  have hlen : ts.length ≤ 202 := by have := HLEN.out; omega
  have e12 := (((Ext.refl w1).alloc (.cells #[.int .i64 v1.A, .int .i64 v1.B, .int .i64 v1.C] 42)).trans hb2)
  have hz2 := e12.le
  have e02 : Ext (((w.alloc (.cells #[.slice A n c] 40)).alloc (.cells #[.int .i64 v.A, .int .i64 v.B, .int .i64 v.C] 42)).alloc (.cells #[.int .i64 0, .int .i64 0, .int .i64 0] 45)) w2 := ((Ext.refl _).alloc _).trans (hb1.trans e12)
  have r0 := (hb1.trans e12).cell (cell_box_at (((w.alloc (.cells #[.slice A n c] 40)).alloc (.cells #[.int .i64 v.A, .int .i64 v.B, .int .i64 v.C] 42)).alloc (.cells #[.int .i64 0, .int .i64 0, .int .i64 0] 45)) (w.heap.size + 1 + 1 + 1) (by simp) [.int .i64 0, .int .i64 0, .int .i64 0] 45 0 _ rfl)
  have r1 := (hb1.trans e12).cell (cell_box_at (((w.alloc (.cells #[.slice A n c] 40)).alloc (.cells #[.int .i64 v.A, .int .i64 v.B, .int .i64 v.C] 42)).alloc (.cells #[.int .i64 0, .int .i64 0, .int .i64 0] 45)) (w.heap.size + 1 + 1 + 1) (by simp) [.int .i64 0, .int .i64 0, .int .i64 0] 45 1 _ rfl)
  have r2 := (hb1.trans e12).cell (cell_box_at (((w.alloc (.cells #[.slice A n c] 40)).alloc (.cells #[.int .i64 v.A, .int .i64 v.B, .int .i64 v.C] 42)).alloc (.cells #[.int .i64 0, .int .i64 0, .int .i64 0] 45)) (w.heap.size + 1 + 1 + 1) (by simp) [.int .i64 0, .int .i64 0, .int .i64 0] 45 2 _ rfl)
  have rf0 := ((hb1.trans e12).frozenEq (a := ⟨w.heap.size + 1 + 1 + 1, 0, none⟩) (by simp)).trans (frozen_box_at (((w.alloc (.cells #[.slice A n c] 40)).alloc (.cells #[.int .i64 v.A, .int .i64 v.B, .int .i64 v.C] 42)).alloc (.cells #[.int .i64 0, .int .i64 0, .int .i64 0] 45)) (w.heap.size + 1 + 1 + 1) (by simp) #[.int .i64 0, .int .i64 0, .int .i64 0] 45 0)
  have rf1 := ((hb1.trans e12).frozenEq (a := ⟨w.heap.size + 1 + 1 + 1, 1, none⟩) (by simp)).trans (frozen_box_at (((w.alloc (.cells #[.slice A n c] 40)).alloc (.cells #[.int .i64 v.A, .int .i64 v.B, .int .i64 v.C] 42)).alloc (.cells #[.int .i64 0, .int .i64 0, .int .i64 0] 45)) (w.heap.size + 1 + 1 + 1) (by simp) #[.int .i64 0, .int .i64 0, .int .i64 0] 45 1)
  have rf2 := ((hb1.trans e12).frozenEq (a := ⟨w.heap.size + 1 + 1 + 1, 2, none⟩) (by simp)).trans (frozen_box_at (((w.alloc (.cells #[.slice A n c] 40)).alloc (.cells #[.int .i64 v.A, .int .i64 v.B, .int .i64 v.C] 42)).alloc (.cells #[.int .i64 0, .int .i64 0, .int .i64 0] 45)) (w.heap.size + 1 + 1 + 1) (by simp) #[.int .i64 0, .int .i64 0, .int .i64 0] 45 2)
  clear hs2 hlo2 hA hT xf0 x0
  go_wp2
  go_loopw [39] (fun i wr => ∃ (k : Nat) (sA sB sC : Int), k ≤ ts.length ∧ i = .int .i64 k ∧ Hid (sA = tot true v Vec.A xs ts fr to k ∧ sB = tot true v Vec.B xs ts fr to k ∧ sC = tot true v Vec.C xs ts fr to k) ∧ Hid (fitTo xs ts fr to v k) ∧ wr.cell? ⟨w.heap.size + 1 + 1 + 1, 0, none⟩ = some (.int .i64 sA) ∧ wr.cell? ⟨w.heap.size + 1 + 1 + 1, 1, none⟩ = some (.int .i64 sB) ∧ wr.cell? ⟨w.heap.size + 1 + 1 + 1, 2, none⟩ = some (.int .i64 sC) ∧ wr.frozen? ⟨w.heap.size + 1 + 1 + 1, 0, none⟩ = false ∧ wr.frozen? ⟨w.heap.size + 1 + 1 + 1, 1, none⟩ = false ∧ wr.frozen? ⟨w.heap.size + 1 + 1 + 1, 2, none⟩ = false ∧ Hid (SlAt RInt 1 wr A2 ts.length ts) ∧ Ext (((w.alloc (.cells #[.slice A n c] 40)).alloc (.cells #[.int .i64 v.A, .int .i64 v.B, .int .i64 v.C] 42)).alloc (.cells #[.int .i64 0, .int .i64 0, .int .i64 0] 45)) wr ∧ w.heap.size + 1 + 1 + 1 < wr.heap.size) (fun i _ => ts.length - (intOf i).toNat)
  case atStart => exact ⟨0, 0, 0, 0, Nat.zero_le _, rfl, Lib.hid (by simp only [tot_zero HTS.out HFR.out ft, and_self]), Lib.hid (fit_zero), r0, r1, r2, rf0, rf1, rf2, HSL, e02, by omega⟩
  case round =>
    obtain ⟨k, sA, sB, sC, hk, rfl, HA, HFIT, c0, c1, c2', z0, z1, z2, HSr, hbr, hzr⟩ := hrel
    have hb : Ext w wr := ((((Ext.refl w).alloc _).alloc _).alloc _).trans hbr
    clear r0 r1 r2 rf0 rf1 rf2
    have hyw : w.heap.size < wr.heap.size := by omega
    have hyw1 : w.heap.size + 1 < wr.heap.size := by omega
    have hyw2 : w.heap.size + 1 + 1 < wr.heap.size := by omega
    by_cases hlt : k < ts.length
    · have HSR := Lib.hid HSr.out
      obtain ⟨b, o, t, cs, rfl, hbw, hx, _, hc, rfl, _⟩ := HSr.out.at_ hlt
      have g0 := hc 0 _ rfl
      simp only [Nat.mul_one, Nat.add_zero] at g0
      have HX := Lib.hid hx
      by_cases h1 : t < fr
      · have HK := Lib.hid (fun (c : Vec → Int) => tot_skip (rest := true) (v := v) (c := c) (l := xs) HTS.out HFR.out hx ft (.inl h1))
        have HF2 := Lib.hid (fit_skip HX.out HFIT.out (by omega))
        clear hc hx
        go_wp2
        go_roundw
        case rel => exact ⟨k + 1, sA, sB, sC, by omega, by go_num, Lib.hid (by rw [HK.out, HK.out, HK.out]; exact HA.out), HF2, c0, c1, c2', z0, z1, z2, HSR, hbr, hzr⟩
        case measure => simp [intOf]; omega
      by_cases h2 : to ≤ t
      · have HK := Lib.hid (fun (c : Vec → Int) => tot_skip (rest := true) (v := v) (c := c) (l := xs) HTS.out HFR.out hx ft (.inr h2))
        have HF2 := Lib.hid (fit_skip HX.out HFIT.out (by omega))
        clear hc hx
        go_wp2
        go_roundw
        case rel => exact ⟨k + 1, sA, sB, sC, by omega, by go_num, Lib.hid (by rw [HK.out, HK.out, HK.out]; exact HA.out), HF2, c0, c1, c2', z0, z1, z2, HSR, hbr, hzr⟩
        case measure => simp [intOf]; omega
      obtain ⟨u, hu, hu1, hu2⟩ := sorted_next HTS.out hx HTO.out (show t < to by omega)
      have HU := Lib.hid hu
      have hk1 : k + 1 < ts.length := (List.getElem?_eq_some_iff.1 hu).1
      obtain ⟨b', o', u', cs', e, _, hx', _, hc', rfl, _⟩ := HSR.out.at_ hk1
      simp only [Option.some.injEq, Addr.mk.injEq, and_true] at e
      obtain ⟨rfl, rfl⟩ := e
      rw [hu] at hx'; injection hx' with hx'; subst hx'
      have d0 := hc' 0 _ rfl
      simp only [Nat.mul_one, Nat.add_zero] at d0
      have HT1 := Lib.hid (show fr ≤ t by omega)
      have HT2 := Lib.hid (show t < to by omega)
      have hVt := Lib.hid (hV.out t)
      have HFv := Lib.hid (HFB.out t)
      have hfB := HFB.out t
      have HG := Lib.hid (show freeAt xs t = freeAt xs t from rfl)
      have HPOS := Lib.hid (fun (c : Vec → Int) (hc : comp c) (hv : true = true → vecR v) (s g : Int) (hg : g = gF true v c (freeAt xs t)) (e : s = tot true v c xs ts fr to k) => tot_pos hv hc HALL.out f0 t1 ft HTS.out HIN.out HTO.out hx hu (show fr ≤ t by omega) (show t < to by omega) hg e)
      have HSTEP := Lib.hid (fun (hfit : fitsB (freeAt xs t) v = true) => fit_step HX.out HFIT.out hfit)
      have HBADt := Lib.hid (fun (hfit : fitsB (freeAt xs t) v = false) => HBAD.out t (by omega) (by omega) hfit)
      generalize freeAt xs t = F at *
      have hst := hbr.trans (Ext.refl wr)
      have x0 := ((((Ext.refl _).alloc _).alloc _).trans hbr).cell (cell_box_at w (w.heap.size) (by simp) [.slice A n c] 40 0 _ rfl)
      have xf0 := (((((Ext.refl _).alloc _).alloc _).trans hbr).frozenEq (a := ⟨w.heap.size, 0, none⟩) (by simp)).trans (frozen_box_at w (w.heap.size) (by simp) #[.slice A n c] 40 0)
      have y0 := (((Ext.refl _).alloc _).trans hbr).cell (cell_box_at (w.alloc (.cells #[.slice A n c] 40)) (w.heap.size + 1) (by simp) [.int .i64 v.A, .int .i64 v.B, .int .i64 v.C] 42 0 _ rfl)
      have y1 := (((Ext.refl _).alloc _).trans hbr).cell (cell_box_at (w.alloc (.cells #[.slice A n c] 40)) (w.heap.size + 1) (by simp) [.int .i64 v.A, .int .i64 v.B, .int .i64 v.C] 42 1 _ rfl)
      have y2 := (((Ext.refl _).alloc _).trans hbr).cell (cell_box_at (w.alloc (.cells #[.slice A n c] 40)) (w.heap.size + 1) (by simp) [.int .i64 v.A, .int .i64 v.B, .int .i64 v.C] 42 2 _ rfl)
      have yf0 := ((((Ext.refl _).alloc _).trans hbr).frozenEq (a := ⟨w.heap.size + 1, 0, none⟩) (by simp)).trans (frozen_box_at (w.alloc (.cells #[.slice A n c] 40)) (w.heap.size + 1) (by simp) #[.int .i64 v.A, .int .i64 v.B, .int .i64 v.C] 42 0)
      have yf1 := ((((Ext.refl _).alloc _).trans hbr).frozenEq (a := ⟨w.heap.size + 1, 1, none⟩) (by simp)).trans (frozen_box_at (w.alloc (.cells #[.slice A n c] 40)) (w.heap.size + 1) (by simp) #[.int .i64 v.A, .int .i64 v.B, .int .i64 v.C] 42 1)
      have yf2 := ((((Ext.refl _).alloc _).trans hbr).frozenEq (a := ⟨w.heap.size + 1, 2, none⟩) (by simp)).trans (frozen_box_at (w.alloc (.cells #[.slice A n c] 40)) (w.heap.size + 1) (by simp) #[.int .i64 v.A, .int .i64 v.B, .int .i64 v.C] 42 2)
      clear hc hx hc' hu
      have HSUB := Lib.hid (fun u : World => sVecSub_c v F u)
      rcases (Bool.eq_false_or_eq_true (fitsB F v)).symm with hfit | hfit
      · rw [subV_bad hfit, hfit] at HSUB
        have HRB := Lib.hid (HBADt.out hfit)
        have HRU := Lib.hid (HUB.out HRB.out)
        rw [HRU.out, HRB.out]
        go_wp2_with fail
        refine (hVt.out _ hb).mono ?_
        rintro e w3 ⟨rfl, hb3⟩
        have y0' := hb3.cell y0
        have y1' := hb3.cell y1
        have y2' := hb3.cell y2
        have hz3 := hb3.le
        have hzz1 : w.heap.size + 1 < w3.heap.size := by omega
        clear y0 y1 y2 yf0 yf1 yf2 c0 c1 c2' z0 z1 z2 x0 xf0
        go_wp2_with fail
        refine (HSUB.out _).mono ?_
        rintro e w4 ⟨rfl, hb4⟩
        have e4 : Ext wr w4 := hb3.trans (((Ext.refl w3).alloc (.cells #[.int .i64 F.A, .int .i64 F.B, .int .i64 F.C] 42)).trans hb4)
        have q0 := (hbr.trans e4).cell (cell_box_at ((w.alloc (.cells #[.slice A n c] 40)).alloc (.cells #[.int .i64 v.A, .int .i64 v.B, .int .i64 v.C] 42)) (w.heap.size + 1 + 1) (by simp) [.int .i64 0, .int .i64 0, .int .i64 0] 45 0 _ rfl)
        have q1 := (hbr.trans e4).cell (cell_box_at ((w.alloc (.cells #[.slice A n c] 40)).alloc (.cells #[.int .i64 v.A, .int .i64 v.B, .int .i64 v.C] 42)) (w.heap.size + 1 + 1) (by simp) [.int .i64 0, .int .i64 0, .int .i64 0] 45 1 _ rfl)
        have q2 := (hbr.trans e4).cell (cell_box_at ((w.alloc (.cells #[.slice A n c] 40)).alloc (.cells #[.int .i64 v.A, .int .i64 v.B, .int .i64 v.C] 42)) (w.heap.size + 1 + 1) (by simp) [.int .i64 0, .int .i64 0, .int .i64 0] 45 2 _ rfl)
        have qf0 := ((hbr.trans e4).frozenEq (a := ⟨w.heap.size + 1 + 1, 0, none⟩) (by simp)).trans (frozen_box_at ((w.alloc (.cells #[.slice A n c] 40)).alloc (.cells #[.int .i64 v.A, .int .i64 v.B, .int .i64 v.C] 42)) (w.heap.size + 1 + 1) (by simp) #[.int .i64 0, .int .i64 0, .int .i64 0] 45 0)
        have qf1 := ((hbr.trans e4).frozenEq (a := ⟨w.heap.size + 1 + 1, 1, none⟩) (by simp)).trans (frozen_box_at ((w.alloc (.cells #[.slice A n c] 40)).alloc (.cells #[.int .i64 v.A, .int .i64 v.B, .int .i64 v.C] 42)) (w.heap.size + 1 + 1) (by simp) #[.int .i64 0, .int .i64 0, .int .i64 0] 45 1)
        have qf2 := ((hbr.trans e4).frozenEq (a := ⟨w.heap.size + 1 + 1, 2, none⟩) (by simp)).trans (frozen_box_at ((w.alloc (.cells #[.slice A n c] 40)).alloc (.cells #[.int .i64 v.A, .int .i64 v.B, .int .i64 v.C] 42)) (w.heap.size + 1 + 1) (by simp) #[.int .i64 0, .int .i64 0, .int .i64 0] 45 2)
        have hz4 := e4.le
        have hzz2 : w.heap.size + 1 + 1 < w4.heap.size := by omega
        go_wp2
        exact ret_is (by simp [results, Try.results53, go_sem, *]) rfl (by repeat (first | exact Ext.refl _ | assumption | apply Ext.alloc | apply Ext.drewN | apply Ext.drew | (refine Ext.setCell ?_ (by first | (simp; done) | (simp; omega) | omega) _) | (refine Ext.trans ?_ (by assumption))))
      rw [subV_good hfit, hfit] at HSUB
      have HFT := Lib.hid (HSTEP.out hfit)
      have HVR := Lib.hid (fun (_ : true = true) => vecR_of_fits hfit)
      go_wp2_with fail
      refine (hVt.out _ hb).mono ?_
      rintro e w3 ⟨rfl, hb3⟩
      have y0' := hb3.cell y0
      have y1' := hb3.cell y1
      have y2' := hb3.cell y2
      have k0 := hb3.cell c0
      have k1 := hb3.cell c1
      have k2 := hb3.cell c2'
      have m0 := (hb3.frozenEq (lt_of_cell c0)).trans z0
      have m1 := (hb3.frozenEq (lt_of_cell c1)).trans z1
      have m2 := (hb3.frozenEq (lt_of_cell c2')).trans z2
      have d3 := hb3.cell d0
      have hz3 := hb3.le
      have hzz1 : w.heap.size + 1 < w3.heap.size := by omega
      have HS3 := Lib.hid (HSR.out.ext (Flat.mono _ _) hb3)
      clear y0 y1 y2 yf0 yf1 yf2 c0 c1 c2' z0 z1 z2 x0 xf0 d0
      go_wp2_with fail
      refine (HSUB.out _).mono ?_
      rintro e w4 ⟨rfl, hb4⟩
      have e34 : Ext w3 w4 := ((Ext.refl w3).alloc (.cells #[.int .i64 F.A, .int .i64 F.B, .int .i64 F.C] 42)).trans hb4
      have k0' := e34.cell k0
      have k1' := e34.cell k1
      have k2' := e34.cell k2
      have m0' := (e34.frozenEq (lt_of_cell k0)).trans m0
      have m1' := (e34.frozenEq (lt_of_cell k1)).trans m1
      have m2' := (e34.frozenEq (lt_of_cell k2)).trans m2
      have d4 := e34.cell d3
      have f0 := (hb4).cell (cell_box_at w3 (w3.heap.size) (by simp) [.int .i64 F.A, .int .i64 F.B, .int .i64 F.C] 42 0 _ rfl)
      have f1 := (hb4).cell (cell_box_at w3 (w3.heap.size) (by simp) [.int .i64 F.A, .int .i64 F.B, .int .i64 F.C] 42 1 _ rfl)
      have f2 := (hb4).cell (cell_box_at w3 (w3.heap.size) (by simp) [.int .i64 F.A, .int .i64 F.B, .int .i64 F.C] 42 2 _ rfl)
      have ff0 := ((hb4).frozenEq (a := ⟨w3.heap.size, 0, none⟩) (by simp)).trans (frozen_box_at w3 (w3.heap.size) (by simp) #[.int .i64 F.A, .int .i64 F.B, .int .i64 F.C] 42 0)
      have ff1 := ((hb4).frozenEq (a := ⟨w3.heap.size, 1, none⟩) (by simp)).trans (frozen_box_at w3 (w3.heap.size) (by simp) #[.int .i64 F.A, .int .i64 F.B, .int .i64 F.C] 42 1)
      have ff2 := ((hb4).frozenEq (a := ⟨w3.heap.size, 2, none⟩) (by simp)).trans (frozen_box_at w3 (w3.heap.size) (by simp) #[.int .i64 F.A, .int .i64 F.B, .int .i64 F.C] 42 2)
      have HLON := Lib.hid (show ∀ k, (Value.slice (some ⟨b, o, none⟩) ts.length c2).ownBlock = some k → w.heap.size + 1 + 1 + 1 ≠ k from fun k hk => by have := HLO.out k hk; omega)
      have EW := Lib.hid (hbr.trans (hb3.trans e34))
      have hz4 := e34.le
      have hz4' : w3.heap.size < w4.heap.size := by have := hb4.le; simp at this; omega
      have hzz : w.heap.size + 1 + 1 + 1 < w4.heap.size := by omega
      have hzz3 : w.heap.size + 1 + 1 + 1 < w3.heap.size := by omega
      have hbb : b < w4.heap.size := by omega
      have HS4 := Lib.hid (HS3.out.ext (Flat.mono _ _) e34)
      have HLO3 := Lib.hid (show ∀ k, (Value.slice (some ⟨b, o, none⟩) ts.length c2).ownBlock = some k → w3.heap.size ≠ k from fun k hk => by injection hk with hk; subst hk; have := hb3.le; exact fun e => by subst e; have := hbw; omega)
      clear k0 k1 k2 m0 m1 m2 d3 y0' y1' y2'
      go_wp2
      go_roundw
      case rel =>
        obtain ⟨e1, e2, e3⟩ := HA.out
        rw [HPOS.out Vec.A comp_A HVR.out sA (v.A - F.A) rfl e1, HPOS.out Vec.B comp_B HVR.out sB (v.B - F.B) rfl e2, HPOS.out Vec.C comp_C HVR.out sC (v.C - F.C) rfl e3]
        exact ⟨k + 1, _, _, _, by omega, by go_num, Lib.hid ⟨rfl, rfl, rfl⟩, HFT, by go_simp, by go_simp, by go_simp, by go_simp, by go_simp, by go_simp, Lib.hid (SlAt.ext (Flat.mono _ _) (SlAt.set (c := c2) (SlAt.set (c := c2) (SlAt.set (c := c2) (SlAt.set (c := c2) (SlAt.set (c := c2) (SlAt.set (c := c2) HS4.out ⟨w3.heap.size, 0, none⟩ HLO3.out _) ⟨w3.heap.size, 1, none⟩ HLO3.out _) ⟨w3.heap.size, 2, none⟩ HLO3.out _) ⟨w.heap.size + 1 + 1 + 1, 0, none⟩ HLON.out _) ⟨w.heap.size + 1 + 1 + 1, 1, none⟩ HLON.out _) ⟨w.heap.size + 1 + 1 + 1, 2, none⟩ HLON.out _) ((Ext.refl _).alloc _)), (Ext.alloc (Ext.setCell (Ext.setCell (Ext.setCell (Ext.setCell (Ext.setCell (Ext.setCell EW.out (p := ⟨w3.heap.size, 0, none⟩) (by simp; omega) _) (p := ⟨w3.heap.size, 1, none⟩) (by simp; omega) _) (p := ⟨w3.heap.size, 2, none⟩) (by simp; omega) _) (p := ⟨w.heap.size + 1 + 1 + 1, 0, none⟩) (by simp) _) (p := ⟨w.heap.size + 1 + 1 + 1, 1, none⟩) (by simp) _) (p := ⟨w.heap.size + 1 + 1 + 1, 2, none⟩) (by simp) _) _), by simp; omega⟩
      case measure => simp [intOf]; omega
    · have HRB := Lib.hid (HGOOD.out (fun j t hj h3 h4 => HFIT.out j t (Nat.lt_of_lt_of_le (List.getElem?_eq_some_iff.1 hj).1 (by omega)) hj h3 h4))
      have HZ := Lib.hid (show r = ⟨sA, sB, sC⟩ by
        obtain ⟨e1, e2, e3⟩ := HA.out
        have hkk : k = ts.length := by omega
        rw [HUG.out HRB.out, e1, e2, e3, tot_end hkk ft, tot_end hkk ft, tot_end hkk ft]; rfl
        -- rw [HRES.out, e1, e2, e3, tot_end hkk ft, tot_end hkk ft, tot_end hkk ft]; rfl
        )
      have q0 := (hbr).cell (cell_box_at ((w.alloc (.cells #[.slice A n c] 40)).alloc (.cells #[.int .i64 v.A, .int .i64 v.B, .int .i64 v.C] 42)) (w.heap.size + 1 + 1) (by simp) [.int .i64 0, .int .i64 0, .int .i64 0] 45 0 _ rfl)
      have q1 := (hbr).cell (cell_box_at ((w.alloc (.cells #[.slice A n c] 40)).alloc (.cells #[.int .i64 v.A, .int .i64 v.B, .int .i64 v.C] 42)) (w.heap.size + 1 + 1) (by simp) [.int .i64 0, .int .i64 0, .int .i64 0] 45 1 _ rfl)
      have q2 := (hbr).cell (cell_box_at ((w.alloc (.cells #[.slice A n c] 40)).alloc (.cells #[.int .i64 v.A, .int .i64 v.B, .int .i64 v.C] 42)) (w.heap.size + 1 + 1) (by simp) [.int .i64 0, .int .i64 0, .int .i64 0] 45 2 _ rfl)
      have qf0 := ((hbr).frozenEq (a := ⟨w.heap.size + 1 + 1, 0, none⟩) (by simp)).trans (frozen_box_at ((w.alloc (.cells #[.slice A n c] 40)).alloc (.cells #[.int .i64 v.A, .int .i64 v.B, .int .i64 v.C] 42)) (w.heap.size + 1 + 1) (by simp) #[.int .i64 0, .int .i64 0, .int .i64 0] 45 0)
      have qf1 := ((hbr).frozenEq (a := ⟨w.heap.size + 1 + 1, 1, none⟩) (by simp)).trans (frozen_box_at ((w.alloc (.cells #[.slice A n c] 40)).alloc (.cells #[.int .i64 v.A, .int .i64 v.B, .int .i64 v.C] 42)) (w.heap.size + 1 + 1) (by simp) #[.int .i64 0, .int .i64 0, .int .i64 0] 45 1)
      have qf2 := ((hbr).frozenEq (a := ⟨w.heap.size + 1 + 1, 2, none⟩) (by simp)).trans (frozen_box_at ((w.alloc (.cells #[.slice A n c] 40)).alloc (.cells #[.int .i64 v.A, .int .i64 v.B, .int .i64 v.C] 42)) (w.heap.size + 1 + 1) (by simp) #[.int .i64 0, .int .i64 0, .int .i64 0] 45 2)
      go_wp2
      rw [HZ.out]
      rw [HRB.out]
      exact ret_is (by simp [results, Try.results53, go_sem, *]) rfl (by repeat (first | exact Ext.refl _ | assumption | apply Ext.alloc | apply Ext.drewN | apply Ext.drew | (refine Ext.setCell ?_ (by first | (simp; done) | (simp; omega) | omega) _) | (refine Ext.trans ?_ (by assumption))))
end Go.Proofs.Ytbfambeoboiifaa
