/- Contracts over profiles: the reference's least. -/
import Derived.Test.YtbfambeoboiifaaOver3
namespace Go.Proofs.Ytbfambeoboiifaa
open Go.RowKit
set_option linter.unusedVariables false
set_option maxHeartbeats 4000000 in
set_option maxRecDepth 10000 in
theorem sProfMin_c (xs : List Pt) (fr to : Int) (A : Option Addr) (n c : Nat) (w : World) (h : SlAt RPt 4 w A n xs) (hl : n ≤ maxLen) : Calls Try.prog 79 #[.agg #[.slice A n c], .int .i64 fr, .int .i64 to] w (RetVB w (overB xs fr to)) := by
  have hl' := hl
  unfold maxLen at hl
  have HN := Lib.hid h.len
  have HM := Lib.hid (Flat.mono Pt.enc Pt.ok)
  have hA := Lib.hid (fun (u : World) (e : Ext w u) => sProfOk_c xs A n c u (h.ext HM.out e) hl')
  have hF := Lib.hid (fun u : World => sTime_c fr u)
  have hT := Lib.hid (fun u : World => sTime_c to u)
  have hV := Lib.hid (fun (u : World) (e : Ext w u) => l03At_c xs fr A n c u (h.ext HM.out e) hl')
  generalize freeAt xs fr = v0 at hV
  rcases (Bool.eq_false_or_eq_true (profB xs)).symm with h1 | h1
  all_goals rw [h1] at hA
  · rw [show overB xs fr to = false by unfold overB; rw [h1]; rfl]
    go_enter Try.func79, Try.ntmps79
    go_wp2_with fail
    refine (hA.out _ (by repeat (first | exact Ext.refl _ | assumption | apply Ext.alloc | apply Ext.drewN | apply Ext.drew | (refine Ext.setCell ?_ (by first | (simp; done) | (simp; omega) | omega) _) | (refine Ext.trans ?_ (by assumption))))).mono ?_
    rintro e w1 ⟨rfl, hb1⟩
    obtain ⟨hcr1, hfr1, hz1⟩ := hb1.rules
    (try simp at hz1)
    have hy1_w0 : w.heap.size < w1.heap.size := (by omega)
    have hy1_w1 : w.heap.size + 1 < w1.heap.size := (by omega)
    have q0 := (hb1).cell (cell_box_at (w.alloc (.cells #[.slice A n c] 40)) (w.heap.size + 1) (by simp) [.int .i64 0, .int .i64 0, .int .i64 0] 42 0 _ rfl)
    have q1 := (hb1).cell (cell_box_at (w.alloc (.cells #[.slice A n c] 40)) (w.heap.size + 1) (by simp) [.int .i64 0, .int .i64 0, .int .i64 0] 42 1 _ rfl)
    have q2 := (hb1).cell (cell_box_at (w.alloc (.cells #[.slice A n c] 40)) (w.heap.size + 1) (by simp) [.int .i64 0, .int .i64 0, .int .i64 0] 42 2 _ rfl)
    have qf0 := ((hb1).frozenEq (a := ⟨w.heap.size + 1, 0, none⟩) (by simp)).trans (frozen_box_at (w.alloc (.cells #[.slice A n c] 40)) (w.heap.size + 1) (by simp) #[.int .i64 0, .int .i64 0, .int .i64 0] 42 0)
    have qf1 := ((hb1).frozenEq (a := ⟨w.heap.size + 1, 1, none⟩) (by simp)).trans (frozen_box_at (w.alloc (.cells #[.slice A n c] 40)) (w.heap.size + 1) (by simp) #[.int .i64 0, .int .i64 0, .int .i64 0] 42 1)
    have qf2 := ((hb1).frozenEq (a := ⟨w.heap.size + 1, 2, none⟩) (by simp)).trans (frozen_box_at (w.alloc (.cells #[.slice A n c] 40)) (w.heap.size + 1) (by simp) #[.int .i64 0, .int .i64 0, .int .i64 0] 42 2)
    go_wp2
    exact bodyPost_ret (by simp [results, Try.results79, go_sem, *]) rfl ⟨⟨0, 0, 0⟩, rfl, (by repeat (first | exact Ext.refl _ | assumption | apply Ext.alloc | apply Ext.drewN | apply Ext.drew | (refine Ext.setCell ?_ (by first | (simp; done) | (simp; omega) | omega) _) | (refine Ext.trans ?_ (by assumption))))⟩
  rcases (Bool.eq_false_or_eq_true (timeB fr)).symm with h2 | h2
  all_goals rw [h2] at hF
  · rw [show overB xs fr to = false by unfold overB spanB; rw [h1, h2]; rfl]
    go_enter Try.func79, Try.ntmps79
    go_wp2_with fail
    refine (hA.out _ (by repeat (first | exact Ext.refl _ | assumption | apply Ext.alloc | apply Ext.drewN | apply Ext.drew | (refine Ext.setCell ?_ (by first | (simp; done) | (simp; omega) | omega) _) | (refine Ext.trans ?_ (by assumption))))).mono ?_
    rintro e w1 ⟨rfl, hb1⟩
    obtain ⟨hcr1, hfr1, hz1⟩ := hb1.rules
    (try simp at hz1)
    have hy1_w0 : w.heap.size < w1.heap.size := (by omega)
    have hy1_w1 : w.heap.size + 1 < w1.heap.size := (by omega)
    go_wp2_with fail
    refine (hF.out _).mono ?_
    rintro e w2 ⟨rfl, rfl⟩
    have q0 := (hb1).cell (cell_box_at (w.alloc (.cells #[.slice A n c] 40)) (w.heap.size + 1) (by simp) [.int .i64 0, .int .i64 0, .int .i64 0] 42 0 _ rfl)
    have q1 := (hb1).cell (cell_box_at (w.alloc (.cells #[.slice A n c] 40)) (w.heap.size + 1) (by simp) [.int .i64 0, .int .i64 0, .int .i64 0] 42 1 _ rfl)
    have q2 := (hb1).cell (cell_box_at (w.alloc (.cells #[.slice A n c] 40)) (w.heap.size + 1) (by simp) [.int .i64 0, .int .i64 0, .int .i64 0] 42 2 _ rfl)
    have qf0 := ((hb1).frozenEq (a := ⟨w.heap.size + 1, 0, none⟩) (by simp)).trans (frozen_box_at (w.alloc (.cells #[.slice A n c] 40)) (w.heap.size + 1) (by simp) #[.int .i64 0, .int .i64 0, .int .i64 0] 42 0)
    have qf1 := ((hb1).frozenEq (a := ⟨w.heap.size + 1, 1, none⟩) (by simp)).trans (frozen_box_at (w.alloc (.cells #[.slice A n c] 40)) (w.heap.size + 1) (by simp) #[.int .i64 0, .int .i64 0, .int .i64 0] 42 1)
    have qf2 := ((hb1).frozenEq (a := ⟨w.heap.size + 1, 2, none⟩) (by simp)).trans (frozen_box_at (w.alloc (.cells #[.slice A n c] 40)) (w.heap.size + 1) (by simp) #[.int .i64 0, .int .i64 0, .int .i64 0] 42 2)
    go_wp2
    exact bodyPost_ret (by simp [results, Try.results79, go_sem, *]) rfl ⟨⟨0, 0, 0⟩, rfl, (by repeat (first | exact Ext.refl _ | assumption | apply Ext.alloc | apply Ext.drewN | apply Ext.drew | (refine Ext.setCell ?_ (by first | (simp; done) | (simp; omega) | omega) _) | (refine Ext.trans ?_ (by assumption))))⟩
  rcases (Bool.eq_false_or_eq_true (timeB to)).symm with h3 | h3
  all_goals rw [h3] at hT
  · rw [show overB xs fr to = false by unfold overB spanB; rw [h1, h2, h3]; rfl]
    go_enter Try.func79, Try.ntmps79
    go_wp2_with fail
    refine (hA.out _ (by repeat (first | exact Ext.refl _ | assumption | apply Ext.alloc | apply Ext.drewN | apply Ext.drew | (refine Ext.setCell ?_ (by first | (simp; done) | (simp; omega) | omega) _) | (refine Ext.trans ?_ (by assumption))))).mono ?_
    rintro e w1 ⟨rfl, hb1⟩
    obtain ⟨hcr1, hfr1, hz1⟩ := hb1.rules
    (try simp at hz1)
    have hy1_w0 : w.heap.size < w1.heap.size := (by omega)
    have hy1_w1 : w.heap.size + 1 < w1.heap.size := (by omega)
    go_wp2_with fail
    refine (hF.out _).mono ?_
    rintro e w2 ⟨rfl, rfl⟩
    go_wp2_with fail
    refine (hT.out _).mono ?_
    rintro e w3 ⟨rfl, rfl⟩
    have q0 := (hb1).cell (cell_box_at (w.alloc (.cells #[.slice A n c] 40)) (w.heap.size + 1) (by simp) [.int .i64 0, .int .i64 0, .int .i64 0] 42 0 _ rfl)
    have q1 := (hb1).cell (cell_box_at (w.alloc (.cells #[.slice A n c] 40)) (w.heap.size + 1) (by simp) [.int .i64 0, .int .i64 0, .int .i64 0] 42 1 _ rfl)
    have q2 := (hb1).cell (cell_box_at (w.alloc (.cells #[.slice A n c] 40)) (w.heap.size + 1) (by simp) [.int .i64 0, .int .i64 0, .int .i64 0] 42 2 _ rfl)
    have qf0 := ((hb1).frozenEq (a := ⟨w.heap.size + 1, 0, none⟩) (by simp)).trans (frozen_box_at (w.alloc (.cells #[.slice A n c] 40)) (w.heap.size + 1) (by simp) #[.int .i64 0, .int .i64 0, .int .i64 0] 42 0)
    have qf1 := ((hb1).frozenEq (a := ⟨w.heap.size + 1, 1, none⟩) (by simp)).trans (frozen_box_at (w.alloc (.cells #[.slice A n c] 40)) (w.heap.size + 1) (by simp) #[.int .i64 0, .int .i64 0, .int .i64 0] 42 1)
    have qf2 := ((hb1).frozenEq (a := ⟨w.heap.size + 1, 2, none⟩) (by simp)).trans (frozen_box_at (w.alloc (.cells #[.slice A n c] 40)) (w.heap.size + 1) (by simp) #[.int .i64 0, .int .i64 0, .int .i64 0] 42 2)
    go_wp2
    exact bodyPost_ret (by simp [results, Try.results79, go_sem, *]) rfl ⟨⟨0, 0, 0⟩, rfl, (by repeat (first | exact Ext.refl _ | assumption | apply Ext.alloc | apply Ext.drewN | apply Ext.drew | (refine Ext.setCell ?_ (by first | (simp; done) | (simp; omega) | omega) _) | (refine Ext.trans ?_ (by assumption))))⟩
  by_cases h4 : to ≤ fr
  · rw [show overB xs fr to = false by unfold overB spanB; rw [h1, h2, h3, decide_eq_false (by omega)]; rfl]
    clear h1 h2 h3
    go_enter Try.func79, Try.ntmps79
    go_wp2_with fail
    refine (hA.out _ (by repeat (first | exact Ext.refl _ | assumption | apply Ext.alloc | apply Ext.drewN | apply Ext.drew | (refine Ext.setCell ?_ (by first | (simp; done) | (simp; omega) | omega) _) | (refine Ext.trans ?_ (by assumption))))).mono ?_
    rintro e w1 ⟨rfl, hb1⟩
    obtain ⟨hcr1, hfr1, hz1⟩ := hb1.rules
    (try simp at hz1)
    have hy1_w0 : w.heap.size < w1.heap.size := (by omega)
    have hy1_w1 : w.heap.size + 1 < w1.heap.size := (by omega)
    go_wp2_with fail
    refine (hF.out _).mono ?_
    rintro e w2 ⟨rfl, rfl⟩
    go_wp2_with fail
    refine (hT.out _).mono ?_
    rintro e w3 ⟨rfl, rfl⟩
    have q0 := (hb1).cell (cell_box_at (w.alloc (.cells #[.slice A n c] 40)) (w.heap.size + 1) (by simp) [.int .i64 0, .int .i64 0, .int .i64 0] 42 0 _ rfl)
    have q1 := (hb1).cell (cell_box_at (w.alloc (.cells #[.slice A n c] 40)) (w.heap.size + 1) (by simp) [.int .i64 0, .int .i64 0, .int .i64 0] 42 1 _ rfl)
    have q2 := (hb1).cell (cell_box_at (w.alloc (.cells #[.slice A n c] 40)) (w.heap.size + 1) (by simp) [.int .i64 0, .int .i64 0, .int .i64 0] 42 2 _ rfl)
    have qf0 := ((hb1).frozenEq (a := ⟨w.heap.size + 1, 0, none⟩) (by simp)).trans (frozen_box_at (w.alloc (.cells #[.slice A n c] 40)) (w.heap.size + 1) (by simp) #[.int .i64 0, .int .i64 0, .int .i64 0] 42 0)
    have qf1 := ((hb1).frozenEq (a := ⟨w.heap.size + 1, 1, none⟩) (by simp)).trans (frozen_box_at (w.alloc (.cells #[.slice A n c] 40)) (w.heap.size + 1) (by simp) #[.int .i64 0, .int .i64 0, .int .i64 0] 42 1)
    have qf2 := ((hb1).frozenEq (a := ⟨w.heap.size + 1, 2, none⟩) (by simp)).trans (frozen_box_at (w.alloc (.cells #[.slice A n c] 40)) (w.heap.size + 1) (by simp) #[.int .i64 0, .int .i64 0, .int .i64 0] 42 2)
    go_wp2
    exact bodyPost_ret (by simp [results, Try.results79, go_sem, *]) rfl ⟨⟨0, 0, 0⟩, rfl, (by repeat (first | exact Ext.refl _ | assumption | apply Ext.alloc | apply Ext.drewN | apply Ext.drew | (refine Ext.setCell ?_ (by first | (simp; done) | (simp; omega) | omega) _) | (refine Ext.trans ?_ (by assumption))))⟩
  rw [show overB xs fr to = true by unfold overB spanB; rw [h1, h2, h3, decide_eq_true (by omega)]; rfl]
  clear h1 h2 h3
  go_enter Try.func79, Try.ntmps79
  go_wp2_with fail
  refine (hA.out _ (by repeat (first | exact Ext.refl _ | assumption | apply Ext.alloc | apply Ext.drewN | apply Ext.drew | (refine Ext.setCell ?_ (by first | (simp; done) | (simp; omega) | omega) _) | (refine Ext.trans ?_ (by assumption))))).mono ?_
  rintro e w1 ⟨rfl, hb1⟩
  obtain ⟨hcr1, hfr1, hz1⟩ := hb1.rules
  (try simp at hz1)
  have hy1_w0 : w.heap.size < w1.heap.size := (by omega)
  have hy1_w1 : w.heap.size + 1 < w1.heap.size := (by omega)
  go_wp2_with fail
  refine (hF.out _).mono ?_
  rintro e w2 ⟨rfl, rfl⟩
  go_wp2_with fail
  refine (hT.out _).mono ?_
  rintro e w3 ⟨rfl, rfl⟩
  have x0 := (((Ext.refl _).alloc _).trans hb1).cell (cell_box_at w (w.heap.size) (by simp) [.slice A n c] 40 0 _ rfl)
  have xf0 := ((((Ext.refl _).alloc _).trans hb1).frozenEq (a := ⟨w.heap.size, 0, none⟩) (by simp)).trans (frozen_box_at w (w.heap.size) (by simp) #[.slice A n c] 40 0)
  go_wp2_with fail
  refine (hV.out _ (by repeat (first | exact Ext.refl _ | assumption | apply Ext.alloc | apply Ext.drewN | apply Ext.drew | (refine Ext.setCell ?_ (by first | (simp; done) | (simp; omega) | omega) _) | (refine Ext.trans ?_ (by assumption))))).mono ?_
  rintro e w4 ⟨rfl, hb4⟩
  obtain ⟨hcr4, hfr4, hz4⟩ := hb4.rules
  (try simp at hz4)
  have hy4_w0 : w.heap.size < w4.heap.size := (by omega)
  have hy4_w1 : w.heap.size + 1 < w4.heap.size := (by omega)
  have x0 := (((Ext.refl _).alloc _).trans (hb1.trans hb4)).cell (cell_box_at w (w.heap.size) (by simp) [.slice A n c] 40 0 _ rfl)
  have xf0 := ((((Ext.refl _).alloc _).trans (hb1.trans hb4)).frozenEq (a := ⟨w.heap.size, 0, none⟩) (by simp)).trans (frozen_box_at w (w.heap.size) (by simp) #[.slice A n c] 40 0)
  clear hA hF hT hV
  go_wp2
  go_loopw [36] (fun i wr => ∃ (k : Nat) (v : Vec), k ≤ n ∧ i = .int .i64 k ∧ wr.cell? ⟨w4.heap.size, 0, none⟩ = some (.int .i64 v.A) ∧ wr.cell? ⟨w4.heap.size, 1, none⟩ = some (.int .i64 v.B) ∧ wr.cell? ⟨w4.heap.size, 2, none⟩ = some (.int .i64 v.C) ∧ wr.frozen? ⟨w4.heap.size, 0, none⟩ = false ∧ wr.frozen? ⟨w4.heap.size, 1, none⟩ = false ∧ wr.frozen? ⟨w4.heap.size, 2, none⟩ = false ∧ Ext w4 wr ∧ w4.heap.size < wr.heap.size) (fun i _ => n - (intOf i).toNat)
  case atStart => exact ⟨0, v0, Nat.zero_le _, rfl, (cell_box_at w4 _ rfl [.int .i64 v0.A, .int .i64 v0.B, .int .i64 v0.C] 42 0 _ rfl), (cell_box_at w4 _ rfl [.int .i64 v0.A, .int .i64 v0.B, .int .i64 v0.C] 42 1 _ rfl), (cell_box_at w4 _ rfl [.int .i64 v0.A, .int .i64 v0.B, .int .i64 v0.C] 42 2 _ rfl), (frozen_box_at _ _ (by simp) _ _ _), (frozen_box_at _ _ (by simp) _ _ _), (frozen_box_at _ _ (by simp) _ _ _), (by repeat (first | exact Ext.refl _ | assumption | apply Ext.alloc | apply Ext.drewN | apply Ext.drew | (refine Ext.setCell ?_ (by first | (simp; done) | (simp; omega) | omega) _) | (refine Ext.trans ?_ (by assumption)))), by simp⟩
  case round =>
    obtain ⟨k, v, hk, rfl, c0, c1, c2, z0, z1, z2, hbr, hzr⟩ := hrel
    have hb : Ext w wr := (((Ext.refl w).alloc _).alloc _).trans (hb1.trans (hb4.trans hbr))
    by_cases hlt : k < n
    · obtain ⟨b, o, x, cs, rfl, hbw, hx, _, hc, rfl, _⟩ := (h.ext HM.out hb).at_ hlt
      have g0 := hc 0 _ rfl
      have g1 := hc 1 _ rfl
      have g2 := hc 2 _ rfl
      have g3 := hc 3 _ rfl
      simp only [Nat.add_zero] at g0
      clear hc hx h
      by_cases g1 : fr ≤ x.At
      · by_cases g2 : x.At < to
        · have HG1 := Lib.hid (fun u : World => sVecMin_c v x.Free u)
          go_wp2_with fail
          refine (HG1.out _).mono ?_
          rintro e w5 ⟨v', rfl, hb5⟩
          have e5 : Ext wr w5 := ((Ext.refl wr).alloc _).trans hb5
          have k0 := e5.cell c0
          have k1 := e5.cell c1
          have k2 := e5.cell c2
          have l0 := (e5.frozenEq (lt_of_cell c0)).trans z0
          have l1 := (e5.frozenEq (lt_of_cell c1)).trans z1
          have l2 := (e5.frozenEq (lt_of_cell c2)).trans z2
          have hz5 : w4.heap.size < w5.heap.size := by have := e5.le; omega
          clear c0 c1 c2 z0 z1 z2
          go_wp2
          go_roundw
          case rel => exact ⟨k + 1, v', by omega, by go_num, by go_simp, by go_simp, by go_simp, by go_simp, by go_simp, by go_simp, (hbr.trans e5).setCell (by simp) _ |>.setCell (by simp) _ |>.setCell (by simp) _, by simp; omega⟩
          case measure => simp [intOf]; omega
        · go_wp2
          go_roundw
          case rel => exact ⟨k + 1, v, by omega, by go_num, by go_simp, by go_simp, by go_simp, by go_simp, by go_simp, by go_simp, (by repeat (first | exact Ext.refl _ | assumption | apply Ext.alloc | apply Ext.drewN | apply Ext.drew | (refine Ext.setCell ?_ (by first | (simp; done) | (simp; omega) | omega) _) | (refine Ext.trans ?_ (by assumption)))), by simp; omega⟩
          case measure => simp [intOf]; omega
      · go_wp2
        go_roundw
        case rel => exact ⟨k + 1, v, by omega, by go_num, by go_simp, by go_simp, by go_simp, by go_simp, by go_simp, by go_simp, (by repeat (first | exact Ext.refl _ | assumption | apply Ext.alloc | apply Ext.drewN | apply Ext.drew | (refine Ext.setCell ?_ (by first | (simp; done) | (simp; omega) | omega) _) | (refine Ext.trans ?_ (by assumption)))), by simp; omega⟩
        case measure => simp [intOf]; omega
    · have p0 := (hb1.trans (hb4.trans hbr)).cell (cell_box_at (w.alloc (.cells #[.slice A n c] 40)) (w.heap.size + 1) (by simp) [.int .i64 0, .int .i64 0, .int .i64 0] 42 0 _ rfl)
      have p1 := (hb1.trans (hb4.trans hbr)).cell (cell_box_at (w.alloc (.cells #[.slice A n c] 40)) (w.heap.size + 1) (by simp) [.int .i64 0, .int .i64 0, .int .i64 0] 42 1 _ rfl)
      have p2 := (hb1.trans (hb4.trans hbr)).cell (cell_box_at (w.alloc (.cells #[.slice A n c] 40)) (w.heap.size + 1) (by simp) [.int .i64 0, .int .i64 0, .int .i64 0] 42 2 _ rfl)
      have pf0 := ((hb1.trans (hb4.trans hbr)).frozenEq (a := ⟨w.heap.size + 1, 0, none⟩) (by simp)).trans (frozen_box_at (w.alloc (.cells #[.slice A n c] 40)) (w.heap.size + 1) (by simp) #[.int .i64 0, .int .i64 0, .int .i64 0] 42 0)
      have pf1 := ((hb1.trans (hb4.trans hbr)).frozenEq (a := ⟨w.heap.size + 1, 1, none⟩) (by simp)).trans (frozen_box_at (w.alloc (.cells #[.slice A n c] 40)) (w.heap.size + 1) (by simp) #[.int .i64 0, .int .i64 0, .int .i64 0] 42 1)
      have pf2 := ((hb1.trans (hb4.trans hbr)).frozenEq (a := ⟨w.heap.size + 1, 2, none⟩) (by simp)).trans (frozen_box_at (w.alloc (.cells #[.slice A n c] 40)) (w.heap.size + 1) (by simp) #[.int .i64 0, .int .i64 0, .int .i64 0] 42 2)
      clear h
      go_wp2
      exact bodyPost_ret (by simp [results, Try.results79, go_sem, *]) rfl ⟨v, rfl, (by repeat (first | exact Ext.refl _ | assumption | apply Ext.alloc | apply Ext.drewN | apply Ext.drew | (refine Ext.setCell ?_ (by first | (simp; done) | (simp; omega) | omega) _) | (refine Ext.trans ?_ (by assumption))))⟩
end Go.Proofs.Ytbfambeoboiifaa
