/- Contracts over profiles: what is free at a time; the times. -/
import Derived.Test.YtgmlcohffdeplaaGreatProf
namespace Go.Proofs.YtgmlcohffdeplaaGreat
open Go.RowKit
set_option linter.unusedVariables false
def spanB (a b : Int) : Bool := timeB a && timeB b && decide (a < b)
theorem isSpan_c (a b : Int) (w : World) : Calls Tryz.prog 73 #[.int .i64 a, .int .i64 b] w (Same w (.bool (spanB a b))) := by
  rcases (Bool.eq_false_or_eq_true (timeB a)).symm with h1 | h1
  · have HF := Lib.hid (show spanB a b = false by unfold spanB; rw [h1]; rfl)
    go_enter Tryz.func73, Tryz.ntmps73
    go_wp2_with fail
    refine (isTime_c _ _).mono ?_
    rintro e w1 ⟨rfl, rfl⟩
    go_wp2
    exact same_bool rfl rfl rfl HF.out.symm
  rcases (Bool.eq_false_or_eq_true (timeB b)).symm with h2 | h2
  · have HF := Lib.hid (show spanB a b = false by unfold spanB; rw [h1, h2]; rfl)
    go_enter Tryz.func73, Tryz.ntmps73
    go_wp2_with fail
    refine (isTime_c _ _).mono ?_
    rintro e w1 ⟨rfl, rfl⟩
    go_wp2_with fail
    refine (isTime_c _ _).mono ?_
    rintro e w2 ⟨rfl, rfl⟩
    go_wp2
    exact same_bool rfl rfl rfl HF.out.symm
  have HF := Lib.hid (show spanB a b = decide (a < b) by unfold spanB; rw [h1, h2]; rfl)
  go_enter Tryz.func73, Tryz.ntmps73
  go_wp2_with fail
  refine (isTime_c _ _).mono ?_
  rintro e w1 ⟨rfl, rfl⟩
  go_wp2_with fail
  refine (isTime_c _ _).mono ?_
  rintro e w2 ⟨rfl, rfl⟩
  go_wp2
  all_goals (refine same_bool rfl rfl rfl ?_; rw [HF.out]; try (first | (symm; rw [decide_eq_true_iff]; omega) | (symm; rw [decide_eq_false_iff_not]; omega)))
theorem cell_box_at (w : World) (b : Nat) (hb : w.heap.size = b) (cs : List Value) (e : TypeId) (j : Nat) (u : Value) (h : cs[j]? = some u) : (w.alloc (.cells cs.toArray e)).cell? ⟨b, j, none⟩ = some u := by
  subst hb; exact cell_box w cs e j u h
theorem frozen_box_at (w : World) (b : Nat) (hb : w.heap.size = b) (cs : Array Value) (e : TypeId) (j : Nat) : (w.alloc (.cells cs e)).frozen? ⟨b, j, none⟩ = false := by
  subst hb; simp
set_option maxHeartbeats 4000000 in
set_option maxRecDepth 10000 in
theorem l03At_c (xs : List Pt) (t : Int) (A : Option Addr) (n c : Nat) (w : World) (h : SlAt RPt 4 w A n xs) (hl : n ≤ maxLen) : Calls Tryz.prog 69 #[.agg #[.slice A n c], .int .i64 t] w (Ret w (.agg #[.int .i64 (freeAt xs t).A, .int .i64 (freeAt xs t).B, .int .i64 (freeAt xs t).C])) := by
  unfold maxLen at hl
  have HN := Lib.hid h.len
  have HM := Lib.hid (Flat.mono Pt.enc Pt.ok)
  have HF := Lib.hid (show freeAt xs t = freeAt xs t from rfl)
  have H0 := Lib.hid (show freeAt xs t = xs.foldl (stepF t) ⟨0, 0, 0⟩ from rfl)
  generalize freeAt xs t = r at *
  go_enter Tryz.func69, Tryz.ntmps69
  go_wp2
  go_loopw [12] (fun i wr => ∃ (k : Nat) (v : Vec), k ≤ n ∧ i = .int .i64 k ∧ Hid (r = (xs.drop k).foldl (stepF t) v) ∧ wr.cell? ⟨w.heap.size + 1 + 1, 0, none⟩ = some (.int .i64 v.A) ∧ wr.cell? ⟨w.heap.size + 1 + 1, 1, none⟩ = some (.int .i64 v.B) ∧ wr.cell? ⟨w.heap.size + 1 + 1, 2, none⟩ = some (.int .i64 v.C) ∧ wr.frozen? ⟨w.heap.size + 1 + 1, 0, none⟩ = false ∧ wr.frozen? ⟨w.heap.size + 1 + 1, 1, none⟩ = false ∧ wr.frozen? ⟨w.heap.size + 1 + 1, 2, none⟩ = false ∧ Ext ((w.alloc (.cells #[.slice A n c] 42)).alloc (.cells #[.int .i64 0, .int .i64 0, .int .i64 0] 59)) wr ∧ w.heap.size + 1 + 1 < wr.heap.size) (fun i _ => n - (intOf i).toNat)
  case atStart => exact ⟨0, ⟨0, 0, 0⟩, Nat.zero_le _, rfl, H0, (cell_box_at ((w.alloc (.cells #[.slice A n c] 42)).alloc (.cells #[.int .i64 0, .int .i64 0, .int .i64 0] 59)) (w.heap.size + 1 + 1) (by simp) [.int .i64 0, .int .i64 0, .int .i64 0] 59 0 _ rfl), (cell_box_at ((w.alloc (.cells #[.slice A n c] 42)).alloc (.cells #[.int .i64 0, .int .i64 0, .int .i64 0] 59)) (w.heap.size + 1 + 1) (by simp) [.int .i64 0, .int .i64 0, .int .i64 0] 59 1 _ rfl), (cell_box_at ((w.alloc (.cells #[.slice A n c] 42)).alloc (.cells #[.int .i64 0, .int .i64 0, .int .i64 0] 59)) (w.heap.size + 1 + 1) (by simp) [.int .i64 0, .int .i64 0, .int .i64 0] 59 2 _ rfl), (frozen_box_at _ _ (by simp) _ _ _), (frozen_box_at _ _ (by simp) _ _ _), (frozen_box_at _ _ (by simp) _ _ _), (by repeat (first | exact Ext.refl _ | assumption | apply Ext.alloc | apply Ext.drewN | apply Ext.drew | (refine Ext.setCell ?_ (by first | (simp; done) | (simp; omega) | omega) _) | (refine Ext.trans ?_ (by assumption)))), by simp⟩
  case round =>
    obtain ⟨k, v, hk, rfl, HR, c0, c1, c2, f0, f1, f2, hbr, hzr⟩ := hrel
    have hb : Ext w wr := (((Ext.refl w).alloc _).alloc _).trans hbr
    by_cases hlt : k < n
    · obtain ⟨b, o, x, cs, rfl, hbw, hx, _, hc, rfl, _⟩ := (h.ext HM.out hb).at_ hlt
      have g0 := hc 0 _ rfl
      have g1 := hc 1 _ rfl
      have g2 := hc 2 _ rfl
      have g3 := hc 3 _ rfl
      simp only [Nat.add_zero] at g0
      have HS := Lib.hid (show (xs.drop k).foldl (stepF t) v = (xs.drop (k + 1)).foldl (stepF t) (if x.At ≤ t then x.Free else v) by rw [drop_cons hx, List.foldl_cons]; rfl)
      clear hc hx h
      by_cases h1 : x.At ≤ t
      · rw [if_pos h1] at HS
        go_wp2
        go_roundw
        case rel => exact ⟨k + 1, x.Free, by omega, by go_num, Lib.hid (HR.out.trans HS.out), by go_simp, by go_simp, by go_simp, by go_simp, by go_simp, by go_simp, (by repeat (first | exact Ext.refl _ | assumption | apply Ext.alloc | apply Ext.drewN | apply Ext.drew | (refine Ext.setCell ?_ (by first | (simp; done) | (simp; omega) | omega) _) | (refine Ext.trans ?_ (by assumption)))), by simp; omega⟩
        case measure => simp [intOf]; omega
      · rw [if_neg h1] at HS
        go_wp2
        go_roundw
        case rel => exact ⟨k + 1, v, by omega, by go_num, Lib.hid (HR.out.trans HS.out), by go_simp, by go_simp, by go_simp, by go_simp, by go_simp, by go_simp, (by repeat (first | exact Ext.refl _ | assumption | apply Ext.alloc | apply Ext.drewN | apply Ext.drew | (refine Ext.setCell ?_ (by first | (simp; done) | (simp; omega) | omega) _) | (refine Ext.trans ?_ (by assumption)))), by simp; omega⟩
        case measure => simp [intOf]; omega
    · have HZ := Lib.hid (show r = v by rw [HR.out, List.drop_eq_nil_of_le (by have := HN.out; omega)]; rfl)
      have q0 := hbr.cell (cell_box_at (w.alloc (.cells #[.slice A n c] 42)) (w.heap.size + 1) (by simp) [.int .i64 0, .int .i64 0, .int .i64 0] 59 0 _ rfl)
      have q1 := hbr.cell (cell_box_at (w.alloc (.cells #[.slice A n c] 42)) (w.heap.size + 1) (by simp) [.int .i64 0, .int .i64 0, .int .i64 0] 59 1 _ rfl)
      have q2 := hbr.cell (cell_box_at (w.alloc (.cells #[.slice A n c] 42)) (w.heap.size + 1) (by simp) [.int .i64 0, .int .i64 0, .int .i64 0] 59 2 _ rfl)
      have p0 := (hbr.frozenEq (a := ⟨w.heap.size + 1, 0, none⟩) (by simp)).trans (by simp : _ = false)
      have p1 := (hbr.frozenEq (a := ⟨w.heap.size + 1, 1, none⟩) (by simp)).trans (by simp : _ = false)
      have p2 := (hbr.frozenEq (a := ⟨w.heap.size + 1, 2, none⟩) (by simp)).trans (by simp : _ = false)
      clear h
      go_wp2
      rw [HZ.out]
      exact ret_is (by simp [results, Tryz.results69, go_sem, *]) rfl (by repeat (first | exact Ext.refl _ | assumption | apply Ext.alloc | apply Ext.drewN | apply Ext.drew | (refine Ext.setCell ?_ (by first | (simp; done) | (simp; omega) | omega) _) | (refine Ext.trans ?_ (by assumption))))
end Go.Proofs.YtgmlcohffdeplaaGreat
