/- Contracts: profiles, what is free at a time; what is taken; the given way. -/
import Derived.Test.YtfcffcgdbmkfgaaGreatOver
import Derived.Test.YtfcffcgdbmkfgaaGreatStateLaw
import Derived.Test.YtfcffcgdbmkfgaaGreatGRow
namespace Go.Proofs.YtfcffcgdbmkfgaaGreat
open Go.RowKit
set_option linter.unusedVariables false
set_option maxHeartbeats 4000000 in
set_option maxRecDepth 10000 in
theorem free_c (xs : List Pt) (t : Int) (A : Option Addr) (n c : Nat) (w : World) (h : SlAt RPt 4 w A n xs) (hl : n ≤ maxLen) : Calls Tryz.prog 127 #[.agg #[.slice A n c], .int .i64 t] w (Ret w (.agg #[.int .i64 (freeAt xs t).A, .int .i64 (freeAt xs t).B, .int .i64 (freeAt xs t).C])) := by
  unfold maxLen at hl
  have HN := Lib.hid h.len
  have HM := Lib.hid (Flat.mono Pt.enc Pt.ok)
  have HF := Lib.hid (show freeAt xs t = freeAt xs t from rfl)
  have H0 := Lib.hid (show freeAt xs t = xs.foldl (stepF t) ⟨0, 0, 0⟩ from rfl)
  generalize freeAt xs t = r at *
  go_enter Tryz.func127, Tryz.ntmps127
  go_wp2
  go_loopw [12] (fun i wr => ∃ (k : Nat) (v : Vec), k ≤ n ∧ i = .int .i64 k ∧ Hid (r = (xs.drop k).foldl (stepF t) v) ∧ wr.cell? ⟨w.heap.size + 1 + 1, 0, none⟩ = some (.int .i64 v.A) ∧ wr.cell? ⟨w.heap.size + 1 + 1, 1, none⟩ = some (.int .i64 v.B) ∧ wr.cell? ⟨w.heap.size + 1 + 1, 2, none⟩ = some (.int .i64 v.C) ∧ wr.frozen? ⟨w.heap.size + 1 + 1, 0, none⟩ = false ∧ wr.frozen? ⟨w.heap.size + 1 + 1, 1, none⟩ = false ∧ wr.frozen? ⟨w.heap.size + 1 + 1, 2, none⟩ = false ∧ Ext ((w.alloc (.cells #[.slice A n c] 96)).alloc (.cells #[.int .i64 0, .int .i64 0, .int .i64 0] 39)) wr ∧ w.heap.size + 1 + 1 < wr.heap.size) (fun i _ => n - (intOf i).toNat)
  case atStart => exact ⟨0, ⟨0, 0, 0⟩, Nat.zero_le _, rfl, H0, (cell_box_at ((w.alloc (.cells #[.slice A n c] 96)).alloc (.cells #[.int .i64 0, .int .i64 0, .int .i64 0] 39)) (w.heap.size + 1 + 1) (by simp) [.int .i64 0, .int .i64 0, .int .i64 0] 39 0 _ rfl), (cell_box_at ((w.alloc (.cells #[.slice A n c] 96)).alloc (.cells #[.int .i64 0, .int .i64 0, .int .i64 0] 39)) (w.heap.size + 1 + 1) (by simp) [.int .i64 0, .int .i64 0, .int .i64 0] 39 1 _ rfl), (cell_box_at ((w.alloc (.cells #[.slice A n c] 96)).alloc (.cells #[.int .i64 0, .int .i64 0, .int .i64 0] 39)) (w.heap.size + 1 + 1) (by simp) [.int .i64 0, .int .i64 0, .int .i64 0] 39 2 _ rfl), (frozen_box_at _ _ (by simp) _ _ _), (frozen_box_at _ _ (by simp) _ _ _), (frozen_box_at _ _ (by simp) _ _ _), (by repeat (first | exact Ext.refl _ | assumption | apply Ext.alloc | apply Ext.drewN | apply Ext.drew | (refine Ext.setCell ?_ (by first | (simp; done) | (simp; omega) | omega) _) | (refine Ext.trans ?_ (by assumption)))), by simp⟩
  case round =>
    obtain ⟨k, v, hk, rfl, HR, c0, c1, c2, f0, f1, f2, hbr, hzr⟩ := hrel
    have hb : Ext w wr := (((Ext.refl w).alloc _).alloc _).trans hbr
    by_cases hlt : k < n
    · obtain ⟨b, o, x, cs, rfl, hbw, hx, _, hc, rfl, _⟩ := (h.ext HM.out hb).at_ hlt
      have g0 := hc 0 _ rfl
      have g1 := hc 1 _ rfl
      have g2 := hc 2 _ rfl
      have g3 := hc 3 _ rfl
      simp only [Nat.add_zero] at g0
      have HS := Lib.hid (show (xs.drop k).foldl (stepF t) v = (xs.drop (k + 1)).foldl (stepF t) (if x.At ≤ t then x.Free else v) by rw [drop_cons hx, List.foldl_cons]; rfl)
      clear hc hx h
      by_cases h1 : x.At ≤ t
      · rw [if_pos h1] at HS
        go_wp2
        go_roundw
        case rel => exact ⟨k + 1, x.Free, by omega, by go_num, Lib.hid (HR.out.trans HS.out), by go_simp, by go_simp, by go_simp, by go_simp, by go_simp, by go_simp, (by repeat (first | exact Ext.refl _ | assumption | apply Ext.alloc | apply Ext.drewN | apply Ext.drew | (refine Ext.setCell ?_ (by first | (simp; done) | (simp; omega) | omega) _) | (refine Ext.trans ?_ (by assumption)))), by simp; omega⟩
        case measure => simp [intOf]; omega
      · rw [if_neg h1] at HS
        go_wp2
        go_roundw
        case rel => exact ⟨k + 1, v, by omega, by go_num, Lib.hid (HR.out.trans HS.out), by go_simp, by go_simp, by go_simp, by go_simp, by go_simp, by go_simp, (by repeat (first | exact Ext.refl _ | assumption | apply Ext.alloc | apply Ext.drewN | apply Ext.drew | (refine Ext.setCell ?_ (by first | (simp; done) | (simp; omega) | omega) _) | (refine Ext.trans ?_ (by assumption)))), by simp; omega⟩
        case measure => simp [intOf]; omega
    · have HZ := Lib.hid (show r = v by rw [HR.out, List.drop_eq_nil_of_le (by have := HN.out; omega)]; rfl)
      have q0 := hbr.cell (cell_box_at (w.alloc (.cells #[.slice A n c] 96)) (w.heap.size + 1) (by simp) [.int .i64 0, .int .i64 0, .int .i64 0] 39 0 _ rfl)
      have q1 := hbr.cell (cell_box_at (w.alloc (.cells #[.slice A n c] 96)) (w.heap.size + 1) (by simp) [.int .i64 0, .int .i64 0, .int .i64 0] 39 1 _ rfl)
      have q2 := hbr.cell (cell_box_at (w.alloc (.cells #[.slice A n c] 96)) (w.heap.size + 1) (by simp) [.int .i64 0, .int .i64 0, .int .i64 0] 39 2 _ rfl)
      have p0 := (hbr.frozenEq (a := ⟨w.heap.size + 1, 0, none⟩) (by simp)).trans (by simp : _ = false)
      have p1 := (hbr.frozenEq (a := ⟨w.heap.size + 1, 1, none⟩) (by simp)).trans (by simp : _ = false)
      have p2 := (hbr.frozenEq (a := ⟨w.heap.size + 1, 2, none⟩) (by simp)).trans (by simp : _ = false)
      clear h
      go_wp2
      rw [HZ.out]
      exact ret_is (by simp [results, Tryz.results127, go_sem, *]) rfl (by repeat (first | exact Ext.refl _ | assumption | apply Ext.alloc | apply Ext.drewN | apply Ext.drew | (refine Ext.setCell ?_ (by first | (simp; done) | (simp; omega) | omega) _) | (refine Ext.trans ?_ (by assumption))))
theorem gbox1 (w : World) (u : Value) (e : TypeId) : (w.alloc (.cells #[u] e)).ownsRow w.heap.size e 1 (.slice (some ⟨w.heap.size, 0, none⟩) 1 1) 1 [u] :=
  World.ownsRow_lit w #[u] 1 (Nat.le_refl _) (by unfold maxLen; omega) (by simp)
theorem gbox2 (w : World) (a b : Value) (e : TypeId) : (w.alloc (.cells #[a, b] e)).ownsRow w.heap.size e 2 (.slice (some ⟨w.heap.size, 0, none⟩) 1 1) 1 [a, b] :=
  World.ownsRow_lit w #[a, b] 1 (Nat.le_refl _) (by unfold maxLen; omega) (by simp)
theorem gbox3 (w : World) (a b c : Value) (e : TypeId) : (w.alloc (.cells #[a, b, c] e)).ownsRow w.heap.size e 3 (.slice (some ⟨w.heap.size, 0, none⟩) 1 1) 1 [a, b, c] :=
  World.ownsRow_lit w #[a, b, c] 1 (Nat.le_refl _) (by unfold maxLen; omega) (by simp)
theorem gbox (w : World) (cs : List Value) (e : TypeId) (sz : Nat) (h : cs.length = sz) : (w.alloc (.cells cs.toArray e)).ownsRow w.heap.size e sz (.slice (some ⟨w.heap.size, 0, none⟩) 1 1) 1 cs :=
  World.ownsRow_lit w cs.toArray 1 (Nat.le_refl _) (by unfold maxLen; omega) (by simp [h])
theorem gcell {w : World} {base b sz : Nat} {e : TypeId} {cs : List Value} (h : w.ownsRow base e sz (.slice (some ⟨b, 0, none⟩) 1 1) 1 cs) (j : Nat) (u : Value) (hj : cs[j]? = some u) : w.cell? ⟨b, j, none⟩ = some u := by
  rw [h.cellAt j (by have := (List.getElem?_eq_some_iff.1 hj).1; rw [h.1] at this; exact this)]; exact hj
theorem gcells1 {w : World} {base b : Nat} {e : TypeId} {u0 : Value} (h : w.ownsRow base e 1 (.slice (some ⟨b, 0, none⟩) 1 1) 1 [u0]) : w.cell? ⟨b, 0, none⟩ = some u0 ∧ w.frozen? ⟨b, 0, none⟩ = false ∧ b < w.heap.size :=
  ⟨gcell h 0 _ rfl, h.frozenAt 0, (h.lt b rfl).2⟩
theorem gcells2 {w : World} {base b : Nat} {e : TypeId} {u0 u1 : Value} (h : w.ownsRow base e 2 (.slice (some ⟨b, 0, none⟩) 1 1) 1 [u0, u1]) : w.cell? ⟨b, 0, none⟩ = some u0 ∧ w.cell? ⟨b, 1, none⟩ = some u1 ∧ w.frozen? ⟨b, 0, none⟩ = false ∧ w.frozen? ⟨b, 1, none⟩ = false ∧ b < w.heap.size :=
  ⟨gcell h 0 _ rfl, gcell h 1 _ rfl, h.frozenAt 0, h.frozenAt 1, (h.lt b rfl).2⟩
theorem gcells3 {w : World} {base b : Nat} {e : TypeId} {u0 u1 u2 : Value} (h : w.ownsRow base e 3 (.slice (some ⟨b, 0, none⟩) 1 1) 1 [u0, u1, u2]) : w.cell? ⟨b, 0, none⟩ = some u0 ∧ w.cell? ⟨b, 1, none⟩ = some u1 ∧ w.cell? ⟨b, 2, none⟩ = some u2 ∧ w.frozen? ⟨b, 0, none⟩ = false ∧ w.frozen? ⟨b, 1, none⟩ = false ∧ w.frozen? ⟨b, 2, none⟩ = false ∧ b < w.heap.size :=
  ⟨gcell h 0 _ rfl, gcell h 1 _ rfl, gcell h 2 _ rfl, h.frozenAt 0, h.frozenAt 1, h.frozenAt 2, (h.lt b rfl).2⟩
def validV (a b c : Vec) : Vec := if (vecB a && vecB b && vecB c) = true then c else ⟨0, 0, 0⟩
set_option maxHeartbeats 4000000 in
theorem valid_c (a b c : Vec) (w : World) : Calls Tryz.prog 99 #[.agg #[.int .i64 a.A, .int .i64 a.B, .int .i64 a.C], .agg #[.int .i64 b.A, .int .i64 b.B, .int .i64 b.C], .agg #[.int .i64 c.A, .int .i64 c.B, .int .i64 c.C]] w (Ret w (.tuple #[.agg #[.int .i64 (validV a b c).A, .int .i64 (validV a b c).B, .int .i64 (validV a b c).C], .bool (vecB a && vecB b && vecB c)])) := by
  have HD := Lib.hid (show validV a b c = if (vecB a && vecB b && vecB c) = true then c else ⟨0, 0, 0⟩ from rfl)
  have hA := Lib.hid (fun u : World => VecOk_c a u)
  have hB := Lib.hid (fun u : World => VecOk_c b u)
  have hC := Lib.hid (fun u : World => VecOk_c c u)
  generalize validV a b c = r at *
  rcases (Bool.eq_false_or_eq_true (vecB a)).symm with h1 | h1
  all_goals rw [h1] at hA HD ⊢
  · simp only [Bool.false_and, Bool.false_eq_true, if_false] at HD ⊢
    rw [HD.out]
    go_enter Tryz.func99, Tryz.ntmps99
    go_wp2_with fail
    refine (hA.out _).mono ?_
    rintro e w1 ⟨rfl, hb1⟩
    obtain ⟨hcr1, hfr1, hz1⟩ := hb1.rules
    (try simp at hz1)
    have hy1_w0 : w.heap.size < w1.heap.size := (by omega)
    have hy1_w1 : w.heap.size + 1 < w1.heap.size := (by omega)
    have hy1_w2 : w.heap.size + 1 + 1 < w1.heap.size := (by omega)
    have hy1_w3 : w.heap.size + 1 + 1 + 1 < w1.heap.size := (by omega)
    have q0 := (hb1).cell (cell_box_at (((w.alloc (.cells #[.int .i64 a.A, .int .i64 a.B, .int .i64 a.C] 39)).alloc (.cells #[.int .i64 b.A, .int .i64 b.B, .int .i64 b.C] 39)).alloc (.cells #[.int .i64 c.A, .int .i64 c.B, .int .i64 c.C] 39)) (w.heap.size + 1 + 1 + 1) (by simp) [.int .i64 0, .int .i64 0, .int .i64 0] 39 0 _ rfl)
    have q1 := (hb1).cell (cell_box_at (((w.alloc (.cells #[.int .i64 a.A, .int .i64 a.B, .int .i64 a.C] 39)).alloc (.cells #[.int .i64 b.A, .int .i64 b.B, .int .i64 b.C] 39)).alloc (.cells #[.int .i64 c.A, .int .i64 c.B, .int .i64 c.C] 39)) (w.heap.size + 1 + 1 + 1) (by simp) [.int .i64 0, .int .i64 0, .int .i64 0] 39 1 _ rfl)
    have q2 := (hb1).cell (cell_box_at (((w.alloc (.cells #[.int .i64 a.A, .int .i64 a.B, .int .i64 a.C] 39)).alloc (.cells #[.int .i64 b.A, .int .i64 b.B, .int .i64 b.C] 39)).alloc (.cells #[.int .i64 c.A, .int .i64 c.B, .int .i64 c.C] 39)) (w.heap.size + 1 + 1 + 1) (by simp) [.int .i64 0, .int .i64 0, .int .i64 0] 39 2 _ rfl)
    have qf0 := ((hb1).frozenEq (a := ⟨w.heap.size + 1 + 1 + 1, 0, none⟩) (by simp)).trans (frozen_box_at (((w.alloc (.cells #[.int .i64 a.A, .int .i64 a.B, .int .i64 a.C] 39)).alloc (.cells #[.int .i64 b.A, .int .i64 b.B, .int .i64 b.C] 39)).alloc (.cells #[.int .i64 c.A, .int .i64 c.B, .int .i64 c.C] 39)) (w.heap.size + 1 + 1 + 1) (by simp) #[.int .i64 0, .int .i64 0, .int .i64 0] 39 0)
    have qf1 := ((hb1).frozenEq (a := ⟨w.heap.size + 1 + 1 + 1, 1, none⟩) (by simp)).trans (frozen_box_at (((w.alloc (.cells #[.int .i64 a.A, .int .i64 a.B, .int .i64 a.C] 39)).alloc (.cells #[.int .i64 b.A, .int .i64 b.B, .int .i64 b.C] 39)).alloc (.cells #[.int .i64 c.A, .int .i64 c.B, .int .i64 c.C] 39)) (w.heap.size + 1 + 1 + 1) (by simp) #[.int .i64 0, .int .i64 0, .int .i64 0] 39 1)
    have qf2 := ((hb1).frozenEq (a := ⟨w.heap.size + 1 + 1 + 1, 2, none⟩) (by simp)).trans (frozen_box_at (((w.alloc (.cells #[.int .i64 a.A, .int .i64 a.B, .int .i64 a.C] 39)).alloc (.cells #[.int .i64 b.A, .int .i64 b.B, .int .i64 b.C] 39)).alloc (.cells #[.int .i64 c.A, .int .i64 c.B, .int .i64 c.C] 39)) (w.heap.size + 1 + 1 + 1) (by simp) #[.int .i64 0, .int .i64 0, .int .i64 0] 39 2)
    go_wp2
    exact ret_is (by simp [results, Tryz.results99, go_sem, *]) rfl (by repeat (first | exact Ext.refl _ | assumption | apply Ext.alloc | apply Ext.drewN | apply Ext.drew | (refine Ext.setCell ?_ (by first | (simp; done) | (simp; omega) | omega) _) | (refine Ext.trans ?_ (by assumption))))
  rcases (Bool.eq_false_or_eq_true (vecB b)).symm with h2 | h2
  all_goals rw [h2] at hB HD ⊢
  · simp only [Bool.true_and, Bool.false_and, Bool.false_eq_true, if_false] at HD ⊢
    rw [HD.out]
    go_enter Tryz.func99, Tryz.ntmps99
    go_wp2_with fail
    refine (hA.out _).mono ?_
    rintro e w1 ⟨rfl, hb1⟩
    obtain ⟨hcr1, hfr1, hz1⟩ := hb1.rules
    (try simp at hz1)
    have hy1_w0 : w.heap.size < w1.heap.size := (by omega)
    have hy1_w1 : w.heap.size + 1 < w1.heap.size := (by omega)
    have hy1_w2 : w.heap.size + 1 + 1 < w1.heap.size := (by omega)
    have hy1_w3 : w.heap.size + 1 + 1 + 1 < w1.heap.size := (by omega)
    go_wp2_with fail
    refine (hB.out _).mono ?_
    rintro e w2 ⟨rfl, hb2⟩
    obtain ⟨hcr2, hfr2, hz2⟩ := hb2.rules
    (try simp at hz2)
    have hy2_w0 : w.heap.size < w2.heap.size := (by omega)
    have hy2_w1 : w.heap.size + 1 < w2.heap.size := (by omega)
    have hy2_w2 : w.heap.size + 1 + 1 < w2.heap.size := (by omega)
    have hy2_w3 : w.heap.size + 1 + 1 + 1 < w2.heap.size := (by omega)
    have q0 := (hb1.trans hb2).cell (cell_box_at (((w.alloc (.cells #[.int .i64 a.A, .int .i64 a.B, .int .i64 a.C] 39)).alloc (.cells #[.int .i64 b.A, .int .i64 b.B, .int .i64 b.C] 39)).alloc (.cells #[.int .i64 c.A, .int .i64 c.B, .int .i64 c.C] 39)) (w.heap.size + 1 + 1 + 1) (by simp) [.int .i64 0, .int .i64 0, .int .i64 0] 39 0 _ rfl)
    have q1 := (hb1.trans hb2).cell (cell_box_at (((w.alloc (.cells #[.int .i64 a.A, .int .i64 a.B, .int .i64 a.C] 39)).alloc (.cells #[.int .i64 b.A, .int .i64 b.B, .int .i64 b.C] 39)).alloc (.cells #[.int .i64 c.A, .int .i64 c.B, .int .i64 c.C] 39)) (w.heap.size + 1 + 1 + 1) (by simp) [.int .i64 0, .int .i64 0, .int .i64 0] 39 1 _ rfl)
    have q2 := (hb1.trans hb2).cell (cell_box_at (((w.alloc (.cells #[.int .i64 a.A, .int .i64 a.B, .int .i64 a.C] 39)).alloc (.cells #[.int .i64 b.A, .int .i64 b.B, .int .i64 b.C] 39)).alloc (.cells #[.int .i64 c.A, .int .i64 c.B, .int .i64 c.C] 39)) (w.heap.size + 1 + 1 + 1) (by simp) [.int .i64 0, .int .i64 0, .int .i64 0] 39 2 _ rfl)
    have qf0 := ((hb1.trans hb2).frozenEq (a := ⟨w.heap.size + 1 + 1 + 1, 0, none⟩) (by simp)).trans (frozen_box_at (((w.alloc (.cells #[.int .i64 a.A, .int .i64 a.B, .int .i64 a.C] 39)).alloc (.cells #[.int .i64 b.A, .int .i64 b.B, .int .i64 b.C] 39)).alloc (.cells #[.int .i64 c.A, .int .i64 c.B, .int .i64 c.C] 39)) (w.heap.size + 1 + 1 + 1) (by simp) #[.int .i64 0, .int .i64 0, .int .i64 0] 39 0)
    have qf1 := ((hb1.trans hb2).frozenEq (a := ⟨w.heap.size + 1 + 1 + 1, 1, none⟩) (by simp)).trans (frozen_box_at (((w.alloc (.cells #[.int .i64 a.A, .int .i64 a.B, .int .i64 a.C] 39)).alloc (.cells #[.int .i64 b.A, .int .i64 b.B, .int .i64 b.C] 39)).alloc (.cells #[.int .i64 c.A, .int .i64 c.B, .int .i64 c.C] 39)) (w.heap.size + 1 + 1 + 1) (by simp) #[.int .i64 0, .int .i64 0, .int .i64 0] 39 1)
    have qf2 := ((hb1.trans hb2).frozenEq (a := ⟨w.heap.size + 1 + 1 + 1, 2, none⟩) (by simp)).trans (frozen_box_at (((w.alloc (.cells #[.int .i64 a.A, .int .i64 a.B, .int .i64 a.C] 39)).alloc (.cells #[.int .i64 b.A, .int .i64 b.B, .int .i64 b.C] 39)).alloc (.cells #[.int .i64 c.A, .int .i64 c.B, .int .i64 c.C] 39)) (w.heap.size + 1 + 1 + 1) (by simp) #[.int .i64 0, .int .i64 0, .int .i64 0] 39 2)
    go_wp2
    exact ret_is (by simp [results, Tryz.results99, go_sem, *]) rfl (by repeat (first | exact Ext.refl _ | assumption | apply Ext.alloc | apply Ext.drewN | apply Ext.drew | (refine Ext.setCell ?_ (by first | (simp; done) | (simp; omega) | omega) _) | (refine Ext.trans ?_ (by assumption))))
  rcases (Bool.eq_false_or_eq_true (vecB c)).symm with h3 | h3
  all_goals rw [h3] at hC HD ⊢
  · simp only [Bool.true_and, Bool.false_eq_true, if_false] at HD ⊢
    rw [HD.out]
    go_enter Tryz.func99, Tryz.ntmps99
    go_wp2_with fail
    refine (hA.out _).mono ?_
    rintro e w1 ⟨rfl, hb1⟩
    obtain ⟨hcr1, hfr1, hz1⟩ := hb1.rules
    (try simp at hz1)
    have hy1_w0 : w.heap.size < w1.heap.size := (by omega)
    have hy1_w1 : w.heap.size + 1 < w1.heap.size := (by omega)
    have hy1_w2 : w.heap.size + 1 + 1 < w1.heap.size := (by omega)
    have hy1_w3 : w.heap.size + 1 + 1 + 1 < w1.heap.size := (by omega)
    go_wp2_with fail
    refine (hB.out _).mono ?_
    rintro e w2 ⟨rfl, hb2⟩
    obtain ⟨hcr2, hfr2, hz2⟩ := hb2.rules
    (try simp at hz2)
    have hy2_w0 : w.heap.size < w2.heap.size := (by omega)
    have hy2_w1 : w.heap.size + 1 < w2.heap.size := (by omega)
    have hy2_w2 : w.heap.size + 1 + 1 < w2.heap.size := (by omega)
    have hy2_w3 : w.heap.size + 1 + 1 + 1 < w2.heap.size := (by omega)
    go_wp2_with fail
    refine (hC.out _).mono ?_
    rintro e w3 ⟨rfl, hb3⟩
    obtain ⟨hcr3, hfr3, hz3⟩ := hb3.rules
    (try simp at hz3)
    have hy3_w0 : w.heap.size < w3.heap.size := (by omega)
    have hy3_w1 : w.heap.size + 1 < w3.heap.size := (by omega)
    have hy3_w2 : w.heap.size + 1 + 1 < w3.heap.size := (by omega)
    have hy3_w3 : w.heap.size + 1 + 1 + 1 < w3.heap.size := (by omega)
    have q0 := ((hb1.trans hb2).trans hb3).cell (cell_box_at (((w.alloc (.cells #[.int .i64 a.A, .int .i64 a.B, .int .i64 a.C] 39)).alloc (.cells #[.int .i64 b.A, .int .i64 b.B, .int .i64 b.C] 39)).alloc (.cells #[.int .i64 c.A, .int .i64 c.B, .int .i64 c.C] 39)) (w.heap.size + 1 + 1 + 1) (by simp) [.int .i64 0, .int .i64 0, .int .i64 0] 39 0 _ rfl)
    have q1 := ((hb1.trans hb2).trans hb3).cell (cell_box_at (((w.alloc (.cells #[.int .i64 a.A, .int .i64 a.B, .int .i64 a.C] 39)).alloc (.cells #[.int .i64 b.A, .int .i64 b.B, .int .i64 b.C] 39)).alloc (.cells #[.int .i64 c.A, .int .i64 c.B, .int .i64 c.C] 39)) (w.heap.size + 1 + 1 + 1) (by simp) [.int .i64 0, .int .i64 0, .int .i64 0] 39 1 _ rfl)
    have q2 := ((hb1.trans hb2).trans hb3).cell (cell_box_at (((w.alloc (.cells #[.int .i64 a.A, .int .i64 a.B, .int .i64 a.C] 39)).alloc (.cells #[.int .i64 b.A, .int .i64 b.B, .int .i64 b.C] 39)).alloc (.cells #[.int .i64 c.A, .int .i64 c.B, .int .i64 c.C] 39)) (w.heap.size + 1 + 1 + 1) (by simp) [.int .i64 0, .int .i64 0, .int .i64 0] 39 2 _ rfl)
    have qf0 := (((hb1.trans hb2).trans hb3).frozenEq (a := ⟨w.heap.size + 1 + 1 + 1, 0, none⟩) (by simp)).trans (frozen_box_at (((w.alloc (.cells #[.int .i64 a.A, .int .i64 a.B, .int .i64 a.C] 39)).alloc (.cells #[.int .i64 b.A, .int .i64 b.B, .int .i64 b.C] 39)).alloc (.cells #[.int .i64 c.A, .int .i64 c.B, .int .i64 c.C] 39)) (w.heap.size + 1 + 1 + 1) (by simp) #[.int .i64 0, .int .i64 0, .int .i64 0] 39 0)
    have qf1 := (((hb1.trans hb2).trans hb3).frozenEq (a := ⟨w.heap.size + 1 + 1 + 1, 1, none⟩) (by simp)).trans (frozen_box_at (((w.alloc (.cells #[.int .i64 a.A, .int .i64 a.B, .int .i64 a.C] 39)).alloc (.cells #[.int .i64 b.A, .int .i64 b.B, .int .i64 b.C] 39)).alloc (.cells #[.int .i64 c.A, .int .i64 c.B, .int .i64 c.C] 39)) (w.heap.size + 1 + 1 + 1) (by simp) #[.int .i64 0, .int .i64 0, .int .i64 0] 39 1)
    have qf2 := (((hb1.trans hb2).trans hb3).frozenEq (a := ⟨w.heap.size + 1 + 1 + 1, 2, none⟩) (by simp)).trans (frozen_box_at (((w.alloc (.cells #[.int .i64 a.A, .int .i64 a.B, .int .i64 a.C] 39)).alloc (.cells #[.int .i64 b.A, .int .i64 b.B, .int .i64 b.C] 39)).alloc (.cells #[.int .i64 c.A, .int .i64 c.B, .int .i64 c.C] 39)) (w.heap.size + 1 + 1 + 1) (by simp) #[.int .i64 0, .int .i64 0, .int .i64 0] 39 2)
    go_wp2
    exact ret_is (by simp [results, Tryz.results99, go_sem, *]) rfl (by repeat (first | exact Ext.refl _ | assumption | apply Ext.alloc | apply Ext.drewN | apply Ext.drew | (refine Ext.setCell ?_ (by first | (simp; done) | (simp; omega) | omega) _) | (refine Ext.trans ?_ (by assumption))))
  · simp only [Bool.true_and, if_true] at HD ⊢
    rw [HD.out]
    go_enter Tryz.func99, Tryz.ntmps99
    go_wp2_with fail
    refine (hA.out _).mono ?_
    rintro e w1 ⟨rfl, hb1⟩
    obtain ⟨hcr1, hfr1, hz1⟩ := hb1.rules
    (try simp at hz1)
    have hy1_w0 : w.heap.size < w1.heap.size := (by omega)
    have hy1_w1 : w.heap.size + 1 < w1.heap.size := (by omega)
    have hy1_w2 : w.heap.size + 1 + 1 < w1.heap.size := (by omega)
    have hy1_w3 : w.heap.size + 1 + 1 + 1 < w1.heap.size := (by omega)
    go_wp2_with fail
    refine (hB.out _).mono ?_
    rintro e w2 ⟨rfl, hb2⟩
    obtain ⟨hcr2, hfr2, hz2⟩ := hb2.rules
    (try simp at hz2)
    have hy2_w0 : w.heap.size < w2.heap.size := (by omega)
    have hy2_w1 : w.heap.size + 1 < w2.heap.size := (by omega)
    have hy2_w2 : w.heap.size + 1 + 1 < w2.heap.size := (by omega)
    have hy2_w3 : w.heap.size + 1 + 1 + 1 < w2.heap.size := (by omega)
    go_wp2_with fail
    refine (hC.out _).mono ?_
    rintro e w3 ⟨rfl, hb3⟩
    obtain ⟨hcr3, hfr3, hz3⟩ := hb3.rules
    (try simp at hz3)
    have hy3_w0 : w.heap.size < w3.heap.size := (by omega)
    have hy3_w1 : w.heap.size + 1 < w3.heap.size := (by omega)
    have hy3_w2 : w.heap.size + 1 + 1 < w3.heap.size := (by omega)
    have hy3_w3 : w.heap.size + 1 + 1 + 1 < w3.heap.size := (by omega)
    have p0 := (((((Ext.refl _).alloc _).trans hb1).trans hb2).trans hb3).cell (cell_box_at ((w.alloc (.cells #[.int .i64 a.A, .int .i64 a.B, .int .i64 a.C] 39)).alloc (.cells #[.int .i64 b.A, .int .i64 b.B, .int .i64 b.C] 39)) (w.heap.size + 1 + 1) (by simp) [.int .i64 c.A, .int .i64 c.B, .int .i64 c.C] 39 0 _ rfl)
    have p1 := (((((Ext.refl _).alloc _).trans hb1).trans hb2).trans hb3).cell (cell_box_at ((w.alloc (.cells #[.int .i64 a.A, .int .i64 a.B, .int .i64 a.C] 39)).alloc (.cells #[.int .i64 b.A, .int .i64 b.B, .int .i64 b.C] 39)) (w.heap.size + 1 + 1) (by simp) [.int .i64 c.A, .int .i64 c.B, .int .i64 c.C] 39 1 _ rfl)
    have p2 := (((((Ext.refl _).alloc _).trans hb1).trans hb2).trans hb3).cell (cell_box_at ((w.alloc (.cells #[.int .i64 a.A, .int .i64 a.B, .int .i64 a.C] 39)).alloc (.cells #[.int .i64 b.A, .int .i64 b.B, .int .i64 b.C] 39)) (w.heap.size + 1 + 1) (by simp) [.int .i64 c.A, .int .i64 c.B, .int .i64 c.C] 39 2 _ rfl)
    have pf0 := ((((((Ext.refl _).alloc _).trans hb1).trans hb2).trans hb3).frozenEq (a := ⟨w.heap.size + 1 + 1, 0, none⟩) (by simp)).trans (frozen_box_at ((w.alloc (.cells #[.int .i64 a.A, .int .i64 a.B, .int .i64 a.C] 39)).alloc (.cells #[.int .i64 b.A, .int .i64 b.B, .int .i64 b.C] 39)) (w.heap.size + 1 + 1) (by simp) #[.int .i64 c.A, .int .i64 c.B, .int .i64 c.C] 39 0)
    have pf1 := ((((((Ext.refl _).alloc _).trans hb1).trans hb2).trans hb3).frozenEq (a := ⟨w.heap.size + 1 + 1, 1, none⟩) (by simp)).trans (frozen_box_at ((w.alloc (.cells #[.int .i64 a.A, .int .i64 a.B, .int .i64 a.C] 39)).alloc (.cells #[.int .i64 b.A, .int .i64 b.B, .int .i64 b.C] 39)) (w.heap.size + 1 + 1) (by simp) #[.int .i64 c.A, .int .i64 c.B, .int .i64 c.C] 39 1)
    have pf2 := ((((((Ext.refl _).alloc _).trans hb1).trans hb2).trans hb3).frozenEq (a := ⟨w.heap.size + 1 + 1, 2, none⟩) (by simp)).trans (frozen_box_at ((w.alloc (.cells #[.int .i64 a.A, .int .i64 a.B, .int .i64 a.C] 39)).alloc (.cells #[.int .i64 b.A, .int .i64 b.B, .int .i64 b.C] 39)) (w.heap.size + 1 + 1) (by simp) #[.int .i64 c.A, .int .i64 c.B, .int .i64 c.C] 39 2)
    have q0 := ((hb1.trans hb2).trans hb3).cell (cell_box_at (((w.alloc (.cells #[.int .i64 a.A, .int .i64 a.B, .int .i64 a.C] 39)).alloc (.cells #[.int .i64 b.A, .int .i64 b.B, .int .i64 b.C] 39)).alloc (.cells #[.int .i64 c.A, .int .i64 c.B, .int .i64 c.C] 39)) (w.heap.size + 1 + 1 + 1) (by simp) [.int .i64 0, .int .i64 0, .int .i64 0] 39 0 _ rfl)
    have q1 := ((hb1.trans hb2).trans hb3).cell (cell_box_at (((w.alloc (.cells #[.int .i64 a.A, .int .i64 a.B, .int .i64 a.C] 39)).alloc (.cells #[.int .i64 b.A, .int .i64 b.B, .int .i64 b.C] 39)).alloc (.cells #[.int .i64 c.A, .int .i64 c.B, .int .i64 c.C] 39)) (w.heap.size + 1 + 1 + 1) (by simp) [.int .i64 0, .int .i64 0, .int .i64 0] 39 1 _ rfl)
    have q2 := ((hb1.trans hb2).trans hb3).cell (cell_box_at (((w.alloc (.cells #[.int .i64 a.A, .int .i64 a.B, .int .i64 a.C] 39)).alloc (.cells #[.int .i64 b.A, .int .i64 b.B, .int .i64 b.C] 39)).alloc (.cells #[.int .i64 c.A, .int .i64 c.B, .int .i64 c.C] 39)) (w.heap.size + 1 + 1 + 1) (by simp) [.int .i64 0, .int .i64 0, .int .i64 0] 39 2 _ rfl)
    have qf0 := (((hb1.trans hb2).trans hb3).frozenEq (a := ⟨w.heap.size + 1 + 1 + 1, 0, none⟩) (by simp)).trans (frozen_box_at (((w.alloc (.cells #[.int .i64 a.A, .int .i64 a.B, .int .i64 a.C] 39)).alloc (.cells #[.int .i64 b.A, .int .i64 b.B, .int .i64 b.C] 39)).alloc (.cells #[.int .i64 c.A, .int .i64 c.B, .int .i64 c.C] 39)) (w.heap.size + 1 + 1 + 1) (by simp) #[.int .i64 0, .int .i64 0, .int .i64 0] 39 0)
    have qf1 := (((hb1.trans hb2).trans hb3).frozenEq (a := ⟨w.heap.size + 1 + 1 + 1, 1, none⟩) (by simp)).trans (frozen_box_at (((w.alloc (.cells #[.int .i64 a.A, .int .i64 a.B, .int .i64 a.C] 39)).alloc (.cells #[.int .i64 b.A, .int .i64 b.B, .int .i64 b.C] 39)).alloc (.cells #[.int .i64 c.A, .int .i64 c.B, .int .i64 c.C] 39)) (w.heap.size + 1 + 1 + 1) (by simp) #[.int .i64 0, .int .i64 0, .int .i64 0] 39 1)
    have qf2 := (((hb1.trans hb2).trans hb3).frozenEq (a := ⟨w.heap.size + 1 + 1 + 1, 2, none⟩) (by simp)).trans (frozen_box_at (((w.alloc (.cells #[.int .i64 a.A, .int .i64 a.B, .int .i64 a.C] 39)).alloc (.cells #[.int .i64 b.A, .int .i64 b.B, .int .i64 b.C] 39)).alloc (.cells #[.int .i64 c.A, .int .i64 c.B, .int .i64 c.C] 39)) (w.heap.size + 1 + 1 + 1) (by simp) #[.int .i64 0, .int .i64 0, .int .i64 0] 39 2)
    go_wp2
    exact ret_is (by simp [results, Tryz.results99, go_sem, *]) rfl (by repeat (first | exact Ext.refl _ | assumption | apply Ext.alloc | apply Ext.drewN | apply Ext.drew | (refine Ext.setCell ?_ (by first | (simp; done) | (simp; omega) | omega) _) | (refine Ext.trans ?_ (by assumption))))
end Go.Proofs.YtfcffcgdbmkfgaaGreat
