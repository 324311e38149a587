/- Contracts: profiles, what is free at a time; what is taken; the given way. -/
import Derived.Test.YtgmlcohffdeplaaGreatOver
import Derived.Test.YtgmlcohffdeplaaGreatStateLaw
import Derived.Test.YtgmlcohffdeplaaGreatGRow
namespace Go.Proofs.YtgmlcohffdeplaaGreat
open Go.RowKit
set_option linter.unusedVariables false
set_option maxHeartbeats 4000000 in
set_option maxRecDepth 10000 in
theorem free_c (xs : List Pt) (t : Int) (A : Option Addr) (n c : Nat) (w : World) (h : SlAt RPt 4 w A n xs) (hl : n ≤ maxLen) : Calls Tryz.prog 57 #[.agg #[.slice A n c], .int .i64 t] w (Ret w (.agg #[.int .i64 (freeAt xs t).A, .int .i64 (freeAt xs t).B, .int .i64 (freeAt xs t).C])) := by
  unfold maxLen at hl
  have HN := Lib.hid h.len
  have HM := Lib.hid (Flat.mono Pt.enc Pt.ok)
  have HF := Lib.hid (show freeAt xs t = freeAt xs t from rfl)
  have H0 := Lib.hid (show freeAt xs t = xs.foldl (stepF t) ⟨0, 0, 0⟩ from rfl)
  generalize freeAt xs t = r at *
  go_enter Tryz.func57, Tryz.ntmps57
  go_wp2
  go_loopw [12] (fun i wr => ∃ (k : Nat) (v : Vec), k ≤ n ∧ i = .int .i64 k ∧ Hid (r = (xs.drop k).foldl (stepF t) v) ∧ wr.cell? ⟨w.heap.size + 1 + 1, 0, none⟩ = some (.int .i64 v.A) ∧ wr.cell? ⟨w.heap.size + 1 + 1, 1, none⟩ = some (.int .i64 v.B) ∧ wr.cell? ⟨w.heap.size + 1 + 1, 2, none⟩ = some (.int .i64 v.C) ∧ wr.frozen? ⟨w.heap.size + 1 + 1, 0, none⟩ = false ∧ wr.frozen? ⟨w.heap.size + 1 + 1, 1, none⟩ = false ∧ wr.frozen? ⟨w.heap.size + 1 + 1, 2, none⟩ = false ∧ Ext ((w.alloc (.cells #[.slice A n c] 42)).alloc (.cells #[.int .i64 0, .int .i64 0, .int .i64 0] 59)) wr ∧ w.heap.size + 1 + 1 < wr.heap.size) (fun i _ => n - (intOf i).toNat)
  case atStart => exact ⟨0, ⟨0, 0, 0⟩, Nat.zero_le _, rfl, H0, (cell_box_at ((w.alloc (.cells #[.slice A n c] 42)).alloc (.cells #[.int .i64 0, .int .i64 0, .int .i64 0] 59)) (w.heap.size + 1 + 1) (by simp) [.int .i64 0, .int .i64 0, .int .i64 0] 59 0 _ rfl), (cell_box_at ((w.alloc (.cells #[.slice A n c] 42)).alloc (.cells #[.int .i64 0, .int .i64 0, .int .i64 0] 59)) (w.heap.size + 1 + 1) (by simp) [.int .i64 0, .int .i64 0, .int .i64 0] 59 1 _ rfl), (cell_box_at ((w.alloc (.cells #[.slice A n c] 42)).alloc (.cells #[.int .i64 0, .int .i64 0, .int .i64 0] 59)) (w.heap.size + 1 + 1) (by simp) [.int .i64 0, .int .i64 0, .int .i64 0] 59 2 _ rfl), (frozen_box_at _ _ (by simp) _ _ _), (frozen_box_at _ _ (by simp) _ _ _), (frozen_box_at _ _ (by simp) _ _ _), (by repeat (first | exact Ext.refl _ | assumption | apply Ext.alloc | apply Ext.drewN | apply Ext.drew | (refine Ext.setCell ?_ (by first | (simp; done) | (simp; omega) | omega) _) | (refine Ext.trans ?_ (by assumption)))), by simp⟩
  case round =>
    obtain ⟨k, v, hk, rfl, HR, c0, c1, c2, f0, f1, f2, hbr, hzr⟩ := hrel
    have hb : Ext w wr := (((Ext.refl w).alloc _).alloc _).trans hbr
    by_cases hlt : k < n
    · obtain ⟨b, o, x, cs, rfl, hbw, hx, _, hc, rfl, _⟩ := (h.ext HM.out hb).at_ hlt
      have g0 := hc 0 _ rfl
      have g1 := hc 1 _ rfl
      have g2 := hc 2 _ rfl
      have g3 := hc 3 _ rfl
      simp only [Nat.add_zero] at g0
      have HS := Lib.hid (show (xs.drop k).foldl (stepF t) v = (xs.drop (k + 1)).foldl (stepF t) (if x.At ≤ t then x.Free else v) by rw [drop_cons hx, List.foldl_cons]; rfl)
      clear hc hx h
      by_cases h1 : x.At ≤ t
      · rw [if_pos h1] at HS
        go_wp2
        go_roundw
        case rel => exact ⟨k + 1, x.Free, by omega, by go_num, Lib.hid (HR.out.trans HS.out), by go_simp, by go_simp, by go_simp, by go_simp, by go_simp, by go_simp, (by repeat (first | exact Ext.refl _ | assumption | apply Ext.alloc | apply Ext.drewN | apply Ext.drew | (refine Ext.setCell ?_ (by first | (simp; done) | (simp; omega) | omega) _) | (refine Ext.trans ?_ (by assumption)))), by simp; omega⟩
        case measure => simp [intOf]; omega
      · rw [if_neg h1] at HS
        go_wp2
        go_roundw
        case rel => exact ⟨k + 1, v, by omega, by go_num, Lib.hid (HR.out.trans HS.out), by go_simp, by go_simp, by go_simp, by go_simp, by go_simp, by go_simp, (by repeat (first | exact Ext.refl _ | assumption | apply Ext.alloc | apply Ext.drewN | apply Ext.drew | (refine Ext.setCell ?_ (by first | (simp; done) | (simp; omega) | omega) _) | (refine Ext.trans ?_ (by assumption)))), by simp; omega⟩
        case measure => simp [intOf]; omega
    · have HZ := Lib.hid (show r = v by rw [HR.out, List.drop_eq_nil_of_le (by have := HN.out; omega)]; rfl)
      have q0 := hbr.cell (cell_box_at (w.alloc (.cells #[.slice A n c] 42)) (w.heap.size + 1) (by simp) [.int .i64 0, .int .i64 0, .int .i64 0] 59 0 _ rfl)
      have q1 := hbr.cell (cell_box_at (w.alloc (.cells #[.slice A n c] 42)) (w.heap.size + 1) (by simp) [.int .i64 0, .int .i64 0, .int .i64 0] 59 1 _ rfl)
      have q2 := hbr.cell (cell_box_at (w.alloc (.cells #[.slice A n c] 42)) (w.heap.size + 1) (by simp) [.int .i64 0, .int .i64 0, .int .i64 0] 59 2 _ rfl)
      have p0 := (hbr.frozenEq (a := ⟨w.heap.size + 1, 0, none⟩) (by simp)).trans (by simp : _ = false)
      have p1 := (hbr.frozenEq (a := ⟨w.heap.size + 1, 1, none⟩) (by simp)).trans (by simp : _ = false)
      have p2 := (hbr.frozenEq (a := ⟨w.heap.size + 1, 2, none⟩) (by simp)).trans (by simp : _ = false)
      clear h
      go_wp2
      rw [HZ.out]
      exact ret_is (by simp [results, Tryz.results57, go_sem, *]) rfl (by repeat (first | exact Ext.refl _ | assumption | apply Ext.alloc | apply Ext.drewN | apply Ext.drew | (refine Ext.setCell ?_ (by first | (simp; done) | (simp; omega) | omega) _) | (refine Ext.trans ?_ (by assumption))))
theorem gbox1 (w : World) (u : Value) (e : TypeId) : (w.alloc (.cells #[u] e)).ownsRow w.heap.size e 1 (.slice (some ⟨w.heap.size, 0, none⟩) 1 1) 1 [u] :=
  World.ownsRow_lit w #[u] 1 (Nat.le_refl _) (by unfold maxLen; omega) (by simp)
theorem gbox2 (w : World) (a b : Value) (e : TypeId) : (w.alloc (.cells #[a, b] e)).ownsRow w.heap.size e 2 (.slice (some ⟨w.heap.size, 0, none⟩) 1 1) 1 [a, b] :=
  World.ownsRow_lit w #[a, b] 1 (Nat.le_refl _) (by unfold maxLen; omega) (by simp)
theorem gbox3 (w : World) (a b c : Value) (e : TypeId) : (w.alloc (.cells #[a, b, c] e)).ownsRow w.heap.size e 3 (.slice (some ⟨w.heap.size, 0, none⟩) 1 1) 1 [a, b, c] :=
  World.ownsRow_lit w #[a, b, c] 1 (Nat.le_refl _) (by unfold maxLen; omega) (by simp)
theorem gbox (w : World) (cs : List Value) (e : TypeId) (sz : Nat) (h : cs.length = sz) : (w.alloc (.cells cs.toArray e)).ownsRow w.heap.size e sz (.slice (some ⟨w.heap.size, 0, none⟩) 1 1) 1 cs :=
  World.ownsRow_lit w cs.toArray 1 (Nat.le_refl _) (by unfold maxLen; omega) (by simp [h])
theorem gcell {w : World} {base b sz : Nat} {e : TypeId} {cs : List Value} (h : w.ownsRow base e sz (.slice (some ⟨b, 0, none⟩) 1 1) 1 cs) (j : Nat) (u : Value) (hj : cs[j]? = some u) : w.cell? ⟨b, j, none⟩ = some u := by
  rw [h.cellAt j (by have := (List.getElem?_eq_some_iff.1 hj).1; rw [h.1] at this; exact this)]; exact hj
theorem gcells1 {w : World} {base b : Nat} {e : TypeId} {u0 : Value} (h : w.ownsRow base e 1 (.slice (some ⟨b, 0, none⟩) 1 1) 1 [u0]) : w.cell? ⟨b, 0, none⟩ = some u0 ∧ w.frozen? ⟨b, 0, none⟩ = false ∧ b < w.heap.size :=
  ⟨gcell h 0 _ rfl, h.frozenAt 0, (h.lt b rfl).2⟩
theorem gcells2 {w : World} {base b : Nat} {e : TypeId} {u0 u1 : Value} (h : w.ownsRow base e 2 (.slice (some ⟨b, 0, none⟩) 1 1) 1 [u0, u1]) : w.cell? ⟨b, 0, none⟩ = some u0 ∧ w.cell? ⟨b, 1, none⟩ = some u1 ∧ w.frozen? ⟨b, 0, none⟩ = false ∧ w.frozen? ⟨b, 1, none⟩ = false ∧ b < w.heap.size :=
  ⟨gcell h 0 _ rfl, gcell h 1 _ rfl, h.frozenAt 0, h.frozenAt 1, (h.lt b rfl).2⟩
theorem gcells3 {w : World} {base b : Nat} {e : TypeId} {u0 u1 u2 : Value} (h : w.ownsRow base e 3 (.slice (some ⟨b, 0, none⟩) 1 1) 1 [u0, u1, u2]) : w.cell? ⟨b, 0, none⟩ = some u0 ∧ w.cell? ⟨b, 1, none⟩ = some u1 ∧ w.cell? ⟨b, 2, none⟩ = some u2 ∧ w.frozen? ⟨b, 0, none⟩ = false ∧ w.frozen? ⟨b, 1, none⟩ = false ∧ w.frozen? ⟨b, 2, none⟩ = false ∧ b < w.heap.size :=
  ⟨gcell h 0 _ rfl, gcell h 1 _ rfl, gcell h 2 _ rfl, h.frozenAt 0, h.frozenAt 1, h.frozenAt 2, (h.lt b rfl).2⟩
def validV (a b c : Vec) : Vec := if (vecB a && vecB b && vecB c) = true then c else ⟨0, 0, 0⟩
end Go.Proofs.YtgmlcohffdeplaaGreat
