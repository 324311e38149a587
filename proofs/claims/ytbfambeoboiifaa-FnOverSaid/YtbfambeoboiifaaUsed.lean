/- Contracts over profiles: what is free and what is used over a time. -/
import Derived.Test.YtbfambeoboiifaaSum2
namespace Go.Proofs.Ytbfambeoboiifaa
open Go.RowKit
set_option linter.unusedVariables false
set_option maxHeartbeats 4000000 in
set_option maxRecDepth 10000 in
theorem sUsedOver_c (xs : List Pt) (v : Vec) (fr to : Int) (A : Option Addr) (n c : Nat) (w : World) (h : SlAt RPt 4 w A n xs) (hl : n ≤ maxLen) : Calls Try.prog 20 #[.agg #[.slice A n c], .agg #[.int .i64 v.A, .int .i64 v.B, .int .i64 v.C], .int .i64 fr, .int .i64 to] w (Ret w (.tuple #[.agg #[.int .i64 (usedU xs v fr to).A, .int .i64 (usedU xs v fr to).B, .int .i64 (usedU xs v fr to).C], .bool (usedB xs v fr to)])) := by
  have HM := Lib.hid (Flat.mono Pt.enc Pt.ok)
  have hS := Lib.hid (fun (u : World) (e : Ext w u) => l16Sum_true xs fr to v A n c u (h.ext HM.out e) hl)
  generalize usedU xs v fr to = r at *
  generalize usedB xs v fr to = rb at *
  go_enter Try.func20, Try.ntmps20
  go_wp2_with fail
  refine (hS.out _ (by repeat (first | exact Ext.refl _ | assumption | apply Ext.alloc | apply Ext.drewN | apply Ext.drew | (refine Ext.setCell ?_ (by first | (simp; done) | (simp; omega) | omega) _) | (refine Ext.trans ?_ (by assumption))))).mono ?_
  rintro e w1 ⟨rfl, hb1⟩
  obtain ⟨hcr1, hfr1, hz1⟩ := hb1.rules
  (try simp at hz1)
  have hy1_w0 : w.heap.size < w1.heap.size := (by omega)
  have hy1_w1 : w.heap.size + 1 < w1.heap.size := (by omega)
  have hy1_w2 : w.heap.size + 1 + 1 < w1.heap.size := (by omega)
  have q0 := (hb1).cell (cell_box_at ((w.alloc (.cells #[.slice A n c] 40)).alloc (.cells #[.int .i64 v.A, .int .i64 v.B, .int .i64 v.C] 42)) (w.heap.size + 1 + 1) (by simp) [.int .i64 0, .int .i64 0, .int .i64 0] 45 0 _ rfl)
  have q1 := (hb1).cell (cell_box_at ((w.alloc (.cells #[.slice A n c] 40)).alloc (.cells #[.int .i64 v.A, .int .i64 v.B, .int .i64 v.C] 42)) (w.heap.size + 1 + 1) (by simp) [.int .i64 0, .int .i64 0, .int .i64 0] 45 1 _ rfl)
  have q2 := (hb1).cell (cell_box_at ((w.alloc (.cells #[.slice A n c] 40)).alloc (.cells #[.int .i64 v.A, .int .i64 v.B, .int .i64 v.C] 42)) (w.heap.size + 1 + 1) (by simp) [.int .i64 0, .int .i64 0, .int .i64 0] 45 2 _ rfl)
  have qf0 := ((hb1).frozenEq (a := ⟨w.heap.size + 1 + 1, 0, none⟩) (by simp)).trans (frozen_box_at ((w.alloc (.cells #[.slice A n c] 40)).alloc (.cells #[.int .i64 v.A, .int .i64 v.B, .int .i64 v.C] 42)) (w.heap.size + 1 + 1) (by simp) #[.int .i64 0, .int .i64 0, .int .i64 0] 45 0)
  have qf1 := ((hb1).frozenEq (a := ⟨w.heap.size + 1 + 1, 1, none⟩) (by simp)).trans (frozen_box_at ((w.alloc (.cells #[.slice A n c] 40)).alloc (.cells #[.int .i64 v.A, .int .i64 v.B, .int .i64 v.C] 42)) (w.heap.size + 1 + 1) (by simp) #[.int .i64 0, .int .i64 0, .int .i64 0] 45 1)
  have qf2 := ((hb1).frozenEq (a := ⟨w.heap.size + 1 + 1, 2, none⟩) (by simp)).trans (frozen_box_at ((w.alloc (.cells #[.slice A n c] 40)).alloc (.cells #[.int .i64 v.A, .int .i64 v.B, .int .i64 v.C] 42)) (w.heap.size + 1 + 1) (by simp) #[.int .i64 0, .int .i64 0, .int .i64 0] 45 2)
  go_wp2
  exact ret_is (by simp [results, Try.results20, go_sem, *]) rfl (by repeat (first | exact Ext.refl _ | assumption | apply Ext.alloc | apply Ext.drewN | apply Ext.drew | (refine Ext.setCell ?_ (by first | (simp; done) | (simp; omega) | omega) _) | (refine Ext.trans ?_ (by assumption))))
theorem seg_free {l : List Pt} {k : Nat} {x : Pt} {fr to : Int} (hs : l.Pairwise (fun a b => a.At < b.At)) (hx : l[k]? = some x) (h1 : x.At < to) (h2 : ∀ y, l[k + 1]? = some y → fr < y.At) (ft : fr < to) : ∃ t, fr ≤ t ∧ t < to ∧ freeAt l t = x.Free := by
  refine ⟨max fr x.At, by omega, by omega, freeAt_at hs hx (by omega) (fun y hy => ?_)⟩
  have h3 := h2 y hy
  obtain ⟨i1, e1⟩ := List.getElem?_eq_some_iff.1 hx
  obtain ⟨i2, e2⟩ := List.getElem?_eq_some_iff.1 hy
  have := List.pairwise_iff_getElem.1 hs k (k + 1) i1 i2 (by omega)
  rw [e1, e2] at this; omega
def segTo (l : List Pt) (fr to : Int) (v : Vec) (k : Nat) : Prop := ∀ (j : Nat) (x : Pt), j < k → l[j]? = some x → x.At < to → (∀ y, l[j + 1]? = some y → fr < y.At) → fitsB x.Free v = true
theorem seg_next {l : List Pt} {fr to : Int} {v : Vec} {k : Nat} {x : Pt} (hk : l[k]? = some x) (h : segTo l fr to v k) (hn : x.At < to → (∀ y, l[k + 1]? = some y → fr < y.At) → fitsB x.Free v = true) : segTo l fr to v (k + 1) := by
  intro j x' hj hjx h3 h4
  rcases Nat.lt_or_ge j k with hh | hh
  · exact h j x' hh hjx h3 h4
  · have e : j = k := by omega
    subst e
    rw [hk] at hjx; injection hjx with e2; subst e2
    exact hn h3 h4
open Classical in
theorem seg_good {l : List Pt} {fr to : Int} {v : Vec} (hP : profB l = true) (hO : overB l fr to = true) (h0 : 0 ≤ fr) (h : segTo l fr to v l.length) : usedB l v fr to = true := by
  unfold usedB; rw [hO, Bool.true_and, decide_eq_true_iff]
  intro t h1 h2
  obtain ⟨_, _, ⟨x0, r, e, e0⟩, hs, _⟩ := profB_parts hP
  obtain ⟨k, a, hk, ha, hn⟩ := find_piece (ts := l.map Pt.At) (t := t) ⟨x0.At, r.map Pt.At, by rw [e]; rfl, by omega⟩
  rw [List.getElem?_map] at hk
  cases hx : l[k]? with
  | none => rw [hx] at hk; cases hk
  | some x =>
    rw [hx] at hk; injection hk with hk; subst hk
    have hy : ∀ y, l[k + 1]? = some y → t < y.At := fun y hy => hn y.At (by rw [List.getElem?_map, hy]; rfl)
    rw [freeAt_at hs hx ha hy]
    exact h k x (List.getElem?_eq_some_iff.1 hx).1 hx (by omega) (fun y hh => by have := hy y hh; omega)
theorem used_vec {l : List Pt} {v : Vec} {fr to : Int} (ft : fr < to) (h : vecB v = false) : usedB l v fr to = false :=
  used_bad (t := fr) (Int.le_refl _) ft (by unfold fitsB; rw [h]; simp)
set_option maxHeartbeats 4000000 in
set_option maxRecDepth 10000 in
theorem UsedOver_c (xs : List Pt) (v : Vec) (fr to : Int) (A : Option Addr) (n c : Nat) (w : World) (h : SlAt RPt 4 w A n xs) (hl : n ≤ maxLen) : Calls Try.prog 19 #[.agg #[.slice A n c], .agg #[.int .i64 v.A, .int .i64 v.B, .int .i64 v.C], .int .i64 fr, .int .i64 to] w (Ret w (.tuple #[.agg #[.int .i64 (usedU xs v fr to).A, .int .i64 (usedU xs v fr to).B, .int .i64 (usedU xs v fr to).C], .bool (usedB xs v fr to)])) := by
  have hl' := hl
  unfold maxLen at hl
  have HN := Lib.hid h.len
  have HM := Lib.hid (Flat.mono Pt.enc Pt.ok)
  have hA := Lib.hid (fun (u : World) (e : Ext w u) => FreeOver_c xs fr to A n c u (h.ext HM.out e) hl')
  have hV := Lib.hid (fun u : World => VecOk_c v u)
  rcases (Bool.eq_false_or_eq_true (overB xs fr to)).symm with hO | hO
  · have HB := used_over (v := v) hO
    rw [usedU_bad HB, HB]
    rw [overU_bad hO, hO] at hA
    go_enter Try.func19, Try.ntmps19
    go_wp2_with fail
    refine (hA.out _ (by repeat (first | exact Ext.refl _ | assumption | apply Ext.alloc | apply Ext.drewN | apply Ext.drew | (refine Ext.setCell ?_ (by first | (simp; done) | (simp; omega) | omega) _) | (refine Ext.trans ?_ (by assumption))))).mono ?_
    rintro e w1 ⟨rfl, hb1⟩
    obtain ⟨hcr1, hfr1, hz1⟩ := hb1.rules
    (try simp at hz1)
    have hy1_w0 : w.heap.size < w1.heap.size := (by omega)
    have hy1_w1 : w.heap.size + 1 < w1.heap.size := (by omega)
    have hy1_w2 : w.heap.size + 1 + 1 < w1.heap.size := (by omega)
    have q0 := (hb1).cell (cell_box_at ((w.alloc (.cells #[.slice A n c] 40)).alloc (.cells #[.int .i64 v.A, .int .i64 v.B, .int .i64 v.C] 42)) (w.heap.size + 1 + 1) (by simp) [.int .i64 0, .int .i64 0, .int .i64 0] 45 0 _ rfl)
    have q1 := (hb1).cell (cell_box_at ((w.alloc (.cells #[.slice A n c] 40)).alloc (.cells #[.int .i64 v.A, .int .i64 v.B, .int .i64 v.C] 42)) (w.heap.size + 1 + 1) (by simp) [.int .i64 0, .int .i64 0, .int .i64 0] 45 1 _ rfl)
    have q2 := (hb1).cell (cell_box_at ((w.alloc (.cells #[.slice A n c] 40)).alloc (.cells #[.int .i64 v.A, .int .i64 v.B, .int .i64 v.C] 42)) (w.heap.size + 1 + 1) (by simp) [.int .i64 0, .int .i64 0, .int .i64 0] 45 2 _ rfl)
    have qf0 := ((hb1).frozenEq (a := ⟨w.heap.size + 1 + 1, 0, none⟩) (by simp)).trans (frozen_box_at ((w.alloc (.cells #[.slice A n c] 40)).alloc (.cells #[.int .i64 v.A, .int .i64 v.B, .int .i64 v.C] 42)) (w.heap.size + 1 + 1) (by simp) #[.int .i64 0, .int .i64 0, .int .i64 0] 45 0)
    have qf1 := ((hb1).frozenEq (a := ⟨w.heap.size + 1 + 1, 1, none⟩) (by simp)).trans (frozen_box_at ((w.alloc (.cells #[.slice A n c] 40)).alloc (.cells #[.int .i64 v.A, .int .i64 v.B, .int .i64 v.C] 42)) (w.heap.size + 1 + 1) (by simp) #[.int .i64 0, .int .i64 0, .int .i64 0] 45 1)
    have qf2 := ((hb1).frozenEq (a := ⟨w.heap.size + 1 + 1, 2, none⟩) (by simp)).trans (frozen_box_at ((w.alloc (.cells #[.slice A n c] 40)).alloc (.cells #[.int .i64 v.A, .int .i64 v.B, .int .i64 v.C] 42)) (w.heap.size + 1 + 1) (by simp) #[.int .i64 0, .int .i64 0, .int .i64 0] 45 2)
    go_wp2
    exact ret_is (by simp [results, Try.results19, go_sem, *]) rfl (by repeat (first | exact Ext.refl _ | assumption | apply Ext.alloc | apply Ext.drewN | apply Ext.drew | (refine Ext.setCell ?_ (by first | (simp; done) | (simp; omega) | omega) _) | (refine Ext.trans ?_ (by assumption))))
  obtain ⟨hP, hSp⟩ := Bool.and_eq_true_iff.1 hO
  obtain ⟨⟨f0, f1⟩, ⟨t0, t1⟩, ft⟩ := spanB_iff.1 hSp
  rcases (Bool.eq_false_or_eq_true (vecB v)).symm with hv | hv
  · have HB := used_vec (l := xs) ft hv
    rw [usedU_bad HB, HB]
    rw [hO] at hA
    rw [hv] at hV
    generalize overU xs fr to = r at hA
    clear hO hP hSp hv HB
    go_enter Try.func19, Try.ntmps19
    go_wp2_with fail
    refine (hA.out _ (by repeat (first | exact Ext.refl _ | assumption | apply Ext.alloc | apply Ext.drewN | apply Ext.drew | (refine Ext.setCell ?_ (by first | (simp; done) | (simp; omega) | omega) _) | (refine Ext.trans ?_ (by assumption))))).mono ?_
    rintro e w1 ⟨rfl, hb1⟩
    obtain ⟨hcr1, hfr1, hz1⟩ := hb1.rules
    (try simp at hz1)
    have hy1_w0 : w.heap.size < w1.heap.size := (by omega)
    have hy1_w1 : w.heap.size + 1 < w1.heap.size := (by omega)
    have hy1_w2 : w.heap.size + 1 + 1 < w1.heap.size := (by omega)
    have y0 := (((Ext.refl _).alloc _).trans hb1).cell (cell_box_at (w.alloc (.cells #[.slice A n c] 40)) (w.heap.size + 1) (by simp) [.int .i64 v.A, .int .i64 v.B, .int .i64 v.C] 42 0 _ rfl)
    have y1 := (((Ext.refl _).alloc _).trans hb1).cell (cell_box_at (w.alloc (.cells #[.slice A n c] 40)) (w.heap.size + 1) (by simp) [.int .i64 v.A, .int .i64 v.B, .int .i64 v.C] 42 1 _ rfl)
    have y2 := (((Ext.refl _).alloc _).trans hb1).cell (cell_box_at (w.alloc (.cells #[.slice A n c] 40)) (w.heap.size + 1) (by simp) [.int .i64 v.A, .int .i64 v.B, .int .i64 v.C] 42 2 _ rfl)
    have yf0 := ((((Ext.refl _).alloc _).trans hb1).frozenEq (a := ⟨w.heap.size + 1, 0, none⟩) (by simp)).trans (frozen_box_at (w.alloc (.cells #[.slice A n c] 40)) (w.heap.size + 1) (by simp) #[.int .i64 v.A, .int .i64 v.B, .int .i64 v.C] 42 0)
    have yf1 := ((((Ext.refl _).alloc _).trans hb1).frozenEq (a := ⟨w.heap.size + 1, 1, none⟩) (by simp)).trans (frozen_box_at (w.alloc (.cells #[.slice A n c] 40)) (w.heap.size + 1) (by simp) #[.int .i64 v.A, .int .i64 v.B, .int .i64 v.C] 42 1)
    have yf2 := ((((Ext.refl _).alloc _).trans hb1).frozenEq (a := ⟨w.heap.size + 1, 2, none⟩) (by simp)).trans (frozen_box_at (w.alloc (.cells #[.slice A n c] 40)) (w.heap.size + 1) (by simp) #[.int .i64 v.A, .int .i64 v.B, .int .i64 v.C] 42 2)
    go_wp2_with fail
    refine (hV.out _).mono ?_
    rintro e w2 ⟨rfl, hb2⟩
    obtain ⟨hcr2, hfr2, hz2⟩ := hb2.rules
    (try simp at hz2)
    have hy2_w0 : w.heap.size < w2.heap.size := (by omega)
    have hy2_w1 : w.heap.size + 1 < w2.heap.size := (by omega)
    have hy2_w2 : w.heap.size + 1 + 1 < w2.heap.size := (by omega)
    have q0 := (hb1.trans (((Ext.refl _).alloc _).trans hb2)).cell (cell_box_at ((w.alloc (.cells #[.slice A n c] 40)).alloc (.cells #[.int .i64 v.A, .int .i64 v.B, .int .i64 v.C] 42)) (w.heap.size + 1 + 1) (by simp) [.int .i64 0, .int .i64 0, .int .i64 0] 45 0 _ rfl)
    have q1 := (hb1.trans (((Ext.refl _).alloc _).trans hb2)).cell (cell_box_at ((w.alloc (.cells #[.slice A n c] 40)).alloc (.cells #[.int .i64 v.A, .int .i64 v.B, .int .i64 v.C] 42)) (w.heap.size + 1 + 1) (by simp) [.int .i64 0, .int .i64 0, .int .i64 0] 45 1 _ rfl)
    have q2 := (hb1.trans (((Ext.refl _).alloc _).trans hb2)).cell (cell_box_at ((w.alloc (.cells #[.slice A n c] 40)).alloc (.cells #[.int .i64 v.A, .int .i64 v.B, .int .i64 v.C] 42)) (w.heap.size + 1 + 1) (by simp) [.int .i64 0, .int .i64 0, .int .i64 0] 45 2 _ rfl)
    have qf0 := ((hb1.trans (((Ext.refl _).alloc _).trans hb2)).frozenEq (a := ⟨w.heap.size + 1 + 1, 0, none⟩) (by simp)).trans (frozen_box_at ((w.alloc (.cells #[.slice A n c] 40)).alloc (.cells #[.int .i64 v.A, .int .i64 v.B, .int .i64 v.C] 42)) (w.heap.size + 1 + 1) (by simp) #[.int .i64 0, .int .i64 0, .int .i64 0] 45 0)
    have qf1 := ((hb1.trans (((Ext.refl _).alloc _).trans hb2)).frozenEq (a := ⟨w.heap.size + 1 + 1, 1, none⟩) (by simp)).trans (frozen_box_at ((w.alloc (.cells #[.slice A n c] 40)).alloc (.cells #[.int .i64 v.A, .int .i64 v.B, .int .i64 v.C] 42)) (w.heap.size + 1 + 1) (by simp) #[.int .i64 0, .int .i64 0, .int .i64 0] 45 1)
    have qf2 := ((hb1.trans (((Ext.refl _).alloc _).trans hb2)).frozenEq (a := ⟨w.heap.size + 1 + 1, 2, none⟩) (by simp)).trans (frozen_box_at ((w.alloc (.cells #[.slice A n c] 40)).alloc (.cells #[.int .i64 v.A, .int .i64 v.B, .int .i64 v.C] 42)) (w.heap.size + 1 + 1) (by simp) #[.int .i64 0, .int .i64 0, .int .i64 0] 45 2)
    go_wp2
    exact ret_is (by simp [results, Try.results19, go_sem, *]) rfl (by repeat (first | exact Ext.refl _ | assumption | apply Ext.alloc | apply Ext.drewN | apply Ext.drew | (refine Ext.setCell ?_ (by first | (simp; done) | (simp; omega) | omega) _) | (refine Ext.trans ?_ (by assumption))))
  obtain ⟨l1, l2, _, hsort, hall⟩ := profB_parts hP
  have HSORT := Lib.hid hsort
  have HBAD := Lib.hid (fun t h1 h2 hf => used_bad (l := xs) (v := v) (fr := fr) (to := to) (t := t) h1 h2 hf)
  have HGOOD := Lib.hid (seg_good (v := v) hP hO f0)
  have HUB := Lib.hid (usedU_bad (l := xs) (v := v) (fr := fr) (to := to))
  have HUG := Lib.hid (show usedB xs v fr to = true → usedU xs v fr to = ⟨(to - fr) * v.A - area Vec.A xs fr to, (to - fr) * v.B - area Vec.B xs fr to, (to - fr) * v.C - area Vec.C xs fr to⟩ from fun hu => by unfold usedU; rw [hu, if_pos rfl])
  have hoU : overU xs fr to = ⟨area Vec.A xs fr to, area Vec.B xs fr to, area Vec.C xs fr to⟩ := by unfold overU; rw [hO, if_pos rfl]
  have bA := area_bound (c := Vec.A) (l := xs) (a := fr) (b := to) (by omega) (fun t => comp_A _ (freeAt_in hall t))
  have bB := area_bound (c := Vec.B) (l := xs) (a := fr) (b := to) (by omega) (fun t => comp_B _ (freeAt_in hall t))
  have bC := area_bound (c := Vec.C) (l := xs) (a := fr) (b := to) (by omega) (fun t => comp_C _ (freeAt_in hall t))
  rw [hoU, hO] at hA
  have hv' := vecB_iff.1 hv
  rw [hv] at hV
  generalize area Vec.A xs fr to = aA at *
  generalize area Vec.B xs fr to = aB at *
  generalize area Vec.C xs fr to = aC at *
  generalize usedU xs v fr to = r at *
  generalize usedB xs v fr to = rb at *
  have m1 := mul_in (a := to - fr) (b := v.A) (by omega) (by omega) hv'.1.1 hv'.1.2
  have m2 := mul_in (a := to - fr) (b := v.B) (by omega) (by omega) hv'.2.1.1 hv'.2.1.2
  have m3 := mul_in (a := to - fr) (b := v.C) (by omega) (by omega) hv'.2.2.1 hv'.2.2.2
  have HW := Lib.hid (show (wrap64 ((to - fr) * v.A) = (to - fr) * v.A ∧ wrap64 ((to - fr) * v.A - aA) = (to - fr) * v.A - aA) ∧ (wrap64 ((to - fr) * v.B) = (to - fr) * v.B ∧ wrap64 ((to - fr) * v.B - aB) = (to - fr) * v.B - aB) ∧ (wrap64 ((to - fr) * v.C) = (to - fr) * v.C ∧ wrap64 ((to - fr) * v.C - aC) = (to - fr) * v.C - aC) from
    ⟨⟨IntWalk.wrap64_in _ ⟨by omega, by omega⟩, IntWalk.wrap64_in _ ⟨by omega, by omega⟩⟩, ⟨IntWalk.wrap64_in _ ⟨by omega, by omega⟩, IntWalk.wrap64_in _ ⟨by omega, by omega⟩⟩, ⟨IntWalk.wrap64_in _ ⟨by omega, by omega⟩, IntWalk.wrap64_in _ ⟨by omega, by omega⟩⟩⟩)
  clear hO hP hSp hv hsort hall hoU bA bB bC hv' m1 m2 m3
  go_enter Try.func19, Try.ntmps19
  go_wp2_with fail
  refine (hA.out _ (by repeat (first | exact Ext.refl _ | assumption | apply Ext.alloc | apply Ext.drewN | apply Ext.drew | (refine Ext.setCell ?_ (by first | (simp; done) | (simp; omega) | omega) _) | (refine Ext.trans ?_ (by assumption))))).mono ?_
  rintro e w1 ⟨rfl, hb1⟩
  obtain ⟨hcr1, hfr1, hz1⟩ := hb1.rules
  (try simp at hz1)
  have hy1_w0 : w.heap.size < w1.heap.size := (by omega)
  have hy1_w1 : w.heap.size + 1 < w1.heap.size := (by omega)
  have hy1_w2 : w.heap.size + 1 + 1 < w1.heap.size := (by omega)
  have y0 := (((Ext.refl _).alloc _).trans hb1).cell (cell_box_at (w.alloc (.cells #[.slice A n c] 40)) (w.heap.size + 1) (by simp) [.int .i64 v.A, .int .i64 v.B, .int .i64 v.C] 42 0 _ rfl)
  have y1 := (((Ext.refl _).alloc _).trans hb1).cell (cell_box_at (w.alloc (.cells #[.slice A n c] 40)) (w.heap.size + 1) (by simp) [.int .i64 v.A, .int .i64 v.B, .int .i64 v.C] 42 1 _ rfl)
  have y2 := (((Ext.refl _).alloc _).trans hb1).cell (cell_box_at (w.alloc (.cells #[.slice A n c] 40)) (w.heap.size + 1) (by simp) [.int .i64 v.A, .int .i64 v.B, .int .i64 v.C] 42 2 _ rfl)
  have yf0 := ((((Ext.refl _).alloc _).trans hb1).frozenEq (a := ⟨w.heap.size + 1, 0, none⟩) (by simp)).trans (frozen_box_at (w.alloc (.cells #[.slice A n c] 40)) (w.heap.size + 1) (by simp) #[.int .i64 v.A, .int .i64 v.B, .int .i64 v.C] 42 0)
  have yf1 := ((((Ext.refl _).alloc _).trans hb1).frozenEq (a := ⟨w.heap.size + 1, 1, none⟩) (by simp)).trans (frozen_box_at (w.alloc (.cells #[.slice A n c] 40)) (w.heap.size + 1) (by simp) #[.int .i64 v.A, .int .i64 v.B, .int .i64 v.C] 42 1)
  have yf2 := ((((Ext.refl _).alloc _).trans hb1).frozenEq (a := ⟨w.heap.size + 1, 2, none⟩) (by simp)).trans (frozen_box_at (w.alloc (.cells #[.slice A n c] 40)) (w.heap.size + 1) (by simp) #[.int .i64 v.A, .int .i64 v.B, .int .i64 v.C] 42 2)
  go_wp2_with fail
  refine (hV.out _).mono ?_
  rintro e w2 ⟨rfl, hb2⟩
  obtain ⟨hcr2, hfr2, hz2⟩ := hb2.rules
  (try simp at hz2)
  have hy2_w0 : w.heap.size < w2.heap.size := (by omega)
  have hy2_w1 : w.heap.size + 1 < w2.heap.size := (by omega)
  have hy2_w2 : w.heap.size + 1 + 1 < w2.heap.size := (by omega)
  have eF : Ext (w1.alloc (.cells #[.int .i64 aA, .int .i64 aB, .int .i64 aC] 45)) w2 := hb2
  have x0 := ((((Ext.refl _).alloc _).alloc _).trans (hb1.trans (((Ext.refl _).alloc _).trans hb2))).cell (cell_box_at w (w.heap.size) (by simp) [.slice A n c] 40 0 _ rfl)
  have xf0 := (((((Ext.refl _).alloc _).alloc _).trans (hb1.trans (((Ext.refl _).alloc _).trans hb2))).frozenEq (a := ⟨w.heap.size, 0, none⟩) (by simp)).trans (frozen_box_at w (w.heap.size) (by simp) #[.slice A n c] 40 0)
  clear hA hV y0 y1 y2 yf0 yf1 yf2
  go_wp2
  go_loopw [34] (fun i wr => ∃ (k : Nat), k ≤ n ∧ i = .int .i64 k ∧ Hid (segTo xs fr to v k) ∧ Ext w2 wr) (fun i _ => n - (intOf i).toNat)
  case atStart => exact ⟨0, Nat.zero_le _, rfl, Lib.hid (fun j x hj => by omega), Ext.refl _⟩
  case round =>
    obtain ⟨k, hk, rfl, HSEG, hbr⟩ := hrel
    have eW : Ext (((w.alloc (.cells #[.slice A n c] 40)).alloc (.cells #[.int .i64 v.A, .int .i64 v.B, .int .i64 v.C] 42)).alloc (.cells #[.int .i64 0, .int .i64 0, .int .i64 0] 45)) wr := hb1.trans (((Ext.refl _).alloc _).trans (hb2.trans hbr))
    have hb : Ext w wr := ((((Ext.refl w).alloc _).alloc _).alloc _).trans eW
    have hzw := eW.le
    simp at hzw
    have hyw : w.heap.size < wr.heap.size := by omega
    have hyw1 : w.heap.size + 1 < wr.heap.size := by omega
    have x0 := ((((Ext.refl _).alloc _).alloc _).trans eW).cell (cell_box_at w (w.heap.size) (by simp) [.slice A n c] 40 0 _ rfl)
    have xf0 := (((((Ext.refl _).alloc _).alloc _).trans eW).frozenEq (a := ⟨w.heap.size, 0, none⟩) (by simp)).trans (frozen_box_at w (w.heap.size) (by simp) #[.slice A n c] 40 0)
    have y0 := (((Ext.refl _).alloc _).trans eW).cell (cell_box_at (w.alloc (.cells #[.slice A n c] 40)) (w.heap.size + 1) (by simp) [.int .i64 v.A, .int .i64 v.B, .int .i64 v.C] 42 0 _ rfl)
    have y1 := (((Ext.refl _).alloc _).trans eW).cell (cell_box_at (w.alloc (.cells #[.slice A n c] 40)) (w.heap.size + 1) (by simp) [.int .i64 v.A, .int .i64 v.B, .int .i64 v.C] 42 1 _ rfl)
    have y2 := (((Ext.refl _).alloc _).trans eW).cell (cell_box_at (w.alloc (.cells #[.slice A n c] 40)) (w.heap.size + 1) (by simp) [.int .i64 v.A, .int .i64 v.B, .int .i64 v.C] 42 2 _ rfl)
    have yf0 := ((((Ext.refl _).alloc _).trans eW).frozenEq (a := ⟨w.heap.size + 1, 0, none⟩) (by simp)).trans (frozen_box_at (w.alloc (.cells #[.slice A n c] 40)) (w.heap.size + 1) (by simp) #[.int .i64 v.A, .int .i64 v.B, .int .i64 v.C] 42 0)
    have yf1 := ((((Ext.refl _).alloc _).trans eW).frozenEq (a := ⟨w.heap.size + 1, 1, none⟩) (by simp)).trans (frozen_box_at (w.alloc (.cells #[.slice A n c] 40)) (w.heap.size + 1) (by simp) #[.int .i64 v.A, .int .i64 v.B, .int .i64 v.C] 42 1)
    have yf2 := ((((Ext.refl _).alloc _).trans eW).frozenEq (a := ⟨w.heap.size + 1, 2, none⟩) (by simp)).trans (frozen_box_at (w.alloc (.cells #[.slice A n c] 40)) (w.heap.size + 1) (by simp) #[.int .i64 v.A, .int .i64 v.B, .int .i64 v.C] 42 2)
    by_cases hlt : k < n
    · obtain ⟨b, o, x, cs, rfl, hbw, hx, _, hc, rfl, _⟩ := (h.ext HM.out hb).at_ hlt
      have g0 := hc 0 _ rfl
      have g1 := hc 1 _ rfl
      have g2 := hc 2 _ rfl
      have g3 := hc 3 _ rfl
      simp only [Nat.add_zero] at g0
      have HX := Lib.hid hx
      have HF := Lib.hid (fun u : World => VecFits_c x.Free v u)
      by_cases g1 : x.At < to
      rotate_left
      · have HS2 := Lib.hid (seg_next hx HSEG.out (fun h3 _ => absurd h3 g1))
        clear hc hx h
        go_wp2
        go_roundw
        case rel => exact ⟨k + 1, by omega, by go_num, HS2, hbr.alloc _⟩
        case measure => simp [intOf]; omega
      by_cases hk1 : k + 1 < n
      · obtain ⟨b', o', y, cs', e, _, hy, _, hc', rfl, _⟩ := (h.ext HM.out hb).at_ hk1
        simp only [Option.some.injEq, Addr.mk.injEq, and_true] at e
        obtain ⟨rfl, rfl⟩ := e
        have d0 := hc' 0 _ rfl
        have d1 := hc' 1 _ rfl
        have d2 := hc' 2 _ rfl
        have d3 := hc' 3 _ rfl
        simp only [Nat.add_zero] at d0
        have hk2 : decide ((k : Int) + 1 = (n : Int)) = false := by rw [decide_eq_false_iff_not]; omega
        have hk3 : (((k : Int) + 1) == (n : Int)) = false := by rw [beq_eq_false_iff_ne]; omega
        by_cases g2 : fr < y.At
        rotate_left
        · have HS2 := Lib.hid (seg_next hx HSEG.out (fun _ h4 => absurd (h4 y hy) g2))
          clear hc hx h hc' hy
          go_wp2
          go_roundw
          case rel => exact ⟨k + 1, by omega, by go_num, HS2, hbr.alloc _⟩
          case measure => simp [intOf]; omega
        have HSG := Lib.hid (seg_free HSORT.out hx g1 (fun y' hy' => by rw [hy] at hy'; injection hy' with hy'; subst hy'; exact g2) ft)
        have HN2 := Lib.hid (fun hf => seg_next hx HSEG.out (fun _ _ => hf))
        clear hc hx h hc' hy
        rcases (Bool.eq_false_or_eq_true (fitsB x.Free v)).symm with g3 | g3
        · have HRB := Lib.hid (show rb = false by obtain ⟨t, h1, h2, h3⟩ := HSG.out; exact HBAD.out t h1 h2 (by rw [h3]; exact g3))
          have HRU := Lib.hid (HUB.out HRB.out)
          rw [g3] at HF
          clear g3
          rw [HRU.out, HRB.out]
          go_wp2_with fail
          refine (HF.out _).mono ?_
          rintro e w3 ⟨rfl, hb3⟩
          have q0 := (eW.trans (((Ext.refl _).alloc _).trans hb3)).cell (cell_box_at ((w.alloc (.cells #[.slice (some ⟨b, o, none⟩) n c] 40)).alloc (.cells #[.int .i64 v.A, .int .i64 v.B, .int .i64 v.C] 42)) (w.heap.size + 1 + 1) (by simp) [.int .i64 0, .int .i64 0, .int .i64 0] 45 0 _ rfl)
          have q1 := (eW.trans (((Ext.refl _).alloc _).trans hb3)).cell (cell_box_at ((w.alloc (.cells #[.slice (some ⟨b, o, none⟩) n c] 40)).alloc (.cells #[.int .i64 v.A, .int .i64 v.B, .int .i64 v.C] 42)) (w.heap.size + 1 + 1) (by simp) [.int .i64 0, .int .i64 0, .int .i64 0] 45 1 _ rfl)
          have q2 := (eW.trans (((Ext.refl _).alloc _).trans hb3)).cell (cell_box_at ((w.alloc (.cells #[.slice (some ⟨b, o, none⟩) n c] 40)).alloc (.cells #[.int .i64 v.A, .int .i64 v.B, .int .i64 v.C] 42)) (w.heap.size + 1 + 1) (by simp) [.int .i64 0, .int .i64 0, .int .i64 0] 45 2 _ rfl)
          have qf0 := ((eW.trans (((Ext.refl _).alloc _).trans hb3)).frozenEq (a := ⟨w.heap.size + 1 + 1, 0, none⟩) (by simp)).trans (frozen_box_at ((w.alloc (.cells #[.slice (some ⟨b, o, none⟩) n c] 40)).alloc (.cells #[.int .i64 v.A, .int .i64 v.B, .int .i64 v.C] 42)) (w.heap.size + 1 + 1) (by simp) #[.int .i64 0, .int .i64 0, .int .i64 0] 45 0)
          have qf1 := ((eW.trans (((Ext.refl _).alloc _).trans hb3)).frozenEq (a := ⟨w.heap.size + 1 + 1, 1, none⟩) (by simp)).trans (frozen_box_at ((w.alloc (.cells #[.slice (some ⟨b, o, none⟩) n c] 40)).alloc (.cells #[.int .i64 v.A, .int .i64 v.B, .int .i64 v.C] 42)) (w.heap.size + 1 + 1) (by simp) #[.int .i64 0, .int .i64 0, .int .i64 0] 45 1)
          have qf2 := ((eW.trans (((Ext.refl _).alloc _).trans hb3)).frozenEq (a := ⟨w.heap.size + 1 + 1, 2, none⟩) (by simp)).trans (frozen_box_at ((w.alloc (.cells #[.slice (some ⟨b, o, none⟩) n c] 40)).alloc (.cells #[.int .i64 v.A, .int .i64 v.B, .int .i64 v.C] 42)) (w.heap.size + 1 + 1) (by simp) #[.int .i64 0, .int .i64 0, .int .i64 0] 45 2)
          have hz3 := hb3.le
          simp at hz3
          have hyz : w.heap.size + 1 + 1 < w3.heap.size := by omega
          clear x0 xf0 y0 y1 y2 yf0 yf1 yf2
          go_wp2
          exact ret_is (by simp [results, Try.results19, go_sem, *]) rfl (by repeat (first | exact Ext.refl _ | assumption | apply Ext.alloc | apply Ext.drewN | apply Ext.drew | (refine Ext.setCell ?_ (by first | (simp; done) | (simp; omega) | omega) _) | (refine Ext.trans ?_ (by assumption))))
        · have HS2 := Lib.hid (HN2.out g3)
          rw [g3] at HF
          clear g3
          go_wp2_with fail
          refine (HF.out _).mono ?_
          rintro e w3 ⟨rfl, hb3⟩
          clear x0 xf0 y0 y1 y2 yf0 yf1 yf2
          go_wp2
          go_roundw
          case rel => exact ⟨k + 1, by omega, by go_num, HS2, hbr.trans (((Ext.refl _).alloc _).trans hb3)⟩
          case measure => simp [intOf]; omega
      · have hk2 : decide ((k : Int) + 1 = (n : Int)) = true := by rw [decide_eq_true_iff]; omega
        have hk3 : (((k : Int) + 1) == (n : Int)) = true := by rw [beq_iff_eq]; omega
        have HSG := Lib.hid (seg_free HSORT.out hx g1 (fun y' hy' => by have := (List.getElem?_eq_some_iff.1 hy').1; rw [HN.out] at this; omega) ft)
        have HN2 := Lib.hid (fun hf => seg_next hx HSEG.out (fun _ _ => hf))
        clear hc hx h
        rcases (Bool.eq_false_or_eq_true (fitsB x.Free v)).symm with g3 | g3
        · have HRB := Lib.hid (show rb = false by obtain ⟨t, h1, h2, h3⟩ := HSG.out; exact HBAD.out t h1 h2 (by rw [h3]; exact g3))
          have HRU := Lib.hid (HUB.out HRB.out)
          rw [g3] at HF
          clear g3
          rw [HRU.out, HRB.out]
          go_wp2_with fail
          refine (HF.out _).mono ?_
          rintro e w3 ⟨rfl, hb3⟩
          have q0 := (eW.trans (((Ext.refl _).alloc _).trans hb3)).cell (cell_box_at ((w.alloc (.cells #[.slice (some ⟨b, o, none⟩) n c] 40)).alloc (.cells #[.int .i64 v.A, .int .i64 v.B, .int .i64 v.C] 42)) (w.heap.size + 1 + 1) (by simp) [.int .i64 0, .int .i64 0, .int .i64 0] 45 0 _ rfl)
          have q1 := (eW.trans (((Ext.refl _).alloc _).trans hb3)).cell (cell_box_at ((w.alloc (.cells #[.slice (some ⟨b, o, none⟩) n c] 40)).alloc (.cells #[.int .i64 v.A, .int .i64 v.B, .int .i64 v.C] 42)) (w.heap.size + 1 + 1) (by simp) [.int .i64 0, .int .i64 0, .int .i64 0] 45 1 _ rfl)
          have q2 := (eW.trans (((Ext.refl _).alloc _).trans hb3)).cell (cell_box_at ((w.alloc (.cells #[.slice (some ⟨b, o, none⟩) n c] 40)).alloc (.cells #[.int .i64 v.A, .int .i64 v.B, .int .i64 v.C] 42)) (w.heap.size + 1 + 1) (by simp) [.int .i64 0, .int .i64 0, .int .i64 0] 45 2 _ rfl)
          have qf0 := ((eW.trans (((Ext.refl _).alloc _).trans hb3)).frozenEq (a := ⟨w.heap.size + 1 + 1, 0, none⟩) (by simp)).trans (frozen_box_at ((w.alloc (.cells #[.slice (some ⟨b, o, none⟩) n c] 40)).alloc (.cells #[.int .i64 v.A, .int .i64 v.B, .int .i64 v.C] 42)) (w.heap.size + 1 + 1) (by simp) #[.int .i64 0, .int .i64 0, .int .i64 0] 45 0)
          have qf1 := ((eW.trans (((Ext.refl _).alloc _).trans hb3)).frozenEq (a := ⟨w.heap.size + 1 + 1, 1, none⟩) (by simp)).trans (frozen_box_at ((w.alloc (.cells #[.slice (some ⟨b, o, none⟩) n c] 40)).alloc (.cells #[.int .i64 v.A, .int .i64 v.B, .int .i64 v.C] 42)) (w.heap.size + 1 + 1) (by simp) #[.int .i64 0, .int .i64 0, .int .i64 0] 45 1)
          have qf2 := ((eW.trans (((Ext.refl _).alloc _).trans hb3)).frozenEq (a := ⟨w.heap.size + 1 + 1, 2, none⟩) (by simp)).trans (frozen_box_at ((w.alloc (.cells #[.slice (some ⟨b, o, none⟩) n c] 40)).alloc (.cells #[.int .i64 v.A, .int .i64 v.B, .int .i64 v.C] 42)) (w.heap.size + 1 + 1) (by simp) #[.int .i64 0, .int .i64 0, .int .i64 0] 45 2)
          have hz3 := hb3.le
          simp at hz3
          have hyz : w.heap.size + 1 + 1 < w3.heap.size := by omega
          clear x0 xf0 y0 y1 y2 yf0 yf1 yf2
          go_wp2
          exact ret_is (by simp [results, Try.results19, go_sem, *]) rfl (by repeat (first | exact Ext.refl _ | assumption | apply Ext.alloc | apply Ext.drewN | apply Ext.drew | (refine Ext.setCell ?_ (by first | (simp; done) | (simp; omega) | omega) _) | (refine Ext.trans ?_ (by assumption))))
        · have HS2 := Lib.hid (HN2.out g3)
          rw [g3] at HF
          clear g3
          go_wp2_with fail
          refine (HF.out _).mono ?_
          rintro e w3 ⟨rfl, hb3⟩
          clear x0 xf0 y0 y1 y2 yf0 yf1 yf2
          go_wp2
          go_roundw
          case rel => exact ⟨k + 1, by omega, by go_num, HS2, hbr.trans (((Ext.refl _).alloc _).trans hb3)⟩
          case measure => simp [intOf]; omega
    · have HR := Lib.hid (HGOOD.out (by rw [HN.out, ← show k = n by omega]; exact HSEG.out))
      have HRU := Lib.hid (HUG.out HR.out)
      have q0 := (eW).cell (cell_box_at ((w.alloc (.cells #[.slice A n c] 40)).alloc (.cells #[.int .i64 v.A, .int .i64 v.B, .int .i64 v.C] 42)) (w.heap.size + 1 + 1) (by simp) [.int .i64 0, .int .i64 0, .int .i64 0] 45 0 _ rfl)
      have q1 := (eW).cell (cell_box_at ((w.alloc (.cells #[.slice A n c] 40)).alloc (.cells #[.int .i64 v.A, .int .i64 v.B, .int .i64 v.C] 42)) (w.heap.size + 1 + 1) (by simp) [.int .i64 0, .int .i64 0, .int .i64 0] 45 1 _ rfl)
      have q2 := (eW).cell (cell_box_at ((w.alloc (.cells #[.slice A n c] 40)).alloc (.cells #[.int .i64 v.A, .int .i64 v.B, .int .i64 v.C] 42)) (w.heap.size + 1 + 1) (by simp) [.int .i64 0, .int .i64 0, .int .i64 0] 45 2 _ rfl)
      have qf0 := ((eW).frozenEq (a := ⟨w.heap.size + 1 + 1, 0, none⟩) (by simp)).trans (frozen_box_at ((w.alloc (.cells #[.slice A n c] 40)).alloc (.cells #[.int .i64 v.A, .int .i64 v.B, .int .i64 v.C] 42)) (w.heap.size + 1 + 1) (by simp) #[.int .i64 0, .int .i64 0, .int .i64 0] 45 0)
      have qf1 := ((eW).frozenEq (a := ⟨w.heap.size + 1 + 1, 1, none⟩) (by simp)).trans (frozen_box_at ((w.alloc (.cells #[.slice A n c] 40)).alloc (.cells #[.int .i64 v.A, .int .i64 v.B, .int .i64 v.C] 42)) (w.heap.size + 1 + 1) (by simp) #[.int .i64 0, .int .i64 0, .int .i64 0] 45 1)
      have qf2 := ((eW).frozenEq (a := ⟨w.heap.size + 1 + 1, 2, none⟩) (by simp)).trans (frozen_box_at ((w.alloc (.cells #[.slice A n c] 40)).alloc (.cells #[.int .i64 v.A, .int .i64 v.B, .int .i64 v.C] 42)) (w.heap.size + 1 + 1) (by simp) #[.int .i64 0, .int .i64 0, .int .i64 0] 45 2)
      have f0 := (hb2.trans hbr).cell (cell_box_at w1 (w1.heap.size) (by simp) [.int .i64 aA, .int .i64 aB, .int .i64 aC] 45 0 _ rfl)
      have f1 := (hb2.trans hbr).cell (cell_box_at w1 (w1.heap.size) (by simp) [.int .i64 aA, .int .i64 aB, .int .i64 aC] 45 1 _ rfl)
      have f2 := (hb2.trans hbr).cell (cell_box_at w1 (w1.heap.size) (by simp) [.int .i64 aA, .int .i64 aB, .int .i64 aC] 45 2 _ rfl)
      have ff0 := ((hb2.trans hbr).frozenEq (a := ⟨w1.heap.size, 0, none⟩) (by simp)).trans (frozen_box_at w1 (w1.heap.size) (by simp) #[.int .i64 aA, .int .i64 aB, .int .i64 aC] 45 0)
      have ff1 := ((hb2.trans hbr).frozenEq (a := ⟨w1.heap.size, 1, none⟩) (by simp)).trans (frozen_box_at w1 (w1.heap.size) (by simp) #[.int .i64 aA, .int .i64 aB, .int .i64 aC] 45 1)
      have ff2 := ((hb2.trans hbr).frozenEq (a := ⟨w1.heap.size, 2, none⟩) (by simp)).trans (frozen_box_at w1 (w1.heap.size) (by simp) #[.int .i64 aA, .int .i64 aB, .int .i64 aC] 45 2)
      have hyf : w1.heap.size < wr.heap.size := by have := (hb2.trans hbr).le; simp at this; omega
      obtain ⟨⟨e1, e2⟩, ⟨e3, e4⟩, ⟨e5, e6⟩⟩ := HW.out
      clear h
      go_wp2
      rw [HRU.out, HR.out]
      exact ret_is (by simp [results, Try.results19, go_sem, *]) rfl (by repeat (first | exact Ext.refl _ | assumption | apply Ext.alloc | apply Ext.drewN | apply Ext.drew | (refine Ext.setCell ?_ (by first | (simp; done) | (simp; omega) | omega) _) | (refine Ext.trans ?_ (by assumption))))
end Go.Proofs.Ytbfambeoboiifaa
