/- Contracts: the reference's difference of two vectors. -/
import Derived.Test.YtbfambeoboiifaaFits
import Derived.Test.YtbfambeoboiifaaOver5
namespace Go.Proofs.Ytbfambeoboiifaa
open Go.RowKit
set_option linter.unusedVariables false
set_option maxHeartbeats 2000000 in
set_option maxRecDepth 10000 in
theorem sVecSub_c (a b : Vec) (w : World) : Calls Try.prog 82 #[.agg #[.int .i64 a.A, .int .i64 a.B, .int .i64 a.C], .agg #[.int .i64 b.A, .int .i64 b.B, .int .i64 b.C]] w (Ret w (.tuple #[.agg #[.int .i64 (subV a b).A, .int .i64 (subV a b).B, .int .i64 (subV a b).C], .bool (fitsB b a)])) := by
  have hF := Lib.hid (fun u : World => sVecFits_c b a u)
  rcases (Bool.eq_false_or_eq_true (fitsB b a)).symm with h1 | h1
  · have HD := Lib.hid (show subV a b = ⟨0, 0, 0⟩ by unfold subV; rw [h1]; rfl)
    rw [HD.out, h1]
    rw [h1] at hF
    go_enter Try.func82, Try.ntmps82
    go_wp2_with fail
    refine (hF.out _).mono ?_
    rintro e w1 ⟨rfl, hb1⟩
    obtain ⟨hcr1, hfr1, hz1⟩ := hb1.rules
    (try simp at hz1)
    have hy1_w0 : w.heap.size < w1.heap.size := (by omega)
    have hy1_w1 : w.heap.size + 1 < w1.heap.size := (by omega)
    have hy1_w2 : w.heap.size + 1 + 1 < w1.heap.size := (by omega)
    have q0 := (hb1).cell (cell_box_at ((w.alloc (.cells #[.int .i64 a.A, .int .i64 a.B, .int .i64 a.C] 42)).alloc (.cells #[.int .i64 b.A, .int .i64 b.B, .int .i64 b.C] 42)) (w.heap.size + 1 + 1) (by simp) [.int .i64 0, .int .i64 0, .int .i64 0] 42 0 _ rfl)
    have q1 := (hb1).cell (cell_box_at ((w.alloc (.cells #[.int .i64 a.A, .int .i64 a.B, .int .i64 a.C] 42)).alloc (.cells #[.int .i64 b.A, .int .i64 b.B, .int .i64 b.C] 42)) (w.heap.size + 1 + 1) (by simp) [.int .i64 0, .int .i64 0, .int .i64 0] 42 1 _ rfl)
    have q2 := (hb1).cell (cell_box_at ((w.alloc (.cells #[.int .i64 a.A, .int .i64 a.B, .int .i64 a.C] 42)).alloc (.cells #[.int .i64 b.A, .int .i64 b.B, .int .i64 b.C] 42)) (w.heap.size + 1 + 1) (by simp) [.int .i64 0, .int .i64 0, .int .i64 0] 42 2 _ rfl)
    have qf0 := ((hb1).frozenEq (a := ⟨w.heap.size + 1 + 1, 0, none⟩) (by simp)).trans (frozen_box_at ((w.alloc (.cells #[.int .i64 a.A, .int .i64 a.B, .int .i64 a.C] 42)).alloc (.cells #[.int .i64 b.A, .int .i64 b.B, .int .i64 b.C] 42)) (w.heap.size + 1 + 1) (by simp) #[.int .i64 0, .int .i64 0, .int .i64 0] 42 0)
    have qf1 := ((hb1).frozenEq (a := ⟨w.heap.size + 1 + 1, 1, none⟩) (by simp)).trans (frozen_box_at ((w.alloc (.cells #[.int .i64 a.A, .int .i64 a.B, .int .i64 a.C] 42)).alloc (.cells #[.int .i64 b.A, .int .i64 b.B, .int .i64 b.C] 42)) (w.heap.size + 1 + 1) (by simp) #[.int .i64 0, .int .i64 0, .int .i64 0] 42 1)
    have qf2 := ((hb1).frozenEq (a := ⟨w.heap.size + 1 + 1, 2, none⟩) (by simp)).trans (frozen_box_at ((w.alloc (.cells #[.int .i64 a.A, .int .i64 a.B, .int .i64 a.C] 42)).alloc (.cells #[.int .i64 b.A, .int .i64 b.B, .int .i64 b.C] 42)) (w.heap.size + 1 + 1) (by simp) #[.int .i64 0, .int .i64 0, .int .i64 0] 42 2)
    go_wp2
    exact ret_is (by simp [results, Try.results82, go_sem, *]) rfl (by repeat (first | exact Ext.refl _ | assumption | apply Ext.alloc | apply Ext.drewN | apply Ext.drew | (refine Ext.setCell ?_ (by first | (simp; done) | (simp; omega) | omega) _) | (refine Ext.trans ?_ (by assumption))))
  · have HD := Lib.hid (show subV a b = ⟨a.A - b.A, a.B - b.B, a.C - b.C⟩ by unfold subV; rw [h1]; rfl)
    obtain ⟨h2, h3, h4, h5, h6⟩ := fits_iff.1 h1
    rw [vecB_iff] at h2 h3
    rw [HD.out, h1]
    rw [h1] at hF
    clear h1
    go_enter Try.func82, Try.ntmps82
    go_wp2_with fail
    refine (hF.out _).mono ?_
    rintro e w1 ⟨rfl, hb1⟩
    obtain ⟨hcr1, hfr1, hz1⟩ := hb1.rules
    (try simp at hz1)
    have hy1_w0 : w.heap.size < w1.heap.size := (by omega)
    have hy1_w1 : w.heap.size + 1 < w1.heap.size := (by omega)
    have hy1_w2 : w.heap.size + 1 + 1 < w1.heap.size := (by omega)
    have p0 := ((((Ext.refl _).alloc _).alloc _).trans hb1).cell (cell_box_at w (w.heap.size) (by simp) [.int .i64 a.A, .int .i64 a.B, .int .i64 a.C] 42 0 _ rfl)
    have p1 := ((((Ext.refl _).alloc _).alloc _).trans hb1).cell (cell_box_at w (w.heap.size) (by simp) [.int .i64 a.A, .int .i64 a.B, .int .i64 a.C] 42 1 _ rfl)
    have p2 := ((((Ext.refl _).alloc _).alloc _).trans hb1).cell (cell_box_at w (w.heap.size) (by simp) [.int .i64 a.A, .int .i64 a.B, .int .i64 a.C] 42 2 _ rfl)
    have pf0 := (((((Ext.refl _).alloc _).alloc _).trans hb1).frozenEq (a := ⟨w.heap.size, 0, none⟩) (by simp)).trans (frozen_box_at w (w.heap.size) (by simp) #[.int .i64 a.A, .int .i64 a.B, .int .i64 a.C] 42 0)
    have pf1 := (((((Ext.refl _).alloc _).alloc _).trans hb1).frozenEq (a := ⟨w.heap.size, 1, none⟩) (by simp)).trans (frozen_box_at w (w.heap.size) (by simp) #[.int .i64 a.A, .int .i64 a.B, .int .i64 a.C] 42 1)
    have pf2 := (((((Ext.refl _).alloc _).alloc _).trans hb1).frozenEq (a := ⟨w.heap.size, 2, none⟩) (by simp)).trans (frozen_box_at w (w.heap.size) (by simp) #[.int .i64 a.A, .int .i64 a.B, .int .i64 a.C] 42 2)
    have r0 := (((Ext.refl _).alloc _).trans hb1).cell (cell_box_at (w.alloc (.cells #[.int .i64 a.A, .int .i64 a.B, .int .i64 a.C] 42)) (w.heap.size + 1) (by simp) [.int .i64 b.A, .int .i64 b.B, .int .i64 b.C] 42 0 _ rfl)
    have r1 := (((Ext.refl _).alloc _).trans hb1).cell (cell_box_at (w.alloc (.cells #[.int .i64 a.A, .int .i64 a.B, .int .i64 a.C] 42)) (w.heap.size + 1) (by simp) [.int .i64 b.A, .int .i64 b.B, .int .i64 b.C] 42 1 _ rfl)
    have r2 := (((Ext.refl _).alloc _).trans hb1).cell (cell_box_at (w.alloc (.cells #[.int .i64 a.A, .int .i64 a.B, .int .i64 a.C] 42)) (w.heap.size + 1) (by simp) [.int .i64 b.A, .int .i64 b.B, .int .i64 b.C] 42 2 _ rfl)
    have rf0 := ((((Ext.refl _).alloc _).trans hb1).frozenEq (a := ⟨w.heap.size + 1, 0, none⟩) (by simp)).trans (frozen_box_at (w.alloc (.cells #[.int .i64 a.A, .int .i64 a.B, .int .i64 a.C] 42)) (w.heap.size + 1) (by simp) #[.int .i64 b.A, .int .i64 b.B, .int .i64 b.C] 42 0)
    have rf1 := ((((Ext.refl _).alloc _).trans hb1).frozenEq (a := ⟨w.heap.size + 1, 1, none⟩) (by simp)).trans (frozen_box_at (w.alloc (.cells #[.int .i64 a.A, .int .i64 a.B, .int .i64 a.C] 42)) (w.heap.size + 1) (by simp) #[.int .i64 b.A, .int .i64 b.B, .int .i64 b.C] 42 1)
    have rf2 := ((((Ext.refl _).alloc _).trans hb1).frozenEq (a := ⟨w.heap.size + 1, 2, none⟩) (by simp)).trans (frozen_box_at (w.alloc (.cells #[.int .i64 a.A, .int .i64 a.B, .int .i64 a.C] 42)) (w.heap.size + 1) (by simp) #[.int .i64 b.A, .int .i64 b.B, .int .i64 b.C] 42 2)
    have q0 := (hb1).cell (cell_box_at ((w.alloc (.cells #[.int .i64 a.A, .int .i64 a.B, .int .i64 a.C] 42)).alloc (.cells #[.int .i64 b.A, .int .i64 b.B, .int .i64 b.C] 42)) (w.heap.size + 1 + 1) (by simp) [.int .i64 0, .int .i64 0, .int .i64 0] 42 0 _ rfl)
    have q1 := (hb1).cell (cell_box_at ((w.alloc (.cells #[.int .i64 a.A, .int .i64 a.B, .int .i64 a.C] 42)).alloc (.cells #[.int .i64 b.A, .int .i64 b.B, .int .i64 b.C] 42)) (w.heap.size + 1 + 1) (by simp) [.int .i64 0, .int .i64 0, .int .i64 0] 42 1 _ rfl)
    have q2 := (hb1).cell (cell_box_at ((w.alloc (.cells #[.int .i64 a.A, .int .i64 a.B, .int .i64 a.C] 42)).alloc (.cells #[.int .i64 b.A, .int .i64 b.B, .int .i64 b.C] 42)) (w.heap.size + 1 + 1) (by simp) [.int .i64 0, .int .i64 0, .int .i64 0] 42 2 _ rfl)
    have qf0 := ((hb1).frozenEq (a := ⟨w.heap.size + 1 + 1, 0, none⟩) (by simp)).trans (frozen_box_at ((w.alloc (.cells #[.int .i64 a.A, .int .i64 a.B, .int .i64 a.C] 42)).alloc (.cells #[.int .i64 b.A, .int .i64 b.B, .int .i64 b.C] 42)) (w.heap.size + 1 + 1) (by simp) #[.int .i64 0, .int .i64 0, .int .i64 0] 42 0)
    have qf1 := ((hb1).frozenEq (a := ⟨w.heap.size + 1 + 1, 1, none⟩) (by simp)).trans (frozen_box_at ((w.alloc (.cells #[.int .i64 a.A, .int .i64 a.B, .int .i64 a.C] 42)).alloc (.cells #[.int .i64 b.A, .int .i64 b.B, .int .i64 b.C] 42)) (w.heap.size + 1 + 1) (by simp) #[.int .i64 0, .int .i64 0, .int .i64 0] 42 1)
    have qf2 := ((hb1).frozenEq (a := ⟨w.heap.size + 1 + 1, 2, none⟩) (by simp)).trans (frozen_box_at ((w.alloc (.cells #[.int .i64 a.A, .int .i64 a.B, .int .i64 a.C] 42)).alloc (.cells #[.int .i64 b.A, .int .i64 b.B, .int .i64 b.C] 42)) (w.heap.size + 1 + 1) (by simp) #[.int .i64 0, .int .i64 0, .int .i64 0] 42 2)
    go_wp2
    exact ret_is (by simp [results, Try.results82, go_sem, *]) rfl (by repeat (first | exact Ext.refl _ | assumption | apply Ext.alloc | apply Ext.drewN | apply Ext.drew | (refine Ext.setCell ?_ (by first | (simp; done) | (simp; omega) | omega) _) | (refine Ext.trans ?_ (by assumption))))
/-! ### sums of the reference -/
def tot (rest : Bool) (v : Vec) (c : Vec → Int) (l : List Pt) (ts : List Int) (fr to : Int) (k : Nat) : Int :=
  if rest = true then (cutT ts fr to k - fr) * c v - area c l fr (cutT ts fr to k) else area c l fr (cutT ts fr to k)
def gF (rest : Bool) (v : Vec) (c : Vec → Int) (F : Vec) : Int := if rest = true then c v - c F else c F
theorem tot_in {rest : Bool} {v : Vec} (hv : rest = true → vecR v) {c : Vec → Int} (hc : comp c) {l : List Pt} (hall : ∀ x ∈ l, ptB x = true) {ts : List Int} {fr to : Int} (h0 : 0 ≤ fr) (h1 : to ≤ 1000000000) (h : fr < to) (k : Nat) : -1000000000000000 ≤ tot rest v c l ts fr to k ∧ tot rest v c l ts fr to k ≤ 1000000000000000 := by
  have h2 := area_in hc hall (ts := ts) h0 h1 h k
  have h3 := cutT_le (ts := ts) (k := k) h
  unfold tot; split
  · rename_i hr
    have h4 := hc _ (hv hr)
    have h5 := mul_in (a := cutT ts fr to k - fr) (b := c v) (by omega) (by omega) h4.1 h4.2
    omega
  · omega
theorem tot_pos {rest : Bool} {v : Vec} (hv : rest = true → vecR v) {c : Vec → Int} (hc : comp c) {l : List Pt} (hall : ∀ x ∈ l, ptB x = true) {ts : List Int} {fr to : Int} (h0 : 0 ≤ fr) (h1 : to ≤ 1000000000) (hft : fr < to)
    (hs : ts.Pairwise (· < ·)) (hin : ∀ x ∈ l, x.At ∈ ts) (hto : to ∈ ts) {k : Nat} {t u s g : Int} (hk : ts[k]? = some t) (hu : ts[k + 1]? = some u) (ht1 : fr ≤ t) (ht2 : t < to) (hg : g = gF rest v c (freeAt l t)) (hsA : s = tot rest v c l ts fr to k) :
    wrap64 (s + wrap64 ((u - t) * g)) = tot rest v c l ts fr to (k + 1) := by
  obtain ⟨u', hu', g1, g2, e1, e2, e3, _⟩ := area_stepT (c := c) hs hin hto hk ht1 ht2
  rw [hu] at hu'; injection hu' with hu'; subst hu'
  have hF := hc _ (freeAt_in hall t)
  have h5 := tot_in hv hc hall (ts := ts) h0 h1 hft k
  have hb : -1000000000000000 ≤ (u - t) * g ∧ (u - t) * g ≤ 1000000000000000 := by
    have m1 := mul_in (a := u - t) (b := c (freeAt l t)) (by omega) (by omega) hF.1 hF.2
    rw [hg]; unfold gF; split
    · rename_i hr
      have h6 := hc _ (hv hr)
      have m2 := mul_in (a := u - t) (b := c v) (by omega) (by omega) h6.1 h6.2
      rw [Int.mul_sub]; omega
    · omega
  rw [IntWalk.wrap64_in ((u - t) * g) ⟨by omega, by omega⟩, IntWalk.wrap64_in _ ⟨by omega, by omega⟩, hsA, hg]
  unfold tot gF
  split
  · rw [e3, e2, e1, Int.mul_sub, show u - fr = (t - fr) + (u - t) by omega, Int.add_mul]; omega
  · rw [e3]
theorem tot_skip {rest : Bool} {v : Vec} {c : Vec → Int} {l : List Pt} {ts : List Int} {fr to : Int} {k : Nat} {t : Int} (hs : ts.Pairwise (· < ·)) (hfr : fr ∈ ts) (hk : ts[k]? = some t) (h : fr < to) (hn : t < fr ∨ to ≤ t) : tot rest v c l ts fr to (k + 1) = tot rest v c l ts fr to k := by
  unfold tot; rw [cutT_skip hs hfr hk h hn]
theorem tot_zero {rest : Bool} {v : Vec} {c : Vec → Int} {l : List Pt} {ts : List Int} {fr to : Int} (hs : ts.Pairwise (· < ·)) (hfr : fr ∈ ts) (h : fr < to) : tot rest v c l ts fr to 0 = 0 := by
  unfold tot; rw [cutT_first hs hfr h, area_self]; split <;> simp
theorem tot_end {rest : Bool} {v : Vec} {c : Vec → Int} {l : List Pt} {ts : List Int} {fr to : Int} {k : Nat} (hk : k = ts.length) (h : fr < to) : tot rest v c l ts fr to k = if rest = true then (to - fr) * c v - area c l fr to else area c l fr to := by
  unfold tot; rw [hk, cutT_end h]
def fitsAll (l : List Pt) (fr to : Int) (v : Vec) : Prop := ∀ t, fr ≤ t → t < to → fitsB (freeAt l t) v = true
open Classical in
noncomputable def usedB (l : List Pt) (v : Vec) (fr to : Int) : Bool := overB l fr to && decide (fitsAll l fr to v)
noncomputable def usedU (l : List Pt) (v : Vec) (fr to : Int) : Use3 := if usedB l v fr to = true then ⟨(to - fr) * v.A - area Vec.A l fr to, (to - fr) * v.B - area Vec.B l fr to, (to - fr) * v.C - area Vec.C l fr to⟩ else ⟨0, 0, 0⟩
theorem SlAt.set {α : Type} {enc : α → List Value} {ok : α → Prop} {sz m c : Nat} {A : Option Addr} {w : World} {xs : List α} (h : SlAt (Flat enc ok) sz w A m xs) (p : Addr) (hp : ∀ k, (Value.slice A m c).ownBlock = some k → p.block ≠ k) (u : Value) : SlAt (Flat enc ok) sz (w.setCell p u) A m xs := by
  refine ⟨h.1, fun hm => ?_⟩
  obtain ⟨b, o, rfl, hb, hc⟩ := h.2 hm
  refine ⟨b, o, rfl, by simpa using hb, fun k x hx => ?_⟩
  obtain ⟨cs, h1, h2, h3⟩ := hc k x hx
  exact ⟨cs, h1, fun j u' hu => by
    rw [World.cell?_setCell_other]
    · exact h2 j u' hu
    · intro e; exact hp b rfl (by rw [e]), h3⟩
end Go.Proofs.Ytbfambeoboiifaa
