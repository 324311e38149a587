/- Merged by mergelean.py: Over2, Over3, Over4, Over5, Sub. -/
import Derived.Test.YtgmlcohffdeplaaGreatOver
import Derived.Deep.RegionHeld3
import Derived.Test.YtgmlcohffdeplaaGreatFits
/-! Over2 -/
namespace Go.Proofs.YtgmlcohffdeplaaGreat
open Go.RowKit
set_option linter.unusedVariables false
def overB (l : List Pt) (a b : Int) : Bool := profB l && spanB a b
def overU (l : List Pt) (a b : Int) : Use3 := if overB l a b = true then ⟨area Vec.A l a b, area Vec.B l a b, area Vec.C l a b⟩ else ⟨0, 0, 0⟩
theorem overU_bad {l : List Pt} {a b : Int} (h : overB l a b = false) : overU l a b = ⟨0, 0, 0⟩ := by unfold overU; rw [h]; rfl
theorem spanB_iff {a b : Int} : spanB a b = true ↔ (0 ≤ a ∧ a ≤ 1000000000) ∧ (0 ≤ b ∧ b ≤ 1000000000) ∧ a < b := by
  unfold spanB timeB; simp only [Bool.and_eq_true, decide_eq_true_iff, and_assoc]
theorem mul_in {a b : Int} (h0 : 0 ≤ a) (h1 : a ≤ 1000000000) (h2 : 0 ≤ b) (h3 : b ≤ 1000000) : 0 ≤ a * b ∧ a * b ≤ 1000000000000000 :=
  ⟨Int.mul_nonneg h0 h2, Int.le_trans (Int.mul_le_mul h1 h3 h2 (by omega)) (by omega)⟩
def comp (c : Vec → Int) : Prop := ∀ v, vecR v → 0 ≤ c v ∧ c v ≤ 1000000
theorem comp_A : comp Vec.A := fun _ h => h.1
theorem comp_B : comp Vec.B := fun _ h => h.2.1
theorem comp_C : comp Vec.C := fun _ h => h.2.2
theorem area_in {c : Vec → Int} (hc : comp c) {l : List Pt} (hall : ∀ x ∈ l, ptB x = true) {ts : List Int} {fr to : Int} (h0 : 0 ≤ fr) (h1 : to ≤ 1000000000) (h : fr < to) (k : Nat) : 0 ≤ area c l fr (cutT ts fr to k) ∧ area c l fr (cutT ts fr to k) ≤ 1000000000000000 := by
  have h2 := cutT_le (ts := ts) (k := k) h
  have h3 := area_bound (c := c) (l := l) h2.1 (fun t => hc _ (freeAt_in hall t))
  omega
theorem free_rng {l : List Pt} (hall : ∀ x ∈ l, ptB x = true) {k : Nat} {x : Pt} (hx : l[k]? = some x) {fr to : Int} (h0 : 0 ≤ fr) (h1 : to ≤ 1000000000) (h : fr < to) {E X : Int} (hE : bndT (l.map Pt.At) to (k + 1) = E) (hX : max fr x.At = X) : (0 ≤ E ∧ E ≤ 1000000000) ∧ (0 ≤ X ∧ X ≤ 1000000000) := by
  have h2 := (ptB_parts (hall x (List.mem_of_getElem? hx))).1
  refine ⟨?_, by omega⟩
  subst hE
  unfold bndT
  cases hy : (l.map Pt.At)[k + 1]? with
  | none => simp only []; omega
  | some y =>
    rw [List.getElem?_map] at hy
    cases hz : l[k + 1]? with
    | none => rw [hz] at hy; cases hy
    | some z =>
      rw [hz] at hy; injection hy with hy; subst hy
      have := (ptB_parts (hall z (List.mem_of_getElem? hz))).1
      simp only []; omega
theorem free_pos {c : Vec → Int} (hc : comp c) {l : List Pt} (hs : l.Pairwise (fun a b => a.At < b.At)) (hall : ∀ x ∈ l, ptB x = true) {k : Nat} {x : Pt} (hx : l[k]? = some x) {fr to : Int} (h0 : 0 ≤ fr) (h1 : to ≤ 1000000000) (h : fr < to) {E X s : Int} (hE : bndT (l.map Pt.At) to (k + 1) = E) (hX : max fr x.At = X)
    (hsA : s = area c l fr (cutT (l.map Pt.At) fr to k)) (hp : 0 < wrap64 (E - X)) : wrap64 (s + wrap64 (wrap64 (E - X) * c x.Free)) = area c l fr (cutT (l.map Pt.At) fr to (k + 1)) := by
  obtain ⟨r1, r2⟩ := free_rng hall hx h0 h1 h hE hX
  have e1 : wrap64 (E - X) = E - X := IntWalk.wrap64_in _ ⟨by omega, by omega⟩
  rw [e1] at hp ⊢
  have h3 := hc _ (ptB_parts (hall x (List.mem_of_getElem? hx))).2
  have h4 := mul_in (a := E - X) (b := c x.Free) (by omega) (by omega) h3.1 h3.2
  have e2 : wrap64 ((E - X) * c x.Free) = (E - X) * c x.Free := IntWalk.wrap64_in _ ⟨by omega, by omega⟩
  have h5 := area_in hc hall (ts := l.map Pt.At) h0 h1 h k
  rw [e2, hsA, IntWalk.wrap64_in _ ⟨by omega, by omega⟩]
  have h6 := (area_step (c := c) hs hx h).1 (by rw [hE, hX]; exact hp)
  rw [h6, hE, hX]
theorem free_neg {c : Vec → Int} {l : List Pt} (hs : l.Pairwise (fun a b => a.At < b.At)) (hall : ∀ x ∈ l, ptB x = true) {k : Nat} {x : Pt} (hx : l[k]? = some x) {fr to : Int} (h0 : 0 ≤ fr) (h1 : to ≤ 1000000000) (h : fr < to) {E X s : Int} (hE : bndT (l.map Pt.At) to (k + 1) = E) (hX : max fr x.At = X)
    (hsA : s = area c l fr (cutT (l.map Pt.At) fr to k)) (hp : ¬ 0 < wrap64 (E - X)) : s = area c l fr (cutT (l.map Pt.At) fr to (k + 1)) := by
  obtain ⟨r1, r2⟩ := free_rng hall hx h0 h1 h hE hX
  have e1 : wrap64 (E - X) = E - X := IntWalk.wrap64_in _ ⟨by omega, by omega⟩
  rw [e1] at hp
  rw [hsA, (area_step (c := c) hs hx h).2 (by rw [hE, hX]; exact hp)]
theorem bnd_some {l : List Pt} {k : Nat} {y : Pt} (hy : l[k]? = some y) (to : Int) : bndT (l.map Pt.At) to k = if y.At < to then y.At else to := by
  unfold bndT; rw [List.getElem?_map, hy]; simp only [Option.map_some]; split <;> omega
theorem bnd_none {l : List Pt} {k : Nat} (hy : l.length ≤ k) (to : Int) : bndT (l.map Pt.At) to k = to := by
  unfold bndT; rw [List.getElem?_eq_none (by simpa using hy)]
theorem max_if (a b : Int) : max a b = if a < b then b else a := by split <;> omega
theorem fst_mem {l : List Pt} (h : ∃ x r, l = x :: r ∧ x.At = 0) {fr to : Int} (h0 : 0 ≤ fr) (h1 : fr < to) : cutT (l.map Pt.At) fr to 0 = fr := by
  obtain ⟨x, r, rfl, e⟩ := h
  unfold cutT bndT; simp [e]; omega
end Go.Proofs.YtgmlcohffdeplaaGreat
/-! Over3 -/
namespace Go.Proofs.YtgmlcohffdeplaaGreat
open Go.RowKit
set_option linter.unusedVariables false
theorem l01Min_c (a b : Int) (w : World) : Calls Tryz.prog 157 #[.int .i64 a, .int .i64 b] w (Same w (.int .i64 (min b a))) := by
  by_cases h : a < b
  all_goals
    go_enter Tryz.func157, Tryz.ntmps157
    go_wp2
    exact same_int rfl rfl rfl (by omega)
/-- A vector and a bool, the vector not told. -/
def RetVB (w : World) (b : Bool) : Ending → World → Prop := fun e w' => ∃ v : Vec, e = .returned (.tuple #[.agg #[.int .i64 v.A, .int .i64 v.B, .int .i64 v.C], .bool b]) ∧ Ext w w'
def RetV (w : World) : Ending → World → Prop := fun e w' => ∃ v : Vec, e = .returned (.agg #[.int .i64 v.A, .int .i64 v.B, .int .i64 v.C]) ∧ Ext w w'
set_option maxHeartbeats 4000000 in
set_option maxRecDepth 10000 in
theorem sVecMin_c (a b : Vec) (w : World) : Calls Tryz.prog 151 #[.agg #[.int .i64 a.A, .int .i64 a.B, .int .i64 a.C], .agg #[.int .i64 b.A, .int .i64 b.B, .int .i64 b.C]] w (RetV w) := by
  have hA := Lib.hid (fun u : World => sVecOk_c a u)
  have hB := Lib.hid (fun u : World => sVecOk_c b u)
  rcases (Bool.eq_false_or_eq_true (vecB a)).symm with h1 | h1
  · rw [h1] at hA
    go_enter Tryz.func151, Tryz.ntmps151
    go_wp2_with fail
    refine (hA.out _).mono ?_
    rintro e w1 ⟨rfl, hb1⟩
    obtain ⟨hcr1, hfr1, hz1⟩ := hb1.rules
    (try simp at hz1)
    have hy1_w0 : w.heap.size < w1.heap.size := (by omega)
    have hy1_w1 : w.heap.size + 1 < w1.heap.size := (by omega)
    have hy1_w2 : w.heap.size + 1 + 1 < w1.heap.size := (by omega)
    have q0 := (hb1).cell (cell_box_at ((w.alloc (.cells #[.int .i64 a.A, .int .i64 a.B, .int .i64 a.C] 59)).alloc (.cells #[.int .i64 b.A, .int .i64 b.B, .int .i64 b.C] 59)) (w.heap.size + 1 + 1) (by simp) [.int .i64 0, .int .i64 0, .int .i64 0] 59 0 _ rfl)
    have q1 := (hb1).cell (cell_box_at ((w.alloc (.cells #[.int .i64 a.A, .int .i64 a.B, .int .i64 a.C] 59)).alloc (.cells #[.int .i64 b.A, .int .i64 b.B, .int .i64 b.C] 59)) (w.heap.size + 1 + 1) (by simp) [.int .i64 0, .int .i64 0, .int .i64 0] 59 1 _ rfl)
    have q2 := (hb1).cell (cell_box_at ((w.alloc (.cells #[.int .i64 a.A, .int .i64 a.B, .int .i64 a.C] 59)).alloc (.cells #[.int .i64 b.A, .int .i64 b.B, .int .i64 b.C] 59)) (w.heap.size + 1 + 1) (by simp) [.int .i64 0, .int .i64 0, .int .i64 0] 59 2 _ rfl)
    have qf0 := ((hb1).frozenEq (a := ⟨w.heap.size + 1 + 1, 0, none⟩) (by simp)).trans (frozen_box_at ((w.alloc (.cells #[.int .i64 a.A, .int .i64 a.B, .int .i64 a.C] 59)).alloc (.cells #[.int .i64 b.A, .int .i64 b.B, .int .i64 b.C] 59)) (w.heap.size + 1 + 1) (by simp) #[.int .i64 0, .int .i64 0, .int .i64 0] 59 0)
    have qf1 := ((hb1).frozenEq (a := ⟨w.heap.size + 1 + 1, 1, none⟩) (by simp)).trans (frozen_box_at ((w.alloc (.cells #[.int .i64 a.A, .int .i64 a.B, .int .i64 a.C] 59)).alloc (.cells #[.int .i64 b.A, .int .i64 b.B, .int .i64 b.C] 59)) (w.heap.size + 1 + 1) (by simp) #[.int .i64 0, .int .i64 0, .int .i64 0] 59 1)
    have qf2 := ((hb1).frozenEq (a := ⟨w.heap.size + 1 + 1, 2, none⟩) (by simp)).trans (frozen_box_at ((w.alloc (.cells #[.int .i64 a.A, .int .i64 a.B, .int .i64 a.C] 59)).alloc (.cells #[.int .i64 b.A, .int .i64 b.B, .int .i64 b.C] 59)) (w.heap.size + 1 + 1) (by simp) #[.int .i64 0, .int .i64 0, .int .i64 0] 59 2)
    go_wp2
    exact bodyPost_ret (by simp [results, Tryz.results151, go_sem, *]) rfl ⟨⟨0, 0, 0⟩, rfl, (by repeat (first | exact Ext.refl _ | assumption | apply Ext.alloc | apply Ext.drewN | apply Ext.drew | (refine Ext.setCell ?_ (by first | (simp; done) | (simp; omega) | omega) _) | (refine Ext.trans ?_ (by assumption))))⟩
  rcases (Bool.eq_false_or_eq_true (vecB b)).symm with h2 | h2
  · rw [h1] at hA
    rw [h2] at hB
    go_enter Tryz.func151, Tryz.ntmps151
    go_wp2_with fail
    refine (hA.out _).mono ?_
    rintro e w1 ⟨rfl, hb1⟩
    obtain ⟨hcr1, hfr1, hz1⟩ := hb1.rules
    (try simp at hz1)
    have hy1_w0 : w.heap.size < w1.heap.size := (by omega)
    have hy1_w1 : w.heap.size + 1 < w1.heap.size := (by omega)
    have hy1_w2 : w.heap.size + 1 + 1 < w1.heap.size := (by omega)
    have q0 := (hb1).cell (cell_box_at ((w.alloc (.cells #[.int .i64 a.A, .int .i64 a.B, .int .i64 a.C] 59)).alloc (.cells #[.int .i64 b.A, .int .i64 b.B, .int .i64 b.C] 59)) (w.heap.size + 1 + 1) (by simp) [.int .i64 0, .int .i64 0, .int .i64 0] 59 0 _ rfl)
    have q1 := (hb1).cell (cell_box_at ((w.alloc (.cells #[.int .i64 a.A, .int .i64 a.B, .int .i64 a.C] 59)).alloc (.cells #[.int .i64 b.A, .int .i64 b.B, .int .i64 b.C] 59)) (w.heap.size + 1 + 1) (by simp) [.int .i64 0, .int .i64 0, .int .i64 0] 59 1 _ rfl)
    have q2 := (hb1).cell (cell_box_at ((w.alloc (.cells #[.int .i64 a.A, .int .i64 a.B, .int .i64 a.C] 59)).alloc (.cells #[.int .i64 b.A, .int .i64 b.B, .int .i64 b.C] 59)) (w.heap.size + 1 + 1) (by simp) [.int .i64 0, .int .i64 0, .int .i64 0] 59 2 _ rfl)
    have qf0 := ((hb1).frozenEq (a := ⟨w.heap.size + 1 + 1, 0, none⟩) (by simp)).trans (frozen_box_at ((w.alloc (.cells #[.int .i64 a.A, .int .i64 a.B, .int .i64 a.C] 59)).alloc (.cells #[.int .i64 b.A, .int .i64 b.B, .int .i64 b.C] 59)) (w.heap.size + 1 + 1) (by simp) #[.int .i64 0, .int .i64 0, .int .i64 0] 59 0)
    have qf1 := ((hb1).frozenEq (a := ⟨w.heap.size + 1 + 1, 1, none⟩) (by simp)).trans (frozen_box_at ((w.alloc (.cells #[.int .i64 a.A, .int .i64 a.B, .int .i64 a.C] 59)).alloc (.cells #[.int .i64 b.A, .int .i64 b.B, .int .i64 b.C] 59)) (w.heap.size + 1 + 1) (by simp) #[.int .i64 0, .int .i64 0, .int .i64 0] 59 1)
    have qf2 := ((hb1).frozenEq (a := ⟨w.heap.size + 1 + 1, 2, none⟩) (by simp)).trans (frozen_box_at ((w.alloc (.cells #[.int .i64 a.A, .int .i64 a.B, .int .i64 a.C] 59)).alloc (.cells #[.int .i64 b.A, .int .i64 b.B, .int .i64 b.C] 59)) (w.heap.size + 1 + 1) (by simp) #[.int .i64 0, .int .i64 0, .int .i64 0] 59 2)
    have r0 := (((Ext.refl _).alloc _).trans hb1).cell (cell_box_at (w.alloc (.cells #[.int .i64 a.A, .int .i64 a.B, .int .i64 a.C] 59)) (w.heap.size + 1) (by simp) [.int .i64 b.A, .int .i64 b.B, .int .i64 b.C] 59 0 _ rfl)
    have r1 := (((Ext.refl _).alloc _).trans hb1).cell (cell_box_at (w.alloc (.cells #[.int .i64 a.A, .int .i64 a.B, .int .i64 a.C] 59)) (w.heap.size + 1) (by simp) [.int .i64 b.A, .int .i64 b.B, .int .i64 b.C] 59 1 _ rfl)
    have r2 := (((Ext.refl _).alloc _).trans hb1).cell (cell_box_at (w.alloc (.cells #[.int .i64 a.A, .int .i64 a.B, .int .i64 a.C] 59)) (w.heap.size + 1) (by simp) [.int .i64 b.A, .int .i64 b.B, .int .i64 b.C] 59 2 _ rfl)
    have rf0 := ((((Ext.refl _).alloc _).trans hb1).frozenEq (a := ⟨w.heap.size + 1, 0, none⟩) (by simp)).trans (frozen_box_at (w.alloc (.cells #[.int .i64 a.A, .int .i64 a.B, .int .i64 a.C] 59)) (w.heap.size + 1) (by simp) #[.int .i64 b.A, .int .i64 b.B, .int .i64 b.C] 59 0)
    have rf1 := ((((Ext.refl _).alloc _).trans hb1).frozenEq (a := ⟨w.heap.size + 1, 1, none⟩) (by simp)).trans (frozen_box_at (w.alloc (.cells #[.int .i64 a.A, .int .i64 a.B, .int .i64 a.C] 59)) (w.heap.size + 1) (by simp) #[.int .i64 b.A, .int .i64 b.B, .int .i64 b.C] 59 1)
    have rf2 := ((((Ext.refl _).alloc _).trans hb1).frozenEq (a := ⟨w.heap.size + 1, 2, none⟩) (by simp)).trans (frozen_box_at (w.alloc (.cells #[.int .i64 a.A, .int .i64 a.B, .int .i64 a.C] 59)) (w.heap.size + 1) (by simp) #[.int .i64 b.A, .int .i64 b.B, .int .i64 b.C] 59 2)
    go_wp2_with fail
    refine (hB.out _).mono ?_
    rintro e w2 ⟨rfl, hb2⟩
    have q0 := (hb1.trans hb2).cell (cell_box_at ((w.alloc (.cells #[.int .i64 a.A, .int .i64 a.B, .int .i64 a.C] 59)).alloc (.cells #[.int .i64 b.A, .int .i64 b.B, .int .i64 b.C] 59)) (w.heap.size + 1 + 1) (by simp) [.int .i64 0, .int .i64 0, .int .i64 0] 59 0 _ rfl)
    have q1 := (hb1.trans hb2).cell (cell_box_at ((w.alloc (.cells #[.int .i64 a.A, .int .i64 a.B, .int .i64 a.C] 59)).alloc (.cells #[.int .i64 b.A, .int .i64 b.B, .int .i64 b.C] 59)) (w.heap.size + 1 + 1) (by simp) [.int .i64 0, .int .i64 0, .int .i64 0] 59 1 _ rfl)
    have q2 := (hb1.trans hb2).cell (cell_box_at ((w.alloc (.cells #[.int .i64 a.A, .int .i64 a.B, .int .i64 a.C] 59)).alloc (.cells #[.int .i64 b.A, .int .i64 b.B, .int .i64 b.C] 59)) (w.heap.size + 1 + 1) (by simp) [.int .i64 0, .int .i64 0, .int .i64 0] 59 2 _ rfl)
    have qf0 := ((hb1.trans hb2).frozenEq (a := ⟨w.heap.size + 1 + 1, 0, none⟩) (by simp)).trans (frozen_box_at ((w.alloc (.cells #[.int .i64 a.A, .int .i64 a.B, .int .i64 a.C] 59)).alloc (.cells #[.int .i64 b.A, .int .i64 b.B, .int .i64 b.C] 59)) (w.heap.size + 1 + 1) (by simp) #[.int .i64 0, .int .i64 0, .int .i64 0] 59 0)
    have qf1 := ((hb1.trans hb2).frozenEq (a := ⟨w.heap.size + 1 + 1, 1, none⟩) (by simp)).trans (frozen_box_at ((w.alloc (.cells #[.int .i64 a.A, .int .i64 a.B, .int .i64 a.C] 59)).alloc (.cells #[.int .i64 b.A, .int .i64 b.B, .int .i64 b.C] 59)) (w.heap.size + 1 + 1) (by simp) #[.int .i64 0, .int .i64 0, .int .i64 0] 59 1)
    have qf2 := ((hb1.trans hb2).frozenEq (a := ⟨w.heap.size + 1 + 1, 2, none⟩) (by simp)).trans (frozen_box_at ((w.alloc (.cells #[.int .i64 a.A, .int .i64 a.B, .int .i64 a.C] 59)).alloc (.cells #[.int .i64 b.A, .int .i64 b.B, .int .i64 b.C] 59)) (w.heap.size + 1 + 1) (by simp) #[.int .i64 0, .int .i64 0, .int .i64 0] 59 2)
    go_wp2
    exact bodyPost_ret (by simp [results, Tryz.results151, go_sem, *]) rfl ⟨⟨0, 0, 0⟩, rfl, (by repeat (first | exact Ext.refl _ | assumption | apply Ext.alloc | apply Ext.drewN | apply Ext.drew | (refine Ext.setCell ?_ (by first | (simp; done) | (simp; omega) | omega) _) | (refine Ext.trans ?_ (by assumption))))⟩
  rw [h1] at hA
  rw [h2] at hB
  go_enter Tryz.func151, Tryz.ntmps151
  go_wp2_with fail
  refine (hA.out _).mono ?_
  rintro e w1 ⟨rfl, hb1⟩
  obtain ⟨hcr1, hfr1, hz1⟩ := hb1.rules
  (try simp at hz1)
  have hy1_w0 : w.heap.size < w1.heap.size := (by omega)
  have hy1_w1 : w.heap.size + 1 < w1.heap.size := (by omega)
  have hy1_w2 : w.heap.size + 1 + 1 < w1.heap.size := (by omega)
  have r0 := (((Ext.refl _).alloc _).trans hb1).cell (cell_box_at (w.alloc (.cells #[.int .i64 a.A, .int .i64 a.B, .int .i64 a.C] 59)) (w.heap.size + 1) (by simp) [.int .i64 b.A, .int .i64 b.B, .int .i64 b.C] 59 0 _ rfl)
  have r1 := (((Ext.refl _).alloc _).trans hb1).cell (cell_box_at (w.alloc (.cells #[.int .i64 a.A, .int .i64 a.B, .int .i64 a.C] 59)) (w.heap.size + 1) (by simp) [.int .i64 b.A, .int .i64 b.B, .int .i64 b.C] 59 1 _ rfl)
  have r2 := (((Ext.refl _).alloc _).trans hb1).cell (cell_box_at (w.alloc (.cells #[.int .i64 a.A, .int .i64 a.B, .int .i64 a.C] 59)) (w.heap.size + 1) (by simp) [.int .i64 b.A, .int .i64 b.B, .int .i64 b.C] 59 2 _ rfl)
  have rf0 := ((((Ext.refl _).alloc _).trans hb1).frozenEq (a := ⟨w.heap.size + 1, 0, none⟩) (by simp)).trans (frozen_box_at (w.alloc (.cells #[.int .i64 a.A, .int .i64 a.B, .int .i64 a.C] 59)) (w.heap.size + 1) (by simp) #[.int .i64 b.A, .int .i64 b.B, .int .i64 b.C] 59 0)
  have rf1 := ((((Ext.refl _).alloc _).trans hb1).frozenEq (a := ⟨w.heap.size + 1, 1, none⟩) (by simp)).trans (frozen_box_at (w.alloc (.cells #[.int .i64 a.A, .int .i64 a.B, .int .i64 a.C] 59)) (w.heap.size + 1) (by simp) #[.int .i64 b.A, .int .i64 b.B, .int .i64 b.C] 59 1)
  have rf2 := ((((Ext.refl _).alloc _).trans hb1).frozenEq (a := ⟨w.heap.size + 1, 2, none⟩) (by simp)).trans (frozen_box_at (w.alloc (.cells #[.int .i64 a.A, .int .i64 a.B, .int .i64 a.C] 59)) (w.heap.size + 1) (by simp) #[.int .i64 b.A, .int .i64 b.B, .int .i64 b.C] 59 2)
  go_wp2_with fail
  refine (hB.out _).mono ?_
  rintro e w2 ⟨rfl, hb2⟩
  obtain ⟨hcr2, hfr2, hz2⟩ := hb2.rules
  (try simp at hz2)
  have hy2_w0 : w.heap.size < w2.heap.size := (by omega)
  have hy2_w1 : w.heap.size + 1 < w2.heap.size := (by omega)
  have hy2_w2 : w.heap.size + 1 + 1 < w2.heap.size := (by omega)
  have p0 := ((((Ext.refl _).alloc _).alloc _).trans (hb1.trans hb2)).cell (cell_box_at w (w.heap.size) (by simp) [.int .i64 a.A, .int .i64 a.B, .int .i64 a.C] 59 0 _ rfl)
  have p1 := ((((Ext.refl _).alloc _).alloc _).trans (hb1.trans hb2)).cell (cell_box_at w (w.heap.size) (by simp) [.int .i64 a.A, .int .i64 a.B, .int .i64 a.C] 59 1 _ rfl)
  have p2 := ((((Ext.refl _).alloc _).alloc _).trans (hb1.trans hb2)).cell (cell_box_at w (w.heap.size) (by simp) [.int .i64 a.A, .int .i64 a.B, .int .i64 a.C] 59 2 _ rfl)
  have pf0 := (((((Ext.refl _).alloc _).alloc _).trans (hb1.trans hb2)).frozenEq (a := ⟨w.heap.size, 0, none⟩) (by simp)).trans (frozen_box_at w (w.heap.size) (by simp) #[.int .i64 a.A, .int .i64 a.B, .int .i64 a.C] 59 0)
  have pf1 := (((((Ext.refl _).alloc _).alloc _).trans (hb1.trans hb2)).frozenEq (a := ⟨w.heap.size, 1, none⟩) (by simp)).trans (frozen_box_at w (w.heap.size) (by simp) #[.int .i64 a.A, .int .i64 a.B, .int .i64 a.C] 59 1)
  have pf2 := (((((Ext.refl _).alloc _).alloc _).trans (hb1.trans hb2)).frozenEq (a := ⟨w.heap.size, 2, none⟩) (by simp)).trans (frozen_box_at w (w.heap.size) (by simp) #[.int .i64 a.A, .int .i64 a.B, .int .i64 a.C] 59 2)
  have r0 := (((Ext.refl _).alloc _).trans (hb1.trans hb2)).cell (cell_box_at (w.alloc (.cells #[.int .i64 a.A, .int .i64 a.B, .int .i64 a.C] 59)) (w.heap.size + 1) (by simp) [.int .i64 b.A, .int .i64 b.B, .int .i64 b.C] 59 0 _ rfl)
  have r1 := (((Ext.refl _).alloc _).trans (hb1.trans hb2)).cell (cell_box_at (w.alloc (.cells #[.int .i64 a.A, .int .i64 a.B, .int .i64 a.C] 59)) (w.heap.size + 1) (by simp) [.int .i64 b.A, .int .i64 b.B, .int .i64 b.C] 59 1 _ rfl)
  have r2 := (((Ext.refl _).alloc _).trans (hb1.trans hb2)).cell (cell_box_at (w.alloc (.cells #[.int .i64 a.A, .int .i64 a.B, .int .i64 a.C] 59)) (w.heap.size + 1) (by simp) [.int .i64 b.A, .int .i64 b.B, .int .i64 b.C] 59 2 _ rfl)
  have rf0 := ((((Ext.refl _).alloc _).trans (hb1.trans hb2)).frozenEq (a := ⟨w.heap.size + 1, 0, none⟩) (by simp)).trans (frozen_box_at (w.alloc (.cells #[.int .i64 a.A, .int .i64 a.B, .int .i64 a.C] 59)) (w.heap.size + 1) (by simp) #[.int .i64 b.A, .int .i64 b.B, .int .i64 b.C] 59 0)
  have rf1 := ((((Ext.refl _).alloc _).trans (hb1.trans hb2)).frozenEq (a := ⟨w.heap.size + 1, 1, none⟩) (by simp)).trans (frozen_box_at (w.alloc (.cells #[.int .i64 a.A, .int .i64 a.B, .int .i64 a.C] 59)) (w.heap.size + 1) (by simp) #[.int .i64 b.A, .int .i64 b.B, .int .i64 b.C] 59 1)
  have rf2 := ((((Ext.refl _).alloc _).trans (hb1.trans hb2)).frozenEq (a := ⟨w.heap.size + 1, 2, none⟩) (by simp)).trans (frozen_box_at (w.alloc (.cells #[.int .i64 a.A, .int .i64 a.B, .int .i64 a.C] 59)) (w.heap.size + 1) (by simp) #[.int .i64 b.A, .int .i64 b.B, .int .i64 b.C] 59 2)
  have q0 := (hb1.trans hb2).cell (cell_box_at ((w.alloc (.cells #[.int .i64 a.A, .int .i64 a.B, .int .i64 a.C] 59)).alloc (.cells #[.int .i64 b.A, .int .i64 b.B, .int .i64 b.C] 59)) (w.heap.size + 1 + 1) (by simp) [.int .i64 0, .int .i64 0, .int .i64 0] 59 0 _ rfl)
  have q1 := (hb1.trans hb2).cell (cell_box_at ((w.alloc (.cells #[.int .i64 a.A, .int .i64 a.B, .int .i64 a.C] 59)).alloc (.cells #[.int .i64 b.A, .int .i64 b.B, .int .i64 b.C] 59)) (w.heap.size + 1 + 1) (by simp) [.int .i64 0, .int .i64 0, .int .i64 0] 59 1 _ rfl)
  have q2 := (hb1.trans hb2).cell (cell_box_at ((w.alloc (.cells #[.int .i64 a.A, .int .i64 a.B, .int .i64 a.C] 59)).alloc (.cells #[.int .i64 b.A, .int .i64 b.B, .int .i64 b.C] 59)) (w.heap.size + 1 + 1) (by simp) [.int .i64 0, .int .i64 0, .int .i64 0] 59 2 _ rfl)
  have qf0 := ((hb1.trans hb2).frozenEq (a := ⟨w.heap.size + 1 + 1, 0, none⟩) (by simp)).trans (frozen_box_at ((w.alloc (.cells #[.int .i64 a.A, .int .i64 a.B, .int .i64 a.C] 59)).alloc (.cells #[.int .i64 b.A, .int .i64 b.B, .int .i64 b.C] 59)) (w.heap.size + 1 + 1) (by simp) #[.int .i64 0, .int .i64 0, .int .i64 0] 59 0)
  have qf1 := ((hb1.trans hb2).frozenEq (a := ⟨w.heap.size + 1 + 1, 1, none⟩) (by simp)).trans (frozen_box_at ((w.alloc (.cells #[.int .i64 a.A, .int .i64 a.B, .int .i64 a.C] 59)).alloc (.cells #[.int .i64 b.A, .int .i64 b.B, .int .i64 b.C] 59)) (w.heap.size + 1 + 1) (by simp) #[.int .i64 0, .int .i64 0, .int .i64 0] 59 1)
  have qf2 := ((hb1.trans hb2).frozenEq (a := ⟨w.heap.size + 1 + 1, 2, none⟩) (by simp)).trans (frozen_box_at ((w.alloc (.cells #[.int .i64 a.A, .int .i64 a.B, .int .i64 a.C] 59)).alloc (.cells #[.int .i64 b.A, .int .i64 b.B, .int .i64 b.C] 59)) (w.heap.size + 1 + 1) (by simp) #[.int .i64 0, .int .i64 0, .int .i64 0] 59 2)
  go_wp2
  have HS := Lib.hid (show (w2.drew.cell? ⟨w.heap.size, 0, none⟩ = some (.int .i64 a.A) ∧ w2.drew.cell? ⟨w.heap.size, 1, none⟩ = some (.int .i64 a.B) ∧ w2.drew.cell? ⟨w.heap.size, 2, none⟩ = some (.int .i64 a.C) ∧ w2.drew.cell? ⟨w.heap.size + 1, 0, none⟩ = some (.int .i64 b.A) ∧ w2.drew.cell? ⟨w.heap.size + 1, 1, none⟩ = some (.int .i64 b.B) ∧ w2.drew.cell? ⟨w.heap.size + 1, 2, none⟩ = some (.int .i64 b.C)) from ⟨p0, p1, p2, r0, r1, r2⟩)
  go_region_held3 (fun u => u.cell? ⟨w.heap.size, 0, none⟩ = some (.int .i64 a.A) ∧ u.cell? ⟨w.heap.size, 1, none⟩ = some (.int .i64 a.B) ∧ u.cell? ⟨w.heap.size, 2, none⟩ = some (.int .i64 a.C) ∧ u.cell? ⟨w.heap.size + 1, 0, none⟩ = some (.int .i64 b.A) ∧ u.cell? ⟨w.heap.size + 1, 1, none⟩ = some (.int .i64 b.B) ∧ u.cell? ⟨w.heap.size + 1, 2, none⟩ = some (.int .i64 b.C)) ((first | (with_reducible exact HS.out) | (refine ⟨?_, ?_, ?_, ?_, ?_, ?_⟩ <;> first | assumption | go_simp))) (first | (go_at_call 157; (with_reducible refine (l01Min_c _ _ _).mono ?_); rintro e w3 ⟨rfl, rfl⟩))
  go_wp2
  exact bodyPost_ret (by simp [results, Tryz.results151, go_sem, *]) rfl ⟨⟨min b.A a.A, min b.B a.B, min b.C a.C⟩, rfl, (by repeat (first | exact Ext.refl _ | assumption | apply Ext.alloc | apply Ext.drewN | apply Ext.drew | (refine Ext.setCell ?_ (by first | (simp; done) | (simp; omega) | omega) _) | (refine Ext.trans ?_ (by assumption))))⟩
end Go.Proofs.YtgmlcohffdeplaaGreat
/-! Over4 -/
namespace Go.Proofs.YtgmlcohffdeplaaGreat
open Go.RowKit
set_option linter.unusedVariables false
set_option maxHeartbeats 4000000 in
set_option maxRecDepth 10000 in
theorem sProfMin_c (xs : List Pt) (fr to : Int) (A : Option Addr) (n c : Nat) (w : World) (h : SlAt RPt 4 w A n xs) (hl : n ≤ maxLen) : Calls Tryz.prog 145 #[.agg #[.slice A n c], .int .i64 fr, .int .i64 to] w (RetVB w (overB xs fr to)) := by
  have hl' := hl
  unfold maxLen at hl
  have HN := Lib.hid h.len
  have HM := Lib.hid (Flat.mono Pt.enc Pt.ok)
  have hA := Lib.hid (fun (u : World) (e : Ext w u) => sProfOk_c xs A n c u (h.ext HM.out e) hl')
  have hF := Lib.hid (fun u : World => sTime_c fr u)
  have hT := Lib.hid (fun u : World => sTime_c to u)
  have hV := Lib.hid (fun (u : World) (e : Ext w u) => l03At_c xs fr A n c u (h.ext HM.out e) hl')
  generalize freeAt xs fr = v0 at hV
  rcases (Bool.eq_false_or_eq_true (profB xs)).symm with h1 | h1
  all_goals rw [h1] at hA
  · rw [show overB xs fr to = false by unfold overB; rw [h1]; rfl]
    go_enter Tryz.func145, Tryz.ntmps145
    go_wp2_with fail
    refine (hA.out _ (by repeat (first | exact Ext.refl _ | assumption | apply Ext.alloc | apply Ext.drewN | apply Ext.drew | (refine Ext.setCell ?_ (by first | (simp; done) | (simp; omega) | omega) _) | (refine Ext.trans ?_ (by assumption))))).mono ?_
    rintro e w1 ⟨rfl, hb1⟩
    obtain ⟨hcr1, hfr1, hz1⟩ := hb1.rules
    (try simp at hz1)
    have hy1_w0 : w.heap.size < w1.heap.size := (by omega)
    have hy1_w1 : w.heap.size + 1 < w1.heap.size := (by omega)
    have q0 := (hb1).cell (cell_box_at (w.alloc (.cells #[.slice A n c] 42)) (w.heap.size + 1) (by simp) [.int .i64 0, .int .i64 0, .int .i64 0] 59 0 _ rfl)
    have q1 := (hb1).cell (cell_box_at (w.alloc (.cells #[.slice A n c] 42)) (w.heap.size + 1) (by simp) [.int .i64 0, .int .i64 0, .int .i64 0] 59 1 _ rfl)
    have q2 := (hb1).cell (cell_box_at (w.alloc (.cells #[.slice A n c] 42)) (w.heap.size + 1) (by simp) [.int .i64 0, .int .i64 0, .int .i64 0] 59 2 _ rfl)
    have qf0 := ((hb1).frozenEq (a := ⟨w.heap.size + 1, 0, none⟩) (by simp)).trans (frozen_box_at (w.alloc (.cells #[.slice A n c] 42)) (w.heap.size + 1) (by simp) #[.int .i64 0, .int .i64 0, .int .i64 0] 59 0)
    have qf1 := ((hb1).frozenEq (a := ⟨w.heap.size + 1, 1, none⟩) (by simp)).trans (frozen_box_at (w.alloc (.cells #[.slice A n c] 42)) (w.heap.size + 1) (by simp) #[.int .i64 0, .int .i64 0, .int .i64 0] 59 1)
    have qf2 := ((hb1).frozenEq (a := ⟨w.heap.size + 1, 2, none⟩) (by simp)).trans (frozen_box_at (w.alloc (.cells #[.slice A n c] 42)) (w.heap.size + 1) (by simp) #[.int .i64 0, .int .i64 0, .int .i64 0] 59 2)
    go_wp2
    exact bodyPost_ret (by simp [results, Tryz.results145, go_sem, *]) rfl ⟨⟨0, 0, 0⟩, rfl, (by repeat (first | exact Ext.refl _ | assumption | apply Ext.alloc | apply Ext.drewN | apply Ext.drew | (refine Ext.setCell ?_ (by first | (simp; done) | (simp; omega) | omega) _) | (refine Ext.trans ?_ (by assumption))))⟩
  rcases (Bool.eq_false_or_eq_true (timeB fr)).symm with h2 | h2
  all_goals rw [h2] at hF
  · rw [show overB xs fr to = false by unfold overB spanB; rw [h1, h2]; rfl]
    go_enter Tryz.func145, Tryz.ntmps145
    go_wp2_with fail
    refine (hA.out _ (by repeat (first | exact Ext.refl _ | assumption | apply Ext.alloc | apply Ext.drewN | apply Ext.drew | (refine Ext.setCell ?_ (by first | (simp; done) | (simp; omega) | omega) _) | (refine Ext.trans ?_ (by assumption))))).mono ?_
    rintro e w1 ⟨rfl, hb1⟩
    obtain ⟨hcr1, hfr1, hz1⟩ := hb1.rules
    (try simp at hz1)
    have hy1_w0 : w.heap.size < w1.heap.size := (by omega)
    have hy1_w1 : w.heap.size + 1 < w1.heap.size := (by omega)
    go_wp2_with fail
    refine (hF.out _).mono ?_
    rintro e w2 ⟨rfl, rfl⟩
    have q0 := (hb1).cell (cell_box_at (w.alloc (.cells #[.slice A n c] 42)) (w.heap.size + 1) (by simp) [.int .i64 0, .int .i64 0, .int .i64 0] 59 0 _ rfl)
    have q1 := (hb1).cell (cell_box_at (w.alloc (.cells #[.slice A n c] 42)) (w.heap.size + 1) (by simp) [.int .i64 0, .int .i64 0, .int .i64 0] 59 1 _ rfl)
    have q2 := (hb1).cell (cell_box_at (w.alloc (.cells #[.slice A n c] 42)) (w.heap.size + 1) (by simp) [.int .i64 0, .int .i64 0, .int .i64 0] 59 2 _ rfl)
    have qf0 := ((hb1).frozenEq (a := ⟨w.heap.size + 1, 0, none⟩) (by simp)).trans (frozen_box_at (w.alloc (.cells #[.slice A n c] 42)) (w.heap.size + 1) (by simp) #[.int .i64 0, .int .i64 0, .int .i64 0] 59 0)
    have qf1 := ((hb1).frozenEq (a := ⟨w.heap.size + 1, 1, none⟩) (by simp)).trans (frozen_box_at (w.alloc (.cells #[.slice A n c] 42)) (w.heap.size + 1) (by simp) #[.int .i64 0, .int .i64 0, .int .i64 0] 59 1)
    have qf2 := ((hb1).frozenEq (a := ⟨w.heap.size + 1, 2, none⟩) (by simp)).trans (frozen_box_at (w.alloc (.cells #[.slice A n c] 42)) (w.heap.size + 1) (by simp) #[.int .i64 0, .int .i64 0, .int .i64 0] 59 2)
    go_wp2
    exact bodyPost_ret (by simp [results, Tryz.results145, go_sem, *]) rfl ⟨⟨0, 0, 0⟩, rfl, (by repeat (first | exact Ext.refl _ | assumption | apply Ext.alloc | apply Ext.drewN | apply Ext.drew | (refine Ext.setCell ?_ (by first | (simp; done) | (simp; omega) | omega) _) | (refine Ext.trans ?_ (by assumption))))⟩
  rcases (Bool.eq_false_or_eq_true (timeB to)).symm with h3 | h3
  all_goals rw [h3] at hT
  · rw [show overB xs fr to = false by unfold overB spanB; rw [h1, h2, h3]; rfl]
    go_enter Tryz.func145, Tryz.ntmps145
    go_wp2_with fail
    refine (hA.out _ (by repeat (first | exact Ext.refl _ | assumption | apply Ext.alloc | apply Ext.drewN | apply Ext.drew | (refine Ext.setCell ?_ (by first | (simp; done) | (simp; omega) | omega) _) | (refine Ext.trans ?_ (by assumption))))).mono ?_
    rintro e w1 ⟨rfl, hb1⟩
    obtain ⟨hcr1, hfr1, hz1⟩ := hb1.rules
    (try simp at hz1)
    have hy1_w0 : w.heap.size < w1.heap.size := (by omega)
    have hy1_w1 : w.heap.size + 1 < w1.heap.size := (by omega)
    go_wp2_with fail
    refine (hF.out _).mono ?_
    rintro e w2 ⟨rfl, rfl⟩
    go_wp2_with fail
    refine (hT.out _).mono ?_
    rintro e w3 ⟨rfl, rfl⟩
    have q0 := (hb1).cell (cell_box_at (w.alloc (.cells #[.slice A n c] 42)) (w.heap.size + 1) (by simp) [.int .i64 0, .int .i64 0, .int .i64 0] 59 0 _ rfl)
    have q1 := (hb1).cell (cell_box_at (w.alloc (.cells #[.slice A n c] 42)) (w.heap.size + 1) (by simp) [.int .i64 0, .int .i64 0, .int .i64 0] 59 1 _ rfl)
    have q2 := (hb1).cell (cell_box_at (w.alloc (.cells #[.slice A n c] 42)) (w.heap.size + 1) (by simp) [.int .i64 0, .int .i64 0, .int .i64 0] 59 2 _ rfl)
    have qf0 := ((hb1).frozenEq (a := ⟨w.heap.size + 1, 0, none⟩) (by simp)).trans (frozen_box_at (w.alloc (.cells #[.slice A n c] 42)) (w.heap.size + 1) (by simp) #[.int .i64 0, .int .i64 0, .int .i64 0] 59 0)
    have qf1 := ((hb1).frozenEq (a := ⟨w.heap.size + 1, 1, none⟩) (by simp)).trans (frozen_box_at (w.alloc (.cells #[.slice A n c] 42)) (w.heap.size + 1) (by simp) #[.int .i64 0, .int .i64 0, .int .i64 0] 59 1)
    have qf2 := ((hb1).frozenEq (a := ⟨w.heap.size + 1, 2, none⟩) (by simp)).trans (frozen_box_at (w.alloc (.cells #[.slice A n c] 42)) (w.heap.size + 1) (by simp) #[.int .i64 0, .int .i64 0, .int .i64 0] 59 2)
    go_wp2
    exact bodyPost_ret (by simp [results, Tryz.results145, go_sem, *]) rfl ⟨⟨0, 0, 0⟩, rfl, (by repeat (first | exact Ext.refl _ | assumption | apply Ext.alloc | apply Ext.drewN | apply Ext.drew | (refine Ext.setCell ?_ (by first | (simp; done) | (simp; omega) | omega) _) | (refine Ext.trans ?_ (by assumption))))⟩
  by_cases h4 : to ≤ fr
  · rw [show overB xs fr to = false by unfold overB spanB; rw [h1, h2, h3, decide_eq_false (by omega)]; rfl]
    clear h1 h2 h3
    go_enter Tryz.func145, Tryz.ntmps145
    go_wp2_with fail
    refine (hA.out _ (by repeat (first | exact Ext.refl _ | assumption | apply Ext.alloc | apply Ext.drewN | apply Ext.drew | (refine Ext.setCell ?_ (by first | (simp; done) | (simp; omega) | omega) _) | (refine Ext.trans ?_ (by assumption))))).mono ?_
    rintro e w1 ⟨rfl, hb1⟩
    obtain ⟨hcr1, hfr1, hz1⟩ := hb1.rules
    (try simp at hz1)
    have hy1_w0 : w.heap.size < w1.heap.size := (by omega)
    have hy1_w1 : w.heap.size + 1 < w1.heap.size := (by omega)
    go_wp2_with fail
    refine (hF.out _).mono ?_
    rintro e w2 ⟨rfl, rfl⟩
    go_wp2_with fail
    refine (hT.out _).mono ?_
    rintro e w3 ⟨rfl, rfl⟩
    have q0 := (hb1).cell (cell_box_at (w.alloc (.cells #[.slice A n c] 42)) (w.heap.size + 1) (by simp) [.int .i64 0, .int .i64 0, .int .i64 0] 59 0 _ rfl)
    have q1 := (hb1).cell (cell_box_at (w.alloc (.cells #[.slice A n c] 42)) (w.heap.size + 1) (by simp) [.int .i64 0, .int .i64 0, .int .i64 0] 59 1 _ rfl)
    have q2 := (hb1).cell (cell_box_at (w.alloc (.cells #[.slice A n c] 42)) (w.heap.size + 1) (by simp) [.int .i64 0, .int .i64 0, .int .i64 0] 59 2 _ rfl)
    have qf0 := ((hb1).frozenEq (a := ⟨w.heap.size + 1, 0, none⟩) (by simp)).trans (frozen_box_at (w.alloc (.cells #[.slice A n c] 42)) (w.heap.size + 1) (by simp) #[.int .i64 0, .int .i64 0, .int .i64 0] 59 0)
    have qf1 := ((hb1).frozenEq (a := ⟨w.heap.size + 1, 1, none⟩) (by simp)).trans (frozen_box_at (w.alloc (.cells #[.slice A n c] 42)) (w.heap.size + 1) (by simp) #[.int .i64 0, .int .i64 0, .int .i64 0] 59 1)
    have qf2 := ((hb1).frozenEq (a := ⟨w.heap.size + 1, 2, none⟩) (by simp)).trans (frozen_box_at (w.alloc (.cells #[.slice A n c] 42)) (w.heap.size + 1) (by simp) #[.int .i64 0, .int .i64 0, .int .i64 0] 59 2)
    go_wp2
    exact bodyPost_ret (by simp [results, Tryz.results145, go_sem, *]) rfl ⟨⟨0, 0, 0⟩, rfl, (by repeat (first | exact Ext.refl _ | assumption | apply Ext.alloc | apply Ext.drewN | apply Ext.drew | (refine Ext.setCell ?_ (by first | (simp; done) | (simp; omega) | omega) _) | (refine Ext.trans ?_ (by assumption))))⟩
  rw [show overB xs fr to = true by unfold overB spanB; rw [h1, h2, h3, decide_eq_true (by omega)]; rfl]
  clear h1 h2 h3
  go_enter Tryz.func145, Tryz.ntmps145
  go_wp2_with fail
  refine (hA.out _ (by repeat (first | exact Ext.refl _ | assumption | apply Ext.alloc | apply Ext.drewN | apply Ext.drew | (refine Ext.setCell ?_ (by first | (simp; done) | (simp; omega) | omega) _) | (refine Ext.trans ?_ (by assumption))))).mono ?_
  rintro e w1 ⟨rfl, hb1⟩
  obtain ⟨hcr1, hfr1, hz1⟩ := hb1.rules
  (try simp at hz1)
  have hy1_w0 : w.heap.size < w1.heap.size := (by omega)
  have hy1_w1 : w.heap.size + 1 < w1.heap.size := (by omega)
  go_wp2_with fail
  refine (hF.out _).mono ?_
  rintro e w2 ⟨rfl, rfl⟩
  go_wp2_with fail
  refine (hT.out _).mono ?_
  rintro e w3 ⟨rfl, rfl⟩
  have x0 := (((Ext.refl _).alloc _).trans hb1).cell (cell_box_at w (w.heap.size) (by simp) [.slice A n c] 42 0 _ rfl)
  have xf0 := ((((Ext.refl _).alloc _).trans hb1).frozenEq (a := ⟨w.heap.size, 0, none⟩) (by simp)).trans (frozen_box_at w (w.heap.size) (by simp) #[.slice A n c] 42 0)
  go_wp2_with fail
  refine (hV.out _ (by repeat (first | exact Ext.refl _ | assumption | apply Ext.alloc | apply Ext.drewN | apply Ext.drew | (refine Ext.setCell ?_ (by first | (simp; done) | (simp; omega) | omega) _) | (refine Ext.trans ?_ (by assumption))))).mono ?_
  rintro e w4 ⟨rfl, hb4⟩
  obtain ⟨hcr4, hfr4, hz4⟩ := hb4.rules
  (try simp at hz4)
  have hy4_w0 : w.heap.size < w4.heap.size := (by omega)
  have hy4_w1 : w.heap.size + 1 < w4.heap.size := (by omega)
  have x0 := (((Ext.refl _).alloc _).trans (hb1.trans hb4)).cell (cell_box_at w (w.heap.size) (by simp) [.slice A n c] 42 0 _ rfl)
  have xf0 := ((((Ext.refl _).alloc _).trans (hb1.trans hb4)).frozenEq (a := ⟨w.heap.size, 0, none⟩) (by simp)).trans (frozen_box_at w (w.heap.size) (by simp) #[.slice A n c] 42 0)
  clear hA hF hT hV
  go_wp2
  go_loopw [36] (fun i wr => ∃ (k : Nat) (v : Vec), k ≤ n ∧ i = .int .i64 k ∧ wr.cell? ⟨w4.heap.size, 0, none⟩ = some (.int .i64 v.A) ∧ wr.cell? ⟨w4.heap.size, 1, none⟩ = some (.int .i64 v.B) ∧ wr.cell? ⟨w4.heap.size, 2, none⟩ = some (.int .i64 v.C) ∧ wr.frozen? ⟨w4.heap.size, 0, none⟩ = false ∧ wr.frozen? ⟨w4.heap.size, 1, none⟩ = false ∧ wr.frozen? ⟨w4.heap.size, 2, none⟩ = false ∧ Ext w4 wr ∧ w4.heap.size < wr.heap.size) (fun i _ => n - (intOf i).toNat)
  case atStart => exact ⟨0, v0, Nat.zero_le _, rfl, (cell_box_at w4 _ rfl [.int .i64 v0.A, .int .i64 v0.B, .int .i64 v0.C] 59 0 _ rfl), (cell_box_at w4 _ rfl [.int .i64 v0.A, .int .i64 v0.B, .int .i64 v0.C] 59 1 _ rfl), (cell_box_at w4 _ rfl [.int .i64 v0.A, .int .i64 v0.B, .int .i64 v0.C] 59 2 _ rfl), (frozen_box_at _ _ (by simp) _ _ _), (frozen_box_at _ _ (by simp) _ _ _), (frozen_box_at _ _ (by simp) _ _ _), (by repeat (first | exact Ext.refl _ | assumption | apply Ext.alloc | apply Ext.drewN | apply Ext.drew | (refine Ext.setCell ?_ (by first | (simp; done) | (simp; omega) | omega) _) | (refine Ext.trans ?_ (by assumption)))), by simp⟩
  case round =>
    obtain ⟨k, v, hk, rfl, c0, c1, c2, z0, z1, z2, hbr, hzr⟩ := hrel
    have hb : Ext w wr := (((Ext.refl w).alloc _).alloc _).trans (hb1.trans (hb4.trans hbr))
    by_cases hlt : k < n
    · obtain ⟨b, o, x, cs, rfl, hbw, hx, _, hc, rfl, _⟩ := (h.ext HM.out hb).at_ hlt
      have g0 := hc 0 _ rfl
      have g1 := hc 1 _ rfl
      have g2 := hc 2 _ rfl
      have g3 := hc 3 _ rfl
      simp only [Nat.add_zero] at g0
      clear hc hx h
      by_cases g1 : fr ≤ x.At
      · by_cases g2 : x.At < to
        · have HG1 := Lib.hid (fun u : World => sVecMin_c v x.Free u)
          go_wp2_with fail
          refine (HG1.out _).mono ?_
          rintro e w5 ⟨v', rfl, hb5⟩
          have e5 : Ext wr w5 := ((Ext.refl wr).alloc _).trans hb5
          have k0 := e5.cell c0
          have k1 := e5.cell c1
          have k2 := e5.cell c2
          have l0 := (e5.frozenEq (lt_of_cell c0)).trans z0
          have l1 := (e5.frozenEq (lt_of_cell c1)).trans z1
          have l2 := (e5.frozenEq (lt_of_cell c2)).trans z2
          have hz5 : w4.heap.size < w5.heap.size := by have := e5.le; omega
          clear c0 c1 c2 z0 z1 z2
          go_wp2
          go_roundw
          case rel => exact ⟨k + 1, v', by omega, by go_num, by go_simp, by go_simp, by go_simp, by go_simp, by go_simp, by go_simp, (hbr.trans e5).setCell (by simp) _ |>.setCell (by simp) _ |>.setCell (by simp) _, by simp; omega⟩
          case measure => simp [intOf]; omega
        · go_wp2
          go_roundw
          case rel => exact ⟨k + 1, v, by omega, by go_num, by go_simp, by go_simp, by go_simp, by go_simp, by go_simp, by go_simp, (by repeat (first | exact Ext.refl _ | assumption | apply Ext.alloc | apply Ext.drewN | apply Ext.drew | (refine Ext.setCell ?_ (by first | (simp; done) | (simp; omega) | omega) _) | (refine Ext.trans ?_ (by assumption)))), by simp; omega⟩
          case measure => simp [intOf]; omega
      · go_wp2
        go_roundw
        case rel => exact ⟨k + 1, v, by omega, by go_num, by go_simp, by go_simp, by go_simp, by go_simp, by go_simp, by go_simp, (by repeat (first | exact Ext.refl _ | assumption | apply Ext.alloc | apply Ext.drewN | apply Ext.drew | (refine Ext.setCell ?_ (by first | (simp; done) | (simp; omega) | omega) _) | (refine Ext.trans ?_ (by assumption)))), by simp; omega⟩
        case measure => simp [intOf]; omega
    · have p0 := (hb1.trans (hb4.trans hbr)).cell (cell_box_at (w.alloc (.cells #[.slice A n c] 42)) (w.heap.size + 1) (by simp) [.int .i64 0, .int .i64 0, .int .i64 0] 59 0 _ rfl)
      have p1 := (hb1.trans (hb4.trans hbr)).cell (cell_box_at (w.alloc (.cells #[.slice A n c] 42)) (w.heap.size + 1) (by simp) [.int .i64 0, .int .i64 0, .int .i64 0] 59 1 _ rfl)
      have p2 := (hb1.trans (hb4.trans hbr)).cell (cell_box_at (w.alloc (.cells #[.slice A n c] 42)) (w.heap.size + 1) (by simp) [.int .i64 0, .int .i64 0, .int .i64 0] 59 2 _ rfl)
      have pf0 := ((hb1.trans (hb4.trans hbr)).frozenEq (a := ⟨w.heap.size + 1, 0, none⟩) (by simp)).trans (frozen_box_at (w.alloc (.cells #[.slice A n c] 42)) (w.heap.size + 1) (by simp) #[.int .i64 0, .int .i64 0, .int .i64 0] 59 0)
      have pf1 := ((hb1.trans (hb4.trans hbr)).frozenEq (a := ⟨w.heap.size + 1, 1, none⟩) (by simp)).trans (frozen_box_at (w.alloc (.cells #[.slice A n c] 42)) (w.heap.size + 1) (by simp) #[.int .i64 0, .int .i64 0, .int .i64 0] 59 1)
      have pf2 := ((hb1.trans (hb4.trans hbr)).frozenEq (a := ⟨w.heap.size + 1, 2, none⟩) (by simp)).trans (frozen_box_at (w.alloc (.cells #[.slice A n c] 42)) (w.heap.size + 1) (by simp) #[.int .i64 0, .int .i64 0, .int .i64 0] 59 2)
      clear h
      go_wp2
      exact bodyPost_ret (by simp [results, Tryz.results145, go_sem, *]) rfl ⟨v, rfl, (by repeat (first | exact Ext.refl _ | assumption | apply Ext.alloc | apply Ext.drewN | apply Ext.drew | (refine Ext.setCell ?_ (by first | (simp; done) | (simp; omega) | omega) _) | (refine Ext.trans ?_ (by assumption))))⟩
end Go.Proofs.YtgmlcohffdeplaaGreat
/-! Over5 -/
namespace Go.Proofs.YtgmlcohffdeplaaGreat
open Go.RowKit
set_option linter.unusedVariables false
theorem OInt.one (y : Int) : ∀ u ∈ encInt y, u.oneCell' = true := by
  intro u hu; simp [encInt] at hu; subst hu; rfl
theorem OInt.info : (Tryz.prog.info? 3).map (fun i => (i.zero, i.size, i.bytes)) = some (some (.int .i64 0), 1, 8) := by kernel_rfl
def tl (l : List Pt) (fr to : Int) : Nat → List Int
  | 0 => l.map Pt.At
  | 1 => insGo fr false (l.map Pt.At)
  | _ => timesL l fr to
theorem tl_len (l : List Pt) (fr to : Int) (k : Nat) : (tl l fr to k).length ≤ l.length + 2 := by
  match k with
  | 0 => simp [tl]
  | 1 => have := insGo_len fr (l.map Pt.At) false; rw [List.length_map] at this; simp only [tl]; omega
  | k + 2 => exact timesL_len l fr to
theorem int_ok {l : List Pt} (h : ∀ x ∈ l, x.ok) {fr to : Int} (hf : In64 fr) (ht : In64 to) (k : Nat) : ∀ y ∈ tl l fr to k, In64 y := by
  have h0 : ∀ y ∈ l.map Pt.At, In64 y := fun y hy => by obtain ⟨x, hx, rfl⟩ := List.mem_map.1 hy; exact (h x hx).1
  have h1 : ∀ y ∈ insGo fr false (l.map Pt.At), In64 y := fun y hy => by
    rcases (insGo_mem fr _ y).1 hy with rfl | hy
    · exact hf
    · exact h0 y hy
  match k with
  | 0 => exact h0
  | 1 => exact h1
  | k + 2 =>
    intro y hy
    rcases (insGo_mem to _ y).1 hy with rfl | hy
    · exact ht
    · exact h1 y hy
theorem ins_a {t x : Int} {r acc L : List Int} (h : acc ++ insGo t false (x :: r) = L) (h1 : t ≤ x) (h2 : x = t) : (acc ++ [t]) ++ insGo t true r = L := by
  rw [← h, insGo, if_pos ⟨rfl, h1⟩, if_pos h2, show (false || decide (t ≤ x)) = true by simpa using h1]; simp
theorem ins_b {t x : Int} {r acc L : List Int} (h : acc ++ insGo t false (x :: r) = L) (h1 : t ≤ x) (h2 : x ≠ t) : ((acc ++ [t]) ++ [x]) ++ insGo t true r = L := by
  rw [← h, insGo, if_pos ⟨rfl, h1⟩, if_neg h2, show (false || decide (t ≤ x)) = true by simpa using h1]; simp
theorem ins_c {t x : Int} {r acc L : List Int} (h : acc ++ insGo t false (x :: r) = L) (h1 : ¬ t ≤ x) : (acc ++ [x]) ++ insGo t false r = L := by
  rw [← h, insGo, if_neg (by simp; omega), if_neg (by omega), show (false || decide (t ≤ x)) = false by simpa using h1]; simp
theorem ins_d {t x : Int} {r acc L : List Int} (h : acc ++ insGo t true (x :: r) = L) (h2 : x = t) : acc ++ insGo t true r = L := by
  rw [← h, insGo, if_neg (by simp), if_pos h2, Bool.true_or]; simp
theorem ins_e {t x : Int} {r acc L : List Int} (h : acc ++ insGo t true (x :: r) = L) (h2 : x ≠ t) : (acc ++ [x]) ++ insGo t true r = L := by
  rw [← h, insGo, if_neg (by simp), if_neg h2, Bool.true_or]; simp
/-- A call hands back a slice in new memory that reads as xs. -/
def RetLo {α : Type} (R : Rel α) (sz : Nat) (w : World) (xs : List α) : Ending → World → Prop :=
  fun en w' => ∃ A c, en = .returned (.slice A xs.length c) ∧ SlAt R sz w' A xs.length xs ∧ (∀ k, (Value.slice A xs.length c).ownBlock = some k → w.heap.size ≤ k) ∧ Ext w w'
theorem own_lo {w : World} {base b' : Nat} {e : TypeId} {sz n m c : Nat} {A : Option Addr} {L : List Value} (h : w.ownsRow base e sz (.slice A n c) n L) (hb : b' ≤ base) : ∀ k, (Value.slice A m c).ownBlock = some k → b' ≤ k := by
  intro k hk
  cases A with
  | none => cases hk
  | some a => exact Nat.le_trans hb (h.lt k hk).1
theorem times_sl0 {w : World} {base : Nat} {A : Option Addr} {c : Nat} {acc L : List Int} (h : w.ownsRow base 3 1 (.slice A acc.length c) acc.length (acc.flatMap encInt)) (e : acc = L) (hok : ∀ y ∈ L, In64 y) : SlAt RInt 1 w A acc.length L := by
  subst e
  exact (OwnAt.flat (enc := encInt) (ok := In64) (fun _ => rfl) hok h).slAt
theorem times_sl {w : World} {base : Nat} {A : Option Addr} {c : Nat} {acc L : List Int} {t : Int} (h : w.ownsRow base 3 1 (.slice A (acc.length + 1) c) (acc.length + 1) (acc.flatMap encInt ++ encInt t)) (e : acc ++ [t] = L) (hok : ∀ y ∈ L, In64 y) : SlAt RInt 1 w A (acc.length + 1) L := by
  have e1 : (acc ++ [t]).length = acc.length + 1 := by simp
  have := times_sl0 (acc := acc ++ [t]) (by rw [e1, List.flatMap_append]; simpa using h) e hok
  rw [e1] at this; exact this
/-- A call hands back a list of ints in memory of its own. -/
def RetOI (w : World) (ts : List Int) : Ending → World → Prop :=
  fun en w' => ∃ A c, en = .returned (.slice A ts.length c) ∧ w'.ownsRow w.heap.size 3 1 (.slice A ts.length c) ts.length (ts.flatMap encInt) ∧ (∀ y ∈ ts, In64 y) ∧ Ext w w'
theorem row_low {w : World} {base b' : Nat} {e : TypeId} {sz n : Nat} {v : Value} {L : List Value} (h : w.ownsRow base e sz v n L) (hb : b' ≤ base) : w.ownsRow b' e sz v n L := by
  obtain ⟨h1, h3⟩ := h
  refine ⟨h1, ?_⟩
  rcases h3 with h3 | ⟨b, cap, cur, e1, hg, r⟩
  · exact .inl h3
  · exact .inr ⟨b, cap, cur, e1, Nat.le_trans hb hg, r⟩
theorem times_ow0 {w : World} {base b' : Nat} {A : Option Addr} {c : Nat} {acc L : List Int} (h : w.ownsRow base 3 1 (.slice A acc.length c) acc.length (acc.flatMap encInt)) (e : acc = L) (hb : b' ≤ base) : w.ownsRow b' 3 1 (.slice A acc.length c) acc.length (L.flatMap encInt) := by
  subst e; exact row_low h hb
theorem times_ow {w : World} {base b' : Nat} {A : Option Addr} {c : Nat} {acc L : List Int} {t : Int} (h : w.ownsRow base 3 1 (.slice A (acc.length + 1) c) (acc.length + 1) (acc.flatMap encInt ++ encInt t)) (e : acc ++ [t] = L) (hb : b' ≤ base) : w.ownsRow b' 3 1 (.slice A (acc.length + 1) c) (acc.length + 1) (L.flatMap encInt) := by
  subst e; rw [List.flatMap_append]; simpa using row_low h hb
set_option maxHeartbeats 4000000 in
set_option maxRecDepth 10000 in
theorem l03Times_o (xs : List Pt) (fr to : Int) (A : Option Addr) (n c : Nat) (w : World) (h : SlAt RPt 4 w A n xs) (hl : n ≤ 200) (hf : In64 fr) (ht : In64 to) : Calls Tryz.prog 68 #[.agg #[.slice A n c], .int .i64 fr, .int .i64 to] w (RetOI w (timesL xs fr to)) := by
  obtain ⟨i0, hi, hI0, hI1, hI2⟩ := info_parts OInt.info
  have HN := Lib.hid h.len
  have HM := Lib.hid (Flat.mono Pt.enc Pt.ok)
  have HOK := Lib.hid (fun k => int_ok h.all hf ht k)
  have HTL := Lib.hid (tl_len xs fr to)
  go_enter Tryz.func68, Tryz.ntmps68
  go_wp2
  go_loopw [7, 20] (fun v i wr => ∃ (k : Nat) (A1 : Option Addr) (c1 : Nat), k ≤ n ∧ i = .int .i64 k ∧ v = .slice A1 k c1 ∧ wr.ownsRow (w.heap.size + 1) 3 1 (.slice A1 k c1) k (((xs.take k).map Pt.At).flatMap encInt) ∧ Ext (w.alloc (.cells #[.slice A n c] 42)) wr ∧ w.heap.size + 1 ≤ wr.heap.size) (fun _ i _ => n - (intOf i).toNat)
  case atStart => exact ⟨0, _, 0, Nat.zero_le _, rfl, rfl, by simpa using owns_empty (w.alloc (.cells #[.slice A n c] 42)) 3 1, (by repeat (first | exact Ext.refl _ | assumption | apply Ext.alloc | apply Ext.drewN | apply Ext.drew | (refine Ext.setCell ?_ (by first | (simp; done) | (simp; omega) | omega) _) | (refine Ext.trans ?_ (by assumption)))), by simp⟩
  case round =>
    obtain ⟨k, A1, c1, hk, rfl, rfl, ho, hbr, hzr⟩ := hrel
    have hb : Ext w wr := ((Ext.refl w).alloc _).trans hbr
    by_cases hlt : k < n
    · obtain ⟨b, o, x, cs, rfl, hbw, hx, _, hc, rfl, _⟩ := (h.ext HM.out hb).at_ hlt
      have g0 := hc 0 _ rfl
      have g1 := hc 1 _ rfl
      have g2 := hc 2 _ rfl
      have g3 := hc 3 _ rfl
      simp only [Nat.add_zero] at g0
      have HX := Lib.hid hx
      have HO := Lib.hid (ho.alloc (.cells #[.int .i64 x.At, .int .i64 x.Free.A, .int .i64 x.Free.B, .int .i64 x.Free.C] 107))
      clear hc hx h ho
      go_wp2_with (at_builtin; go_must (refine wpList_append_one (w0 := (w.alloc (.cells #[.slice (some ⟨b, o, none⟩) n c] 42))) (.tmp 24) (.tmp 27) _ (w.heap.size + 1) 3 i0 _ 1 8 (.slice A1 k c1) k _ (encInt x.At) rfl rfl Tryz.underlying22 hi hI0 hI1 hI2 rfl (by omega) rfl (HO.out) _ rfl (by first | rfl | simp) rfl (OInt.one _) (by unfold maxLen; omega) (by omega) (hbr.alloc _) (by simp) (by simp; omega) ?_); intro A4 c4 w4 ho4 hb4 hs4)
      have HO4 := Lib.hid ho4
      clear ho4
      go_wp2
      go_roundw
      case rel => exact ⟨k + 1, A4, c4, by omega, by go_num, by simp, by rw [take_succ HX.out]; simpa using HO4.out, hb4, by simp at hs4; omega⟩
      case measure => simp [intOf]; omega
    · have HS0 := Lib.hid (show SlAt RInt 1 wr A1 n (xs.map Pt.At) from by
        have hkn : k = n := by omega
        subst hkn
        rw [List.take_of_length_le (Nat.le_of_eq HN.out)] at ho
        have e : (xs.map Pt.At).length = k := by rw [List.length_map, HN.out]
        have ho' : wr.ownsRow (w.heap.size + 1) 3 1 (.slice A1 (xs.map Pt.At).length c1) (xs.map Pt.At).length ((xs.map Pt.At).flatMap encInt) := by rw [e]; exact ho
        have := (OwnAt.flat (enc := encInt) (ok := In64) (fun _ => rfl) (HOK.out 0) ho').slAt
        rw [e] at this; exact this)
      have HKN := Lib.hid (show k = n by omega)
      have HLO0 := Lib.hid (show wr.ownsRow w.heap.size 3 1 (.slice A1 n c1) n ((xs.map Pt.At).flatMap encInt) from by
        have hkn := HKN.out
        subst hkn
        rw [List.take_of_length_le (Nat.le_of_eq HN.out)] at ho
        exact row_low ho (by omega))
      obtain ⟨wl, rfl⟩ : ∃ wl : World, wl = wr := ⟨_, rfl⟩
      clear h ho
      go_wp2
      go_loopw [7, 34] (fun v i wr => ∃ (q m : Nat) (A2 : Option Addr) (c2 : Nat), q ≤ 2 ∧ i = .int .i64 q ∧ v = .slice A2 m c2 ∧ m ≤ 202 ∧ Hid (SlAt RInt 1 wr A2 m (tl xs fr to q)) ∧ Hid (wr.ownsRow w.heap.size 3 1 (.slice A2 m c2) m ((tl xs fr to q).flatMap encInt)) ∧ Ext (wl.alloc (.cells #[.int .i64 fr, .int .i64 to] 3)) wr) (fun _ i _ => 2 - (intOf i).toNat)
      case atStart => exact ⟨0, n, A1, c1, by omega, rfl, by rw [HKN.out], by omega, Lib.hid (HS0.out.ext (Flat.mono _ _) ((Ext.refl _).alloc _)), Lib.hid (owns_ext HLO0.out ((Ext.refl _).alloc _)), Ext.refl _⟩
      case round =>
        obtain ⟨q, m, A2, c2, hq, rfl, rfl, hm, HSL, HLO, hbq⟩ := hrel
        obtain ⟨wo, rfl⟩ : ∃ wo : World, wo = wr := ⟨_, rfl⟩
        by_cases hq2 : q < 2
        · obtain ⟨t, hcell, HT, hti⟩ : ∃ t, wo.cell? ⟨wl.heap.size, q, none⟩ = some (.int .i64 t) ∧ Hid (tl xs fr to (q + 1) = insGo t false (tl xs fr to q)) ∧ In64 t := by
            have : q = 0 ∨ q = 1 := by omega
            rcases this with rfl | rfl
            · exact ⟨fr, hbq.cell (cell_box wl [.int .i64 fr, .int .i64 to] 3 0 _ rfl), Lib.hid rfl, hf⟩
            · exact ⟨to, hbq.cell (cell_box wl [.int .i64 fr, .int .i64 to] 3 1 _ rfl), Lib.hid rfl, ht⟩
          have HQL := Lib.hid (show (tl xs fr to (q + 1)).length ≤ 202 from Nat.le_trans (HTL.out _) (by rw [HN.out]; omega))
          have HQO := Lib.hid (HOK.out (q + 1))
          have hlo : wl.heap.size < wo.heap.size := by have := hbq.le; simp at this; omega
          rw [HT.out] at HQL HQO
          generalize tl xs fr to q = ys at *
          have HYL := Lib.hid HSL.out.len
          have hq3 : decide ((q : Int) < 2) = true := by rw [decide_eq_true_iff]; omega
          go_wp2
          go_loopw [12, 13, 41] (fun v d i wi => ∃ (j : Nat) (A3 : Option Addr) (c3 : Nat) (acc : List Int) (db : Bool), j ≤ m ∧ i = .int .i64 j ∧ d = .bool db ∧ v = .slice A3 acc.length c3 ∧ acc.length ≤ 2 * j ∧ wi.ownsRow wo.heap.size 3 1 (.slice A3 acc.length c3) acc.length (acc.flatMap encInt) ∧ Ext wo wi ∧ Hid (acc ++ insGo t db (ys.drop j) = insGo t false ys) ∧ wo.heap.size + 1 ≤ wi.heap.size) (fun _ _ i _ => m - (intOf i).toNat)
          case atStart => exact ⟨0, _, 0, [], false, by omega, rfl, rfl, rfl, by simp, by simpa using owns_empty wo 3 1, (Ext.refl _).alloc _, Lib.hid rfl, by simp⟩
          case round =>
            obtain ⟨j, A3, c3, acc, db, hj, rfl, rfl, rfl, hac, ho3, hbi, HACC, hzi⟩ := hrel
            by_cases hjm : j < m
            · obtain ⟨b, o, x, cs, rfl, hbw, hx, _, hc, rfl, hxo⟩ := (HSL.out.ext (Flat.mono _ _) hbi).at_ hjm
              have g0 := hc 0 _ rfl
              simp only [Nat.mul_one, Nat.add_zero] at g0
              have HO3 := Lib.hid ho3
              have hacc := HACC.out
              rw [drop_cons hx] at hacc
              have HAC := Lib.hid hacc
              clear hc hx hxo ho3 hacc hcell
              cases db
              · rcases (Bool.eq_false_or_eq_true (decide (t ≤ x))) with h1 | h1
                · have H1 := Lib.hid (of_decide_eq_true h1)
                  rcases (Bool.eq_false_or_eq_true (x != t)).symm with h2 | h2
                  · have H2 := Lib.hid (show x = t by simpa using h2)
                    go_wp2_with (at_builtin; go_must (refine wpList_append_one (w0 := wo) (.tmp 52) (.tmp 54) _ wo.heap.size 3 i0 _ 1 8 _ acc.length _ (encInt t) rfl rfl Tryz.underlying22 hi hI0 hI1 hI2 rfl (by omega) rfl (HO3.out) _ rfl (by first | rfl | simp) rfl (OInt.one _) (by unfold maxLen; omega) (by omega) hbi (Nat.le_refl _) (by omega) ?_); intro A5 c5 w5 ho5 hb5 hs5)
                    go_wp2
                    go_roundw
                    case rel => exact ⟨j + 1, A5, c5, acc ++ [t], true, by omega, by go_num, rfl, by simp, (by first | omega | (simp; omega)), by simpa using ho5, hb5, Lib.hid (ins_a HAC.out H1.out H2.out), by omega⟩
                    case measure => simp [intOf]; omega
                  · have H2 := Lib.hid (show x ≠ t by simpa using h2)
                    go_wp2_with (first | (at_builtin; refine wpList_append_one (w0 := wo) (.tmp 52) (.tmp 54) _ wo.heap.size 3 i0 _ 1 8 _ acc.length _ (encInt t) rfl rfl Tryz.underlying22 hi hI0 hI1 hI2 rfl (by omega) rfl (HO3.out) _ rfl (by first | rfl | simp) rfl (OInt.one _) (by unfold maxLen; omega) (by omega) hbi (Nat.le_refl _) (by omega) ?_; intro A5 c5 w5 ho5 hb5 hs5) | (at_builtin; refine wpList_append_one (w0 := wo) (.tmp 59) (.tmp 61) _ wo.heap.size 3 i0 _ 1 8 _ (acc.length + 1) _ (encInt x) rfl rfl Tryz.underlying22 hi hI0 hI1 hI2 rfl (by omega) rfl (ho5) _ rfl (by first | rfl | simp) rfl (OInt.one _) (by unfold maxLen; omega) (by omega) hb5 (Nat.le_refl _) (by omega) ?_; intro A6 c6 w6 ho6 hb6 hs6))
                    go_wp2
                    go_roundw
                    case rel => exact ⟨j + 1, A6, c6, (acc ++ [t]) ++ [x], true, by omega, by go_num, rfl, by simp, (by first | omega | (simp; omega)), by simpa using ho6, hb6, Lib.hid (ins_b HAC.out H1.out H2.out), by omega⟩
                    case measure => simp [intOf]; omega
                · have H1 := Lib.hid (of_decide_eq_false h1)
                  have h2 : (x != t) = true := by have := H1.out; simp; omega
                  go_wp2_with (at_builtin; go_must (refine wpList_append_one (w0 := wo) (.tmp 59) (.tmp 61) _ wo.heap.size 3 i0 _ 1 8 _ acc.length _ (encInt x) rfl rfl Tryz.underlying22 hi hI0 hI1 hI2 rfl (by omega) rfl (HO3.out) _ rfl (by first | rfl | simp) rfl (OInt.one _) (by unfold maxLen; omega) (by omega) hbi (Nat.le_refl _) (by omega) ?_); intro A5 c5 w5 ho5 hb5 hs5)
                  go_wp2
                  go_roundw
                  case rel => exact ⟨j + 1, A5, c5, acc ++ [x], false, by omega, by go_num, rfl, by simp, (by first | omega | (simp; omega)), by simpa using ho5, hb5, Lib.hid (ins_c HAC.out H1.out), by omega⟩
                  case measure => simp [intOf]; omega
              · rcases (Bool.eq_false_or_eq_true (x != t)).symm with h2 | h2
                · have H2 := Lib.hid (show x = t by simpa using h2)
                  go_wp2
                  go_roundw
                  case rel => exact ⟨j + 1, A3, c3, acc, true, by omega, by go_num, rfl, by simp, (by first | omega | (simp; omega)), by simpa using HO3.out, hbi, Lib.hid (ins_d HAC.out H2.out), by omega⟩
                  case measure => simp [intOf]; omega
                · have H2 := Lib.hid (show x ≠ t by simpa using h2)
                  go_wp2_with (at_builtin; go_must (refine wpList_append_one (w0 := wo) (.tmp 59) (.tmp 61) _ wo.heap.size 3 i0 _ 1 8 _ acc.length _ (encInt x) rfl rfl Tryz.underlying22 hi hI0 hI1 hI2 rfl (by omega) rfl (HO3.out) _ rfl (by first | rfl | simp) rfl (OInt.one _) (by unfold maxLen; omega) (by omega) hbi (Nat.le_refl _) (by omega) ?_); intro A5 c5 w5 ho5 hb5 hs5)
                  go_wp2
                  go_roundw
                  case rel => exact ⟨j + 1, A5, c5, acc ++ [x], true, by omega, by go_num, rfl, by simp, (by first | omega | (simp; omega)), by simpa using ho5, hb5, Lib.hid (ins_e HAC.out H2.out), by omega⟩
                  case measure => simp [intOf]; omega
            · have HEND := Lib.hid (show acc ++ (if db = true then [] else [t]) = insGo t false ys by rw [← HACC.out, List.drop_eq_nil_of_le (by have := HYL.out; omega)]; rfl)
              have HO3 := Lib.hid ho3
              clear ho3 HACC hcell
              cases db
              · have HE2 := Lib.hid (show acc ++ [t] = insGo t false ys from HEND.out)
                go_wp2_with (at_builtin; go_must (refine wpList_append_one (w0 := wo) (.tmp 66) (.tmp 68) _ wo.heap.size 3 i0 _ 1 8 _ acc.length _ (encInt t) rfl rfl Tryz.underlying22 hi hI0 hI1 hI2 rfl (by omega) rfl (HO3.out) _ rfl (by first | rfl | simp) rfl (OInt.one _) (by unfold maxLen; omega) (by omega) hbi (Nat.le_refl _) (by omega) ?_); intro A5 c5 w5 ho5 hb5 hs5)
                have HSL5 := Lib.hid (times_sl (ho5) HE2.out HQO.out)
                have HLO5 := Lib.hid (times_ow (b' := w.heap.size) ho5 HE2.out (by have := hb.le; have := hbq.le; simp at *; omega))
                clear ho5
                go_wp2
                go_roundw
                case rel => exact ⟨q + 1, acc.length + 1, A5, c5, by omega, by go_num, rfl, by have := HQL.out; rw [← HE2.out] at this; simpa using this, Lib.hid (by rw [HT.out]; exact HSL5.out), Lib.hid (by rw [HT.out]; exact HLO5.out), hbq.trans hb5⟩
                case measure => simp [intOf]; omega
              · have HE2 := Lib.hid (show acc = insGo t false ys by have := HEND.out; simpa using this)
                have HSL5 := Lib.hid (times_sl0 HO3.out HE2.out HQO.out)
                have HLO5 := Lib.hid (times_ow0 (b' := w.heap.size) HO3.out HE2.out (by have := hb.le; have := hbq.le; simp at *; omega))
                go_wp2
                go_roundw
                case rel => exact ⟨q + 1, acc.length, A3, c3, by omega, by go_num, rfl, by have := HQL.out; rw [← HE2.out] at this; exact this, Lib.hid (by rw [HT.out]; exact HSL5.out), Lib.hid (by rw [HT.out]; exact HLO5.out), hbq.trans hbi⟩
                case measure => simp [intOf]; omega
        · have HQ2 := Lib.hid (show tl xs fr to q = timesL xs fr to by rw [show q = 2 by omega]; rfl)
          have HSF := Lib.hid (show SlAt RInt 1 wo A2 m (timesL xs fr to) by rw [← HQ2.out]; exact HSL.out)
          have HLF := Lib.hid HSF.out.len
          have HRF := Lib.hid (show wo.ownsRow w.heap.size 3 1 (.slice A2 m c2) m ((timesL xs fr to).flatMap encInt) by rw [← HQ2.out]; exact HLO.out)
          have HOF := Lib.hid (HOK.out 2)
          replace HOF := Lib.hid (show ∀ y ∈ timesL xs fr to, In64 y from HOF.out)
          generalize timesL xs fr to = zs at *
          go_wp2
          refine bodyPost_ret (results_tmp rfl _ _ _) rfl ⟨A2, c2, by rw [HLF.out]; rfl, by rw [HLF.out]; exact HRF.out, HOF.out, hb.trans (((Ext.refl _).alloc _).trans hbq)⟩
theorem l03Times_c (xs : List Pt) (fr to : Int) (A : Option Addr) (n c : Nat) (w : World) (h : SlAt RPt 4 w A n xs) (hl : n ≤ 200) (hf : In64 fr) (ht : In64 to) : Calls Tryz.prog 68 #[.agg #[.slice A n c], .int .i64 fr, .int .i64 to] w (RetLo RInt 1 w (timesL xs fr to)) := by
  refine (l03Times_o xs fr to A n c w h hl hf ht).mono ?_
  rintro e w2 ⟨A2, c2, rfl, h2, h3, h4⟩
  exact ⟨A2, c2, rfl, (OwnAt.flat (enc := encInt) (ok := In64) (fun _ => rfl) h3 h2).slAt, fun k hk => (h2.lt k hk).1, h4⟩
end Go.Proofs.YtgmlcohffdeplaaGreat
/-! Sub -/
namespace Go.Proofs.YtgmlcohffdeplaaGreat
open Go.RowKit
set_option linter.unusedVariables false
set_option maxHeartbeats 2000000 in
set_option maxRecDepth 10000 in
theorem sVecSub_c (a b : Vec) (w : World) : Calls Tryz.prog 156 #[.agg #[.int .i64 a.A, .int .i64 a.B, .int .i64 a.C], .agg #[.int .i64 b.A, .int .i64 b.B, .int .i64 b.C]] w (Ret w (.tuple #[.agg #[.int .i64 (subV a b).A, .int .i64 (subV a b).B, .int .i64 (subV a b).C], .bool (fitsB b a)])) := by
  have hF := Lib.hid (fun u : World => sVecFits_c b a u)
  rcases (Bool.eq_false_or_eq_true (fitsB b a)).symm with h1 | h1
  · have HD := Lib.hid (show subV a b = ⟨0, 0, 0⟩ by unfold subV; rw [h1]; rfl)
    rw [HD.out, h1]
    rw [h1] at hF
    go_enter Tryz.func156, Tryz.ntmps156
    go_wp2_with fail
    refine (hF.out _).mono ?_
    rintro e w1 ⟨rfl, hb1⟩
    obtain ⟨hcr1, hfr1, hz1⟩ := hb1.rules
    (try simp at hz1)
    have hy1_w0 : w.heap.size < w1.heap.size := (by omega)
    have hy1_w1 : w.heap.size + 1 < w1.heap.size := (by omega)
    have hy1_w2 : w.heap.size + 1 + 1 < w1.heap.size := (by omega)
    have q0 := (hb1).cell (cell_box_at ((w.alloc (.cells #[.int .i64 a.A, .int .i64 a.B, .int .i64 a.C] 59)).alloc (.cells #[.int .i64 b.A, .int .i64 b.B, .int .i64 b.C] 59)) (w.heap.size + 1 + 1) (by simp) [.int .i64 0, .int .i64 0, .int .i64 0] 59 0 _ rfl)
    have q1 := (hb1).cell (cell_box_at ((w.alloc (.cells #[.int .i64 a.A, .int .i64 a.B, .int .i64 a.C] 59)).alloc (.cells #[.int .i64 b.A, .int .i64 b.B, .int .i64 b.C] 59)) (w.heap.size + 1 + 1) (by simp) [.int .i64 0, .int .i64 0, .int .i64 0] 59 1 _ rfl)
    have q2 := (hb1).cell (cell_box_at ((w.alloc (.cells #[.int .i64 a.A, .int .i64 a.B, .int .i64 a.C] 59)).alloc (.cells #[.int .i64 b.A, .int .i64 b.B, .int .i64 b.C] 59)) (w.heap.size + 1 + 1) (by simp) [.int .i64 0, .int .i64 0, .int .i64 0] 59 2 _ rfl)
    have qf0 := ((hb1).frozenEq (a := ⟨w.heap.size + 1 + 1, 0, none⟩) (by simp)).trans (frozen_box_at ((w.alloc (.cells #[.int .i64 a.A, .int .i64 a.B, .int .i64 a.C] 59)).alloc (.cells #[.int .i64 b.A, .int .i64 b.B, .int .i64 b.C] 59)) (w.heap.size + 1 + 1) (by simp) #[.int .i64 0, .int .i64 0, .int .i64 0] 59 0)
    have qf1 := ((hb1).frozenEq (a := ⟨w.heap.size + 1 + 1, 1, none⟩) (by simp)).trans (frozen_box_at ((w.alloc (.cells #[.int .i64 a.A, .int .i64 a.B, .int .i64 a.C] 59)).alloc (.cells #[.int .i64 b.A, .int .i64 b.B, .int .i64 b.C] 59)) (w.heap.size + 1 + 1) (by simp) #[.int .i64 0, .int .i64 0, .int .i64 0] 59 1)
    have qf2 := ((hb1).frozenEq (a := ⟨w.heap.size + 1 + 1, 2, none⟩) (by simp)).trans (frozen_box_at ((w.alloc (.cells #[.int .i64 a.A, .int .i64 a.B, .int .i64 a.C] 59)).alloc (.cells #[.int .i64 b.A, .int .i64 b.B, .int .i64 b.C] 59)) (w.heap.size + 1 + 1) (by simp) #[.int .i64 0, .int .i64 0, .int .i64 0] 59 2)
    go_wp2
    exact ret_is (by simp [results, Tryz.results156, go_sem, *]) rfl (by repeat (first | exact Ext.refl _ | assumption | apply Ext.alloc | apply Ext.drewN | apply Ext.drew | (refine Ext.setCell ?_ (by first | (simp; done) | (simp; omega) | omega) _) | (refine Ext.trans ?_ (by assumption))))
  · have HD := Lib.hid (show subV a b = ⟨a.A - b.A, a.B - b.B, a.C - b.C⟩ by unfold subV; rw [h1]; rfl)
    obtain ⟨h2, h3, h4, h5, h6⟩ := fits_iff.1 h1
    rw [vecB_iff] at h2 h3
    rw [HD.out, h1]
    rw [h1] at hF
    clear h1
    go_enter Tryz.func156, Tryz.ntmps156
    go_wp2_with fail
    refine (hF.out _).mono ?_
    rintro e w1 ⟨rfl, hb1⟩
    obtain ⟨hcr1, hfr1, hz1⟩ := hb1.rules
    (try simp at hz1)
    have hy1_w0 : w.heap.size < w1.heap.size := (by omega)
    have hy1_w1 : w.heap.size + 1 < w1.heap.size := (by omega)
    have hy1_w2 : w.heap.size + 1 + 1 < w1.heap.size := (by omega)
    have p0 := ((((Ext.refl _).alloc _).alloc _).trans hb1).cell (cell_box_at w (w.heap.size) (by simp) [.int .i64 a.A, .int .i64 a.B, .int .i64 a.C] 59 0 _ rfl)
    have p1 := ((((Ext.refl _).alloc _).alloc _).trans hb1).cell (cell_box_at w (w.heap.size) (by simp) [.int .i64 a.A, .int .i64 a.B, .int .i64 a.C] 59 1 _ rfl)
    have p2 := ((((Ext.refl _).alloc _).alloc _).trans hb1).cell (cell_box_at w (w.heap.size) (by simp) [.int .i64 a.A, .int .i64 a.B, .int .i64 a.C] 59 2 _ rfl)
    have pf0 := (((((Ext.refl _).alloc _).alloc _).trans hb1).frozenEq (a := ⟨w.heap.size, 0, none⟩) (by simp)).trans (frozen_box_at w (w.heap.size) (by simp) #[.int .i64 a.A, .int .i64 a.B, .int .i64 a.C] 59 0)
    have pf1 := (((((Ext.refl _).alloc _).alloc _).trans hb1).frozenEq (a := ⟨w.heap.size, 1, none⟩) (by simp)).trans (frozen_box_at w (w.heap.size) (by simp) #[.int .i64 a.A, .int .i64 a.B, .int .i64 a.C] 59 1)
    have pf2 := (((((Ext.refl _).alloc _).alloc _).trans hb1).frozenEq (a := ⟨w.heap.size, 2, none⟩) (by simp)).trans (frozen_box_at w (w.heap.size) (by simp) #[.int .i64 a.A, .int .i64 a.B, .int .i64 a.C] 59 2)
    have r0 := (((Ext.refl _).alloc _).trans hb1).cell (cell_box_at (w.alloc (.cells #[.int .i64 a.A, .int .i64 a.B, .int .i64 a.C] 59)) (w.heap.size + 1) (by simp) [.int .i64 b.A, .int .i64 b.B, .int .i64 b.C] 59 0 _ rfl)
    have r1 := (((Ext.refl _).alloc _).trans hb1).cell (cell_box_at (w.alloc (.cells #[.int .i64 a.A, .int .i64 a.B, .int .i64 a.C] 59)) (w.heap.size + 1) (by simp) [.int .i64 b.A, .int .i64 b.B, .int .i64 b.C] 59 1 _ rfl)
    have r2 := (((Ext.refl _).alloc _).trans hb1).cell (cell_box_at (w.alloc (.cells #[.int .i64 a.A, .int .i64 a.B, .int .i64 a.C] 59)) (w.heap.size + 1) (by simp) [.int .i64 b.A, .int .i64 b.B, .int .i64 b.C] 59 2 _ rfl)
    have rf0 := ((((Ext.refl _).alloc _).trans hb1).frozenEq (a := ⟨w.heap.size + 1, 0, none⟩) (by simp)).trans (frozen_box_at (w.alloc (.cells #[.int .i64 a.A, .int .i64 a.B, .int .i64 a.C] 59)) (w.heap.size + 1) (by simp) #[.int .i64 b.A, .int .i64 b.B, .int .i64 b.C] 59 0)
    have rf1 := ((((Ext.refl _).alloc _).trans hb1).frozenEq (a := ⟨w.heap.size + 1, 1, none⟩) (by simp)).trans (frozen_box_at (w.alloc (.cells #[.int .i64 a.A, .int .i64 a.B, .int .i64 a.C] 59)) (w.heap.size + 1) (by simp) #[.int .i64 b.A, .int .i64 b.B, .int .i64 b.C] 59 1)
    have rf2 := ((((Ext.refl _).alloc _).trans hb1).frozenEq (a := ⟨w.heap.size + 1, 2, none⟩) (by simp)).trans (frozen_box_at (w.alloc (.cells #[.int .i64 a.A, .int .i64 a.B, .int .i64 a.C] 59)) (w.heap.size + 1) (by simp) #[.int .i64 b.A, .int .i64 b.B, .int .i64 b.C] 59 2)
    have q0 := (hb1).cell (cell_box_at ((w.alloc (.cells #[.int .i64 a.A, .int .i64 a.B, .int .i64 a.C] 59)).alloc (.cells #[.int .i64 b.A, .int .i64 b.B, .int .i64 b.C] 59)) (w.heap.size + 1 + 1) (by simp) [.int .i64 0, .int .i64 0, .int .i64 0] 59 0 _ rfl)
    have q1 := (hb1).cell (cell_box_at ((w.alloc (.cells #[.int .i64 a.A, .int .i64 a.B, .int .i64 a.C] 59)).alloc (.cells #[.int .i64 b.A, .int .i64 b.B, .int .i64 b.C] 59)) (w.heap.size + 1 + 1) (by simp) [.int .i64 0, .int .i64 0, .int .i64 0] 59 1 _ rfl)
    have q2 := (hb1).cell (cell_box_at ((w.alloc (.cells #[.int .i64 a.A, .int .i64 a.B, .int .i64 a.C] 59)).alloc (.cells #[.int .i64 b.A, .int .i64 b.B, .int .i64 b.C] 59)) (w.heap.size + 1 + 1) (by simp) [.int .i64 0, .int .i64 0, .int .i64 0] 59 2 _ rfl)
    have qf0 := ((hb1).frozenEq (a := ⟨w.heap.size + 1 + 1, 0, none⟩) (by simp)).trans (frozen_box_at ((w.alloc (.cells #[.int .i64 a.A, .int .i64 a.B, .int .i64 a.C] 59)).alloc (.cells #[.int .i64 b.A, .int .i64 b.B, .int .i64 b.C] 59)) (w.heap.size + 1 + 1) (by simp) #[.int .i64 0, .int .i64 0, .int .i64 0] 59 0)
    have qf1 := ((hb1).frozenEq (a := ⟨w.heap.size + 1 + 1, 1, none⟩) (by simp)).trans (frozen_box_at ((w.alloc (.cells #[.int .i64 a.A, .int .i64 a.B, .int .i64 a.C] 59)).alloc (.cells #[.int .i64 b.A, .int .i64 b.B, .int .i64 b.C] 59)) (w.heap.size + 1 + 1) (by simp) #[.int .i64 0, .int .i64 0, .int .i64 0] 59 1)
    have qf2 := ((hb1).frozenEq (a := ⟨w.heap.size + 1 + 1, 2, none⟩) (by simp)).trans (frozen_box_at ((w.alloc (.cells #[.int .i64 a.A, .int .i64 a.B, .int .i64 a.C] 59)).alloc (.cells #[.int .i64 b.A, .int .i64 b.B, .int .i64 b.C] 59)) (w.heap.size + 1 + 1) (by simp) #[.int .i64 0, .int .i64 0, .int .i64 0] 59 2)
    go_wp2
    exact ret_is (by simp [results, Tryz.results156, go_sem, *]) rfl (by repeat (first | exact Ext.refl _ | assumption | apply Ext.alloc | apply Ext.drewN | apply Ext.drew | (refine Ext.setCell ?_ (by first | (simp; done) | (simp; omega) | omega) _) | (refine Ext.trans ?_ (by assumption))))
/-! ### sums of the reference -/
def tot (rest : Bool) (v : Vec) (c : Vec → Int) (l : List Pt) (ts : List Int) (fr to : Int) (k : Nat) : Int :=
  if rest = true then (cutT ts fr to k - fr) * c v - area c l fr (cutT ts fr to k) else area c l fr (cutT ts fr to k)
def gF (rest : Bool) (v : Vec) (c : Vec → Int) (F : Vec) : Int := if rest = true then c v - c F else c F
theorem tot_in {rest : Bool} {v : Vec} (hv : rest = true → vecR v) {c : Vec → Int} (hc : comp c) {l : List Pt} (hall : ∀ x ∈ l, ptB x = true) {ts : List Int} {fr to : Int} (h0 : 0 ≤ fr) (h1 : to ≤ 1000000000) (h : fr < to) (k : Nat) : -1000000000000000 ≤ tot rest v c l ts fr to k ∧ tot rest v c l ts fr to k ≤ 1000000000000000 := by
  have h2 := area_in hc hall (ts := ts) h0 h1 h k
  have h3 := cutT_le (ts := ts) (k := k) h
  unfold tot; split
  · rename_i hr
    have h4 := hc _ (hv hr)
    have h5 := mul_in (a := cutT ts fr to k - fr) (b := c v) (by omega) (by omega) h4.1 h4.2
    omega
  · omega
theorem tot_pos {rest : Bool} {v : Vec} (hv : rest = true → vecR v) {c : Vec → Int} (hc : comp c) {l : List Pt} (hall : ∀ x ∈ l, ptB x = true) {ts : List Int} {fr to : Int} (h0 : 0 ≤ fr) (h1 : to ≤ 1000000000) (hft : fr < to)
    (hs : ts.Pairwise (· < ·)) (hin : ∀ x ∈ l, x.At ∈ ts) (hto : to ∈ ts) {k : Nat} {t u s g : Int} (hk : ts[k]? = some t) (hu : ts[k + 1]? = some u) (ht1 : fr ≤ t) (ht2 : t < to) (hg : g = gF rest v c (freeAt l t)) (hsA : s = tot rest v c l ts fr to k) :
    wrap64 (s + wrap64 ((u - t) * g)) = tot rest v c l ts fr to (k + 1) := by
  obtain ⟨u', hu', g1, g2, e1, e2, e3, _⟩ := area_stepT (c := c) hs hin hto hk ht1 ht2
  rw [hu] at hu'; injection hu' with hu'; subst hu'
  have hF := hc _ (freeAt_in hall t)
  have h5 := tot_in hv hc hall (ts := ts) h0 h1 hft k
  have hb : -1000000000000000 ≤ (u - t) * g ∧ (u - t) * g ≤ 1000000000000000 := by
    have m1 := mul_in (a := u - t) (b := c (freeAt l t)) (by omega) (by omega) hF.1 hF.2
    rw [hg]; unfold gF; split
    · rename_i hr
      have h6 := hc _ (hv hr)
      have m2 := mul_in (a := u - t) (b := c v) (by omega) (by omega) h6.1 h6.2
      rw [Int.mul_sub]; omega
    · omega
  rw [IntWalk.wrap64_in ((u - t) * g) ⟨by omega, by omega⟩, IntWalk.wrap64_in _ ⟨by omega, by omega⟩, hsA, hg]
  unfold tot gF
  split
  · rw [e3, e2, e1, Int.mul_sub, show u - fr = (t - fr) + (u - t) by omega, Int.add_mul]; omega
  · rw [e3]
theorem tot_skip {rest : Bool} {v : Vec} {c : Vec → Int} {l : List Pt} {ts : List Int} {fr to : Int} {k : Nat} {t : Int} (hs : ts.Pairwise (· < ·)) (hfr : fr ∈ ts) (hk : ts[k]? = some t) (h : fr < to) (hn : t < fr ∨ to ≤ t) : tot rest v c l ts fr to (k + 1) = tot rest v c l ts fr to k := by
  unfold tot; rw [cutT_skip hs hfr hk h hn]
theorem tot_zero {rest : Bool} {v : Vec} {c : Vec → Int} {l : List Pt} {ts : List Int} {fr to : Int} (hs : ts.Pairwise (· < ·)) (hfr : fr ∈ ts) (h : fr < to) : tot rest v c l ts fr to 0 = 0 := by
  unfold tot; rw [cutT_first hs hfr h, area_self]; split <;> simp
theorem tot_end {rest : Bool} {v : Vec} {c : Vec → Int} {l : List Pt} {ts : List Int} {fr to : Int} {k : Nat} (hk : k = ts.length) (h : fr < to) : tot rest v c l ts fr to k = if rest = true then (to - fr) * c v - area c l fr to else area c l fr to := by
  unfold tot; rw [hk, cutT_end h]
def fitsAll (l : List Pt) (fr to : Int) (v : Vec) : Prop := ∀ t, fr ≤ t → t < to → fitsB (freeAt l t) v = true
open Classical in
noncomputable def usedB (l : List Pt) (v : Vec) (fr to : Int) : Bool := overB l fr to && decide (fitsAll l fr to v)
noncomputable def usedU (l : List Pt) (v : Vec) (fr to : Int) : Use3 := if usedB l v fr to = true then ⟨(to - fr) * v.A - area Vec.A l fr to, (to - fr) * v.B - area Vec.B l fr to, (to - fr) * v.C - area Vec.C l fr to⟩ else ⟨0, 0, 0⟩
theorem SlAt.set {α : Type} {enc : α → List Value} {ok : α → Prop} {sz m c : Nat} {A : Option Addr} {w : World} {xs : List α} (h : SlAt (Flat enc ok) sz w A m xs) (p : Addr) (hp : ∀ k, (Value.slice A m c).ownBlock = some k → p.block ≠ k) (u : Value) : SlAt (Flat enc ok) sz (w.setCell p u) A m xs := by
  refine ⟨h.1, fun hm => ?_⟩
  obtain ⟨b, o, rfl, hb, hc⟩ := h.2 hm
  refine ⟨b, o, rfl, by simpa using hb, fun k x hx => ?_⟩
  obtain ⟨cs, h1, h2, h3⟩ := hc k x hx
  exact ⟨cs, h1, fun j u' hu => by
    rw [World.cell?_setCell_other]
    · exact h2 j u' hu
    · intro e; exact hp b rfl (by rw [e]), h3⟩
end Go.Proofs.YtgmlcohffdeplaaGreat
