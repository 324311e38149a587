/- Contracts over profiles: what is free over a time, the given program. -/
import Derived.Test.YtbfambeoboiifaaOver
namespace Go.Proofs.Ytbfambeoboiifaa
open Go.RowKit
set_option linter.unusedVariables false
def overB (l : List Pt) (a b : Int) : Bool := profB l && spanB a b
def overU (l : List Pt) (a b : Int) : Use3 := if overB l a b = true then ⟨area Vec.A l a b, area Vec.B l a b, area Vec.C l a b⟩ else ⟨0, 0, 0⟩
theorem overU_bad {l : List Pt} {a b : Int} (h : overB l a b = false) : overU l a b = ⟨0, 0, 0⟩ := by unfold overU; rw [h]; rfl
theorem spanB_iff {a b : Int} : spanB a b = true ↔ (0 ≤ a ∧ a ≤ 1000000000) ∧ (0 ≤ b ∧ b ≤ 1000000000) ∧ a < b := by
  unfold spanB timeB; simp only [Bool.and_eq_true, decide_eq_true_iff, and_assoc]
theorem mul_in {a b : Int} (h0 : 0 ≤ a) (h1 : a ≤ 1000000000) (h2 : 0 ≤ b) (h3 : b ≤ 1000000) : 0 ≤ a * b ∧ a * b ≤ 1000000000000000 :=
  ⟨Int.mul_nonneg h0 h2, Int.le_trans (Int.mul_le_mul h1 h3 h2 (by omega)) (by omega)⟩
def comp (c : Vec → Int) : Prop := ∀ v, vecR v → 0 ≤ c v ∧ c v ≤ 1000000
theorem comp_A : comp Vec.A := fun _ h => h.1
theorem comp_B : comp Vec.B := fun _ h => h.2.1
theorem comp_C : comp Vec.C := fun _ h => h.2.2
theorem area_in {c : Vec → Int} (hc : comp c) {l : List Pt} (hall : ∀ x ∈ l, ptB x = true) {ts : List Int} {fr to : Int} (h0 : 0 ≤ fr) (h1 : to ≤ 1000000000) (h : fr < to) (k : Nat) : 0 ≤ area c l fr (cutT ts fr to k) ∧ area c l fr (cutT ts fr to k) ≤ 1000000000000000 := by
  have h2 := cutT_le (ts := ts) (k := k) h
  have h3 := area_bound (c := c) (l := l) h2.1 (fun t => hc _ (freeAt_in hall t))
  omega
theorem free_rng {l : List Pt} (hall : ∀ x ∈ l, ptB x = true) {k : Nat} {x : Pt} (hx : l[k]? = some x) {fr to : Int} (h0 : 0 ≤ fr) (h1 : to ≤ 1000000000) (h : fr < to) {E X : Int} (hE : bndT (l.map Pt.At) to (k + 1) = E) (hX : max fr x.At = X) : (0 ≤ E ∧ E ≤ 1000000000) ∧ (0 ≤ X ∧ X ≤ 1000000000) := by
  have h2 := (ptB_parts (hall x (List.mem_of_getElem? hx))).1
  refine ⟨?_, by omega⟩
  subst hE
  unfold bndT
  cases hy : (l.map Pt.At)[k + 1]? with
  | none => simp only []; omega
  | some y =>
    rw [List.getElem?_map] at hy
    cases hz : l[k + 1]? with
    | none => rw [hz] at hy; cases hy
    | some z =>
      rw [hz] at hy; injection hy with hy; subst hy
      have := (ptB_parts (hall z (List.mem_of_getElem? hz))).1
      simp only []; omega
theorem free_pos {c : Vec → Int} (hc : comp c) {l : List Pt} (hs : l.Pairwise (fun a b => a.At < b.At)) (hall : ∀ x ∈ l, ptB x = true) {k : Nat} {x : Pt} (hx : l[k]? = some x) {fr to : Int} (h0 : 0 ≤ fr) (h1 : to ≤ 1000000000) (h : fr < to) {E X s : Int} (hE : bndT (l.map Pt.At) to (k + 1) = E) (hX : max fr x.At = X)
    (hsA : s = area c l fr (cutT (l.map Pt.At) fr to k)) (hp : 0 < wrap64 (E - X)) : wrap64 (s + wrap64 (wrap64 (E - X) * c x.Free)) = area c l fr (cutT (l.map Pt.At) fr to (k + 1)) := by
  obtain ⟨r1, r2⟩ := free_rng hall hx h0 h1 h hE hX
  have e1 : wrap64 (E - X) = E - X := IntWalk.wrap64_in _ ⟨by omega, by omega⟩
  rw [e1] at hp ⊢
  have h3 := hc _ (ptB_parts (hall x (List.mem_of_getElem? hx))).2
  have h4 := mul_in (a := E - X) (b := c x.Free) (by omega) (by omega) h3.1 h3.2
  have e2 : wrap64 ((E - X) * c x.Free) = (E - X) * c x.Free := IntWalk.wrap64_in _ ⟨by omega, by omega⟩
  have h5 := area_in hc hall (ts := l.map Pt.At) h0 h1 h k
  rw [e2, hsA, IntWalk.wrap64_in _ ⟨by omega, by omega⟩]
  have h6 := (area_step (c := c) hs hx h).1 (by rw [hE, hX]; exact hp)
  rw [h6, hE, hX]
theorem free_neg {c : Vec → Int} {l : List Pt} (hs : l.Pairwise (fun a b => a.At < b.At)) (hall : ∀ x ∈ l, ptB x = true) {k : Nat} {x : Pt} (hx : l[k]? = some x) {fr to : Int} (h0 : 0 ≤ fr) (h1 : to ≤ 1000000000) (h : fr < to) {E X s : Int} (hE : bndT (l.map Pt.At) to (k + 1) = E) (hX : max fr x.At = X)
    (hsA : s = area c l fr (cutT (l.map Pt.At) fr to k)) (hp : ¬ 0 < wrap64 (E - X)) : s = area c l fr (cutT (l.map Pt.At) fr to (k + 1)) := by
  obtain ⟨r1, r2⟩ := free_rng hall hx h0 h1 h hE hX
  have e1 : wrap64 (E - X) = E - X := IntWalk.wrap64_in _ ⟨by omega, by omega⟩
  rw [e1] at hp
  rw [hsA, (area_step (c := c) hs hx h).2 (by rw [hE, hX]; exact hp)]
theorem bnd_some {l : List Pt} {k : Nat} {y : Pt} (hy : l[k]? = some y) (to : Int) : bndT (l.map Pt.At) to k = if y.At < to then y.At else to := by
  unfold bndT; rw [List.getElem?_map, hy]; simp only [Option.map_some]; split <;> omega
theorem bnd_none {l : List Pt} {k : Nat} (hy : l.length ≤ k) (to : Int) : bndT (l.map Pt.At) to k = to := by
  unfold bndT; rw [List.getElem?_eq_none (by simpa using hy)]
theorem max_if (a b : Int) : max a b = if a < b then b else a := by split <;> omega
theorem fst_mem {l : List Pt} (h : ∃ x r, l = x :: r ∧ x.At = 0) {fr to : Int} (h0 : 0 ≤ fr) (h1 : fr < to) : cutT (l.map Pt.At) fr to 0 = fr := by
  obtain ⟨x, r, rfl, e⟩ := h
  unfold cutT bndT; simp [e]; omega
set_option maxHeartbeats 4000000 in
set_option maxRecDepth 10000 in
theorem FreeOver_c (xs : List Pt) (fr to : Int) (A : Option Addr) (n c : Nat) (w : World) (h : SlAt RPt 4 w A n xs) (hl : n ≤ maxLen) : Calls Try.prog 21 #[.agg #[.slice A n c], .int .i64 fr, .int .i64 to] w (Ret w (.tuple #[.agg #[.int .i64 (overU xs fr to).A, .int .i64 (overU xs fr to).B, .int .i64 (overU xs fr to).C], .bool (overB xs fr to)])) := by
  have hl' := hl
  unfold maxLen at hl
  have HN := Lib.hid h.len
  have HM := Lib.hid (Flat.mono Pt.enc Pt.ok)
  have hA := Lib.hid (fun (u : World) (e : Ext w u) => ProfOk_c xs A n c u (h.ext HM.out e) hl')
  rcases (Bool.eq_false_or_eq_true (overB xs fr to)).symm with hO | hO
  · rw [overU_bad hO, hO]
    rcases (Bool.eq_false_or_eq_true (profB xs)).symm with hP | hP
    · rw [hP] at hA
      go_enter Try.func21, Try.ntmps21
      go_wp2_with fail
      refine (hA.out _ (by repeat (first | exact Ext.refl _ | assumption | apply Ext.alloc | apply Ext.drewN | apply Ext.drew | (refine Ext.setCell ?_ (by first | (simp; done) | (simp; omega) | omega) _) | (refine Ext.trans ?_ (by assumption))))).mono ?_
      rintro e w1 ⟨rfl, hb1⟩
      obtain ⟨hcr1, hfr1, hz1⟩ := hb1.rules
      (try simp at hz1)
      have hy1_w0 : w.heap.size < w1.heap.size := (by omega)
      have hy1_w1 : w.heap.size + 1 < w1.heap.size := (by omega)
      have q0 := (hb1).cell (cell_box_at (w.alloc (.cells #[.slice A n c] 40)) (w.heap.size + 1) (by simp) [.int .i64 0, .int .i64 0, .int .i64 0] 45 0 _ rfl)
      have q1 := (hb1).cell (cell_box_at (w.alloc (.cells #[.slice A n c] 40)) (w.heap.size + 1) (by simp) [.int .i64 0, .int .i64 0, .int .i64 0] 45 1 _ rfl)
      have q2 := (hb1).cell (cell_box_at (w.alloc (.cells #[.slice A n c] 40)) (w.heap.size + 1) (by simp) [.int .i64 0, .int .i64 0, .int .i64 0] 45 2 _ rfl)
      have qf0 := ((hb1).frozenEq (a := ⟨w.heap.size + 1, 0, none⟩) (by simp)).trans (frozen_box_at (w.alloc (.cells #[.slice A n c] 40)) (w.heap.size + 1) (by simp) #[.int .i64 0, .int .i64 0, .int .i64 0] 45 0)
      have qf1 := ((hb1).frozenEq (a := ⟨w.heap.size + 1, 1, none⟩) (by simp)).trans (frozen_box_at (w.alloc (.cells #[.slice A n c] 40)) (w.heap.size + 1) (by simp) #[.int .i64 0, .int .i64 0, .int .i64 0] 45 1)
      have qf2 := ((hb1).frozenEq (a := ⟨w.heap.size + 1, 2, none⟩) (by simp)).trans (frozen_box_at (w.alloc (.cells #[.slice A n c] 40)) (w.heap.size + 1) (by simp) #[.int .i64 0, .int .i64 0, .int .i64 0] 45 2)
      go_wp2
      exact ret_is (by simp [results, Try.results21, go_sem, *]) rfl (by repeat (first | exact Ext.refl _ | assumption | apply Ext.alloc | apply Ext.drewN | apply Ext.drew | (refine Ext.setCell ?_ (by first | (simp; done) | (simp; omega) | omega) _) | (refine Ext.trans ?_ (by assumption))))
    · have hS := Lib.hid (fun u : World => isSpan_c fr to u)
      rw [show spanB fr to = false by unfold overB at hO; rw [hP] at hO; simpa using hO] at hS
      rw [hP] at hA
      go_enter Try.func21, Try.ntmps21
      go_wp2_with fail
      refine (hA.out _ (by repeat (first | exact Ext.refl _ | assumption | apply Ext.alloc | apply Ext.drewN | apply Ext.drew | (refine Ext.setCell ?_ (by first | (simp; done) | (simp; omega) | omega) _) | (refine Ext.trans ?_ (by assumption))))).mono ?_
      rintro e w1 ⟨rfl, hb1⟩
      obtain ⟨hcr1, hfr1, hz1⟩ := hb1.rules
      (try simp at hz1)
      have hy1_w0 : w.heap.size < w1.heap.size := (by omega)
      have hy1_w1 : w.heap.size + 1 < w1.heap.size := (by omega)
      go_wp2_with fail
      refine (hS.out _).mono ?_
      rintro e w2 ⟨rfl, rfl⟩
      have q0 := (hb1).cell (cell_box_at (w.alloc (.cells #[.slice A n c] 40)) (w.heap.size + 1) (by simp) [.int .i64 0, .int .i64 0, .int .i64 0] 45 0 _ rfl)
      have q1 := (hb1).cell (cell_box_at (w.alloc (.cells #[.slice A n c] 40)) (w.heap.size + 1) (by simp) [.int .i64 0, .int .i64 0, .int .i64 0] 45 1 _ rfl)
      have q2 := (hb1).cell (cell_box_at (w.alloc (.cells #[.slice A n c] 40)) (w.heap.size + 1) (by simp) [.int .i64 0, .int .i64 0, .int .i64 0] 45 2 _ rfl)
      have qf0 := ((hb1).frozenEq (a := ⟨w.heap.size + 1, 0, none⟩) (by simp)).trans (frozen_box_at (w.alloc (.cells #[.slice A n c] 40)) (w.heap.size + 1) (by simp) #[.int .i64 0, .int .i64 0, .int .i64 0] 45 0)
      have qf1 := ((hb1).frozenEq (a := ⟨w.heap.size + 1, 1, none⟩) (by simp)).trans (frozen_box_at (w.alloc (.cells #[.slice A n c] 40)) (w.heap.size + 1) (by simp) #[.int .i64 0, .int .i64 0, .int .i64 0] 45 1)
      have qf2 := ((hb1).frozenEq (a := ⟨w.heap.size + 1, 2, none⟩) (by simp)).trans (frozen_box_at (w.alloc (.cells #[.slice A n c] 40)) (w.heap.size + 1) (by simp) #[.int .i64 0, .int .i64 0, .int .i64 0] 45 2)
      go_wp2
      exact ret_is (by simp [results, Try.results21, go_sem, *]) rfl (by repeat (first | exact Ext.refl _ | assumption | apply Ext.alloc | apply Ext.drewN | apply Ext.drew | (refine Ext.setCell ?_ (by first | (simp; done) | (simp; omega) | omega) _) | (refine Ext.trans ?_ (by assumption))))
  obtain ⟨hP, hSp⟩ := Bool.and_eq_true_iff.1 hO
  have HU := Lib.hid (show overU xs fr to = ⟨area Vec.A xs fr to, area Vec.B xs fr to, area Vec.C xs fr to⟩ by unfold overU; rw [hO, if_pos rfl])
  have hS := Lib.hid (fun u : World => isSpan_c fr to u)
  rw [hSp] at hS
  rw [hP] at hA
  rw [hO]
  obtain ⟨⟨f0, f1⟩, ⟨t0, t1⟩, ft⟩ := spanB_iff.1 hSp
  obtain ⟨l1, l2, hfirst, hsort, hall⟩ := profB_parts hP
  have HSORT := Lib.hid hsort
  have HALL := Lib.hid hall
  have HFST := Lib.hid hfirst
  rw [HN.out] at l1 l2
  clear hsort hall hfirst hSp hP hO
  generalize overU xs fr to = r at *
  go_enter Try.func21, Try.ntmps21
  go_wp2_with fail
  refine (hA.out _ (by repeat (first | exact Ext.refl _ | assumption | apply Ext.alloc | apply Ext.drewN | apply Ext.drew | (refine Ext.setCell ?_ (by first | (simp; done) | (simp; omega) | omega) _) | (refine Ext.trans ?_ (by assumption))))).mono ?_
  rintro e w1 ⟨rfl, hb1⟩
  obtain ⟨hcr1, hfr1, hz1⟩ := hb1.rules
  (try simp at hz1)
  have hy1_w0 : w.heap.size < w1.heap.size := (by omega)
  have hy1_w1 : w.heap.size + 1 < w1.heap.size := (by omega)
  go_wp2_with fail
  refine (hS.out _).mono ?_
  rintro e w2 ⟨rfl, rfl⟩
  have q0 := (((Ext.refl _).alloc _).trans hb1).cell (cell_box_at w (w.heap.size) (by simp) [.slice A n c] 40 0 _ rfl)
  have qf0 := ((((Ext.refl _).alloc _).trans hb1).frozenEq (a := ⟨w.heap.size, 0, none⟩) (by simp)).trans (frozen_box_at w (w.heap.size) (by simp) #[.slice A n c] 40 0)
  go_wp2
  go_loopw [27] (fun i wr => ∃ (k : Nat) (sA sB sC : Int), k ≤ n ∧ i = .int .i64 k ∧ Hid (sA = area Vec.A xs fr (cutT (xs.map Pt.At) fr to k) ∧ sB = area Vec.B xs fr (cutT (xs.map Pt.At) fr to k) ∧ sC = area Vec.C xs fr (cutT (xs.map Pt.At) fr to k)) ∧ wr.cell? ⟨w1.heap.size, 0, none⟩ = some (.int .i64 sA) ∧ wr.cell? ⟨w1.heap.size, 1, none⟩ = some (.int .i64 sB) ∧ wr.cell? ⟨w1.heap.size, 2, none⟩ = some (.int .i64 sC) ∧ wr.frozen? ⟨w1.heap.size, 0, none⟩ = false ∧ wr.frozen? ⟨w1.heap.size, 1, none⟩ = false ∧ wr.frozen? ⟨w1.heap.size, 2, none⟩ = false ∧ Ext w1 wr ∧ w1.heap.size < wr.heap.size) (fun i _ => n - (intOf i).toNat)
  case atStart => exact ⟨0, 0, 0, 0, Nat.zero_le _, rfl, Lib.hid (by
      rw [fst_mem HFST.out f0 ft]; simp only [area_self, and_self]), (cell_box_at w1 _ rfl [.int .i64 0, .int .i64 0, .int .i64 0] 45 0 _ rfl), (cell_box_at w1 _ rfl [.int .i64 0, .int .i64 0, .int .i64 0] 45 1 _ rfl), (cell_box_at w1 _ rfl [.int .i64 0, .int .i64 0, .int .i64 0] 45 2 _ rfl), (frozen_box_at _ _ (by simp) _ _ _), (frozen_box_at _ _ (by simp) _ _ _), (frozen_box_at _ _ (by simp) _ _ _), (by repeat (first | exact Ext.refl _ | assumption | apply Ext.alloc | apply Ext.drewN | apply Ext.drew | (refine Ext.setCell ?_ (by first | (simp; done) | (simp; omega) | omega) _) | (refine Ext.trans ?_ (by assumption)))), by simp⟩
  case round =>
    obtain ⟨k, sA, sB, sC, hk, rfl, HA, c0, c1, c2, z0, z1, z2, hbr, hzr⟩ := hrel
    have hb : Ext w wr := (((Ext.refl w).alloc _).alloc _).trans (hb1.trans hbr)
    have q0 := (((Ext.refl _).alloc _).trans (hb1.trans hbr)).cell (cell_box_at w (w.heap.size) (by simp) [.slice A n c] 40 0 _ rfl)
    have qf0 := ((((Ext.refl _).alloc _).trans (hb1.trans hbr)).frozenEq (a := ⟨w.heap.size, 0, none⟩) (by simp)).trans (frozen_box_at w (w.heap.size) (by simp) #[.slice A n c] 40 0)
    have hyw : w.heap.size < wr.heap.size := by have := hb1.le; have := hbr.le; simp at *; omega
    by_cases hlt : k < n
    · obtain ⟨b, o, x, cs, rfl, hbw, hx, _, hc, rfl, _⟩ := (h.ext HM.out hb).at_ hlt
      have g0 := hc 0 _ rfl
      have g1 := hc 1 _ rfl
      have g2 := hc 2 _ rfl
      have g3 := hc 3 _ rfl
      simp only [Nat.add_zero] at g0
      by_cases hk1 : k + 1 < n
      · obtain ⟨b', o', y, cs', e, _, hy, _, hc', rfl, _⟩ := (h.ext HM.out hb).at_ hk1
        simp only [Option.some.injEq, Addr.mk.injEq, and_true] at e
        obtain ⟨rfl, rfl⟩ := e
        have d0 := hc' 0 _ rfl
        have d1 := hc' 1 _ rfl
        have d2 := hc' 2 _ rfl
        have d3 := hc' 3 _ rfl
        simp only [Nat.add_zero] at d0
        have HEE := Lib.hid (bnd_some hy to)
        have HX := Lib.hid hx
        clear hc hx h hc' hy
        go_wp2
        · rename_i hp
          go_roundw
          case rel =>
            obtain ⟨e1, e2, e3⟩ := HA.out
            rw [free_pos comp_A HSORT.out HALL.out HX.out f0 t1 ft HEE.out (max_if _ _) e1 hp, free_pos comp_B HSORT.out HALL.out HX.out f0 t1 ft HEE.out (max_if _ _) e2 hp, free_pos comp_C HSORT.out HALL.out HX.out f0 t1 ft HEE.out (max_if _ _) e3 hp]
            exact ⟨k + 1, _, _, _, by omega, by go_num, Lib.hid ⟨rfl, rfl, rfl⟩, by go_simp, by go_simp, by go_simp, by go_simp, by go_simp, by go_simp, (by repeat (first | exact Ext.refl _ | assumption | apply Ext.alloc | apply Ext.drewN | apply Ext.drew | (refine Ext.setCell ?_ (by first | (simp; done) | (simp; omega) | omega) _) | (refine Ext.trans ?_ (by assumption)))), by simp; omega⟩
          case measure => simp [intOf]; omega
        · rename_i hp
          go_roundw
          case rel =>
            obtain ⟨e1, e2, e3⟩ := HA.out
            exact ⟨k + 1, sA, sB, sC, by omega, by go_num, Lib.hid ⟨free_neg HSORT.out HALL.out HX.out f0 t1 ft HEE.out (max_if _ _) e1 (by omega), free_neg HSORT.out HALL.out HX.out f0 t1 ft HEE.out (max_if _ _) e2 (by omega), free_neg HSORT.out HALL.out HX.out f0 t1 ft HEE.out (max_if _ _) e3 (by omega)⟩, by go_simp, by go_simp, by go_simp, by go_simp, by go_simp, by go_simp, (by repeat (first | exact Ext.refl _ | assumption | apply Ext.alloc | apply Ext.drewN | apply Ext.drew | (refine Ext.setCell ?_ (by first | (simp; done) | (simp; omega) | omega) _) | (refine Ext.trans ?_ (by assumption)))), by simp; omega⟩
          case measure => simp [intOf]; omega
      · have HEE := Lib.hid (bnd_none (show xs.length ≤ k + 1 by rw [HN.out]; omega) to)
        have HX := Lib.hid hx
        clear hc hx h
        go_wp2
        · rename_i hp
          go_roundw
          case rel =>
            obtain ⟨e1, e2, e3⟩ := HA.out
            rw [free_pos comp_A HSORT.out HALL.out HX.out f0 t1 ft HEE.out (max_if _ _) e1 hp, free_pos comp_B HSORT.out HALL.out HX.out f0 t1 ft HEE.out (max_if _ _) e2 hp, free_pos comp_C HSORT.out HALL.out HX.out f0 t1 ft HEE.out (max_if _ _) e3 hp]
            exact ⟨k + 1, _, _, _, by omega, by go_num, Lib.hid ⟨rfl, rfl, rfl⟩, by go_simp, by go_simp, by go_simp, by go_simp, by go_simp, by go_simp, (by repeat (first | exact Ext.refl _ | assumption | apply Ext.alloc | apply Ext.drewN | apply Ext.drew | (refine Ext.setCell ?_ (by first | (simp; done) | (simp; omega) | omega) _) | (refine Ext.trans ?_ (by assumption)))), by simp; omega⟩
          case measure => simp [intOf]; omega
        · rename_i hp
          go_roundw
          case rel =>
            obtain ⟨e1, e2, e3⟩ := HA.out
            exact ⟨k + 1, sA, sB, sC, by omega, by go_num, Lib.hid ⟨free_neg HSORT.out HALL.out HX.out f0 t1 ft HEE.out (max_if _ _) e1 (by omega), free_neg HSORT.out HALL.out HX.out f0 t1 ft HEE.out (max_if _ _) e2 (by omega), free_neg HSORT.out HALL.out HX.out f0 t1 ft HEE.out (max_if _ _) e3 (by omega)⟩, by go_simp, by go_simp, by go_simp, by go_simp, by go_simp, by go_simp, (by repeat (first | exact Ext.refl _ | assumption | apply Ext.alloc | apply Ext.drewN | apply Ext.drew | (refine Ext.setCell ?_ (by first | (simp; done) | (simp; omega) | omega) _) | (refine Ext.trans ?_ (by assumption)))), by simp; omega⟩
          case measure => simp [intOf]; omega
    · have HZ := Lib.hid (show r = ⟨sA, sB, sC⟩ by
        obtain ⟨e1, e2, e3⟩ := HA.out
        rw [HU.out, e1, e2, e3, show k = (xs.map Pt.At).length by rw [List.length_map, HN.out]; omega, cutT_end ft])
      have p0 := (hb1.trans hbr).cell (cell_box_at (w.alloc (.cells #[.slice A n c] 40)) (w.heap.size + 1) (by simp) [.int .i64 0, .int .i64 0, .int .i64 0] 45 0 _ rfl)
      have p1 := (hb1.trans hbr).cell (cell_box_at (w.alloc (.cells #[.slice A n c] 40)) (w.heap.size + 1) (by simp) [.int .i64 0, .int .i64 0, .int .i64 0] 45 1 _ rfl)
      have p2 := (hb1.trans hbr).cell (cell_box_at (w.alloc (.cells #[.slice A n c] 40)) (w.heap.size + 1) (by simp) [.int .i64 0, .int .i64 0, .int .i64 0] 45 2 _ rfl)
      have pf0 := ((hb1.trans hbr).frozenEq (a := ⟨w.heap.size + 1, 0, none⟩) (by simp)).trans (frozen_box_at (w.alloc (.cells #[.slice A n c] 40)) (w.heap.size + 1) (by simp) #[.int .i64 0, .int .i64 0, .int .i64 0] 45 0)
      have pf1 := ((hb1.trans hbr).frozenEq (a := ⟨w.heap.size + 1, 1, none⟩) (by simp)).trans (frozen_box_at (w.alloc (.cells #[.slice A n c] 40)) (w.heap.size + 1) (by simp) #[.int .i64 0, .int .i64 0, .int .i64 0] 45 1)
      have pf2 := ((hb1.trans hbr).frozenEq (a := ⟨w.heap.size + 1, 2, none⟩) (by simp)).trans (frozen_box_at (w.alloc (.cells #[.slice A n c] 40)) (w.heap.size + 1) (by simp) #[.int .i64 0, .int .i64 0, .int .i64 0] 45 2)
      clear h
      go_wp2
      rw [HZ.out]
      exact ret_is (by simp [results, Try.results21, go_sem, *]) rfl (by repeat (first | exact Ext.refl _ | assumption | apply Ext.alloc | apply Ext.drewN | apply Ext.drew | (refine Ext.setCell ?_ (by first | (simp; done) | (simp; omega) | omega) _) | (refine Ext.trans ?_ (by assumption))))
end Go.Proofs.Ytbfambeoboiifaa
