/- The law on the next quiet time: plain words. -/
import Derived.Test.YtafccgnaifhnkaaNextQuiet2
namespace Go.Proofs.Ytafccgnaifhnkaa
open Go.RowKit
set_option linter.unusedVariables false
def goodQ (xs : List Window) (nodes : List Int) (fr wall t : Int) : Prop := fr ≤ t ∧ t + wall ≤ 1000000000 ∧ quietL xs nodes t (t + wall) = true
theorem nqOk_iff {xs : List Window} {nodes : List Int} {fr wall best t : Int} : nqOk xs nodes fr wall best t = true ↔ goodQ xs nodes fr wall t ∧ (best < 0 ∨ t < best) := by
  unfold nqOk goodQ
  simp only [Bool.and_eq_true, Bool.or_eq_true, decide_eq_true_iff]
  constructor
  · rintro ⟨h1, h2, h3, h4⟩; exact ⟨⟨h1, h2, h4⟩, h3⟩
  · rintro ⟨⟨h1, h2, h4⟩, h3⟩; exact ⟨h1, h2, h3, h4⟩
theorem nq_fold {xs : List Window} {nodes : List Int} {fr wall : Int} : ∀ (l : List Int) (best : Int), (∀ t ∈ l, 0 ≤ t) →
    (l.foldl (nqStep xs nodes fr wall) best = best ∨ (l.foldl (nqStep xs nodes fr wall) best ∈ l ∧ goodQ xs nodes fr wall (l.foldl (nqStep xs nodes fr wall) best))) ∧
    (0 ≤ best → 0 ≤ l.foldl (nqStep xs nodes fr wall) best ∧ l.foldl (nqStep xs nodes fr wall) best ≤ best) ∧
    ∀ t ∈ l, goodQ xs nodes fr wall t → 0 ≤ l.foldl (nqStep xs nodes fr wall) best ∧ l.foldl (nqStep xs nodes fr wall) best ≤ t := by
  intro l
  induction l with
  | nil => intro best _; exact ⟨.inl rfl, fun h => ⟨h, Int.le_refl _⟩, fun t ht => by cases ht⟩
  | cons a r ih =>
    intro best hl
    have ha := hl a (List.mem_cons_self ..)
    have hr : ∀ t ∈ r, 0 ≤ t := fun t ht => hl t (List.mem_cons_of_mem _ ht)
    obtain ⟨i1, i2, i3⟩ := ih (nqStep xs nodes fr wall best a) hr
    rw [List.foldl_cons]
    by_cases hok : nqOk xs nodes fr wall best a = true
    · have e : nqStep xs nodes fr wall best a = a := by unfold nqStep; rw [if_pos hok]
      rw [e] at i1 i2 i3 ⊢
      obtain ⟨hg, hb⟩ := nqOk_iff.1 hok
      obtain ⟨j1, j2⟩ := i2 ha
      refine ⟨?_, fun h0 => ⟨j1, by omega⟩, fun t ht hgt => ?_⟩
      · rcases i1 with i1 | ⟨i1, i1'⟩
        · exact .inr ⟨by rw [i1]; exact List.mem_cons_self .., by rw [i1]; exact hg⟩
        · exact .inr ⟨List.mem_cons_of_mem _ i1, i1'⟩
      · rcases List.mem_cons.1 ht with rfl | ht
        · exact ⟨j1, j2⟩
        · exact i3 t ht hgt
    · have e : nqStep xs nodes fr wall best a = best := by unfold nqStep; rw [if_neg hok]
      rw [e] at i1 i2 i3 ⊢
      refine ⟨?_, i2, fun t ht hgt => ?_⟩
      · rcases i1 with i1 | ⟨i1, i1'⟩
        · exact .inl i1
        · exact .inr ⟨List.mem_cons_of_mem _ i1, i1'⟩
      · rcases List.mem_cons.1 ht with rfl | ht
        · have hb : 0 ≤ best ∧ best ≤ t := by
            refine ⟨?_, ?_⟩
            · rcases Int.lt_or_le best 0 with h | h
              · exact absurd (nqOk_iff.2 ⟨hgt, .inl h⟩) hok
              · exact h
            · rcases Int.lt_or_le t best with h | h
              · exact absurd (nqOk_iff.2 ⟨hgt, .inr h⟩) hok
              · exact h
          have := i2 hb.1
          exact ⟨this.1, by omega⟩
        · exact i3 t ht hgt
/-- The largest of some numbers that is not above x. -/
theorem largest (x : Int) : ∀ (l : List Int) (a : Int), a ≤ x → ∃ y, (y = a ∨ y ∈ l) ∧ y ≤ x ∧ a ≤ y ∧ ∀ t ∈ l, t ≤ x → t ≤ y := by
  intro l
  induction l with
  | nil => intro a ha; exact ⟨a, .inl rfl, ha, Int.le_refl _, fun t ht => by cases ht⟩
  | cons b r ih =>
    intro a ha
    by_cases hb : a ≤ b ∧ b ≤ x
    · obtain ⟨y, h1, h2, h3, h4⟩ := ih b hb.2
      refine ⟨y, ?_, h2, by omega, fun t ht htx => ?_⟩
      · rcases h1 with rfl | h1
        · exact .inr (List.mem_cons_self ..)
        · exact .inr (List.mem_cons_of_mem _ h1)
      · rcases List.mem_cons.1 ht with rfl | ht
        · exact h3
        · exact h4 t ht htx
    · obtain ⟨y, h1, h2, h3, h4⟩ := ih a ha
      refine ⟨y, ?_, h2, h3, fun t ht htx => ?_⟩
      · rcases h1 with rfl | h1
        · exact .inl rfl
        · exact .inr (List.mem_cons_of_mem _ h1)
      · rcases List.mem_cons.1 ht with rfl | ht
        · omega
        · exact h4 t ht htx
structure NQ (ps : List Int) (ns : List Node) (xs : List Window) (nodes : List Int) (fr wall R : Int) : Prop where
  w1 : 1 ≤ wall
  w2 : wall ≤ 1000000
  f0 : 0 ≤ fr
  f1 : fr ≤ R
  r1 : R ≤ 1000000000
  here : quietB ps ns xs nodes R (R + wall) = true
  none : ∀ x, fr ≤ x → x < R → quietB ps ns xs nodes x (x + wall) = false
theorem next_neg {ps : List Int} {ns : List Node} {xs : List Window} {nodes : List Int} {fr wall : Int} (h : nextQ ps ns xs nodes fr wall < 0) : nextQ ps ns xs nodes fr wall = -1 := by
  unfold nextQ at *
  split
  · rename_i hc
    rw [if_pos hc] at h
    simp only [Bool.and_eq_true] at hc
    have hall := nqAt_ok hc.1 hc.2.1
    obtain ⟨i1, _, i3⟩ := nq_fold (xs := xs) (nodes := nodes) (fr := fr) (wall := wall) (nqAt fr xs) (-1) (fun t ht => (hall t ht).1)
    rcases i1 with i1 | ⟨i1, _⟩
    · exact i1
    · have := (hall _ i1).1; omega
  · rfl
theorem next_pos {ps : List Int} {ns : List Node} {xs : List Window} {nodes : List Int} {fr wall : Int} (h : ¬ nextQ ps ns xs nodes fr wall < 0) : NQ ps ns xs nodes fr wall (nextQ ps ns xs nodes fr wall) := by
  have hc : (windowsB ps ns xs && (timeB fr && withinB wall 1 1000000)) = true := by
    rcases Bool.eq_false_or_eq_true (windowsB ps ns xs && (timeB fr && withinB wall 1 1000000)) with hc | hc
    · exact hc
    · exfalso; apply h; unfold nextQ; rw [if_neg (by rw [hc]; simp)]; omega
  have e : nextQ ps ns xs nodes fr wall = (nqAt fr xs).foldl (nqStep xs nodes fr wall) (-1) := by unfold nextQ; rw [if_pos hc]
  rw [e] at h ⊢
  simp only [Bool.and_eq_true] at hc
  obtain ⟨hw, ht, hwl⟩ := hc
  have hall := nqAt_ok hw ht
  obtain ⟨i1, _, i3⟩ := nq_fold (xs := xs) (nodes := nodes) (fr := fr) (wall := wall) (nqAt fr xs) (-1) (fun t ht => (hall t ht).1)
  generalize (nqAt fr xs).foldl (nqStep xs nodes fr wall) (-1) = R at *
  rcases i1 with i1 | ⟨i1, g1, g2, g3⟩
  · omega
  unfold withinB at hwl
  rw [decide_eq_true_iff] at hwl
  have hf := hall fr (List.mem_cons_self ..)
  refine ⟨hwl.1, hwl.2, hf.1, g1, (hall R i1).2, by unfold quietB; rw [hw, g3]; rfl, fun x hx hxR => ?_⟩
  rcases (Bool.eq_false_or_eq_true (quietB ps ns xs nodes x (x + wall))).symm with hq | hq
  · exact hq
  exfalso
  unfold quietB at hq
  rw [hw, Bool.true_and] at hq
  obtain ⟨y, hy1, hy2, hy3, hy4⟩ := largest x (xs.map Window.To) fr hx
  have hym : y ∈ nqAt fr xs := by
    rcases hy1 with rfl | hy1
    · exact List.mem_cons_self ..
    · exact List.mem_cons_of_mem _ hy1
  have hgy : goodQ xs nodes fr wall y := by
    refine ⟨hy3, by omega, ?_⟩
    unfold quietL at hq ⊢
    rw [List.all_eq_true] at hq ⊢
    intro v hv
    have h1 := hq v hv
    have hsp := win_span hw v hv
    have hto := hy4 v.To (List.mem_map.2 ⟨v, hv, rfl⟩)
    unfold hitB at h1 ⊢
    generalize v.Nodes.any (fun n => nodes.contains n) = a at *
    cases a
    · rfl
    · simp only [Bool.true_and, Bool.not_eq_true', decide_eq_false_iff_not] at h1 ⊢
      omega
  have := i3 y hym hgy
  omega
end Go.Proofs.Ytafccgnaifhnkaa
