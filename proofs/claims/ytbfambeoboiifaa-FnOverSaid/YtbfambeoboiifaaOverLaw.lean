/- The law on what is free and what is used: plain words. -/
import Derived.Test.YtbfambeoboiifaaUsed
namespace Go.Proofs.Ytbfambeoboiifaa
open Go.RowKit
set_option linter.unusedVariables false
theorem run_use_eq (w : World) (a b c a' b' c' : Int) : (binOp .eql 45 (.agg #[.int .i64 a, .int .i64 b, .int .i64 c]) (.agg #[.int .i64 a', .int .i64 b', .int .i64 c'])).run Try.prog w = .ok (.bool (a == a' && (b == b' && c == c'))) w := by
  simp [go_sem, Try.underlying45, Try.underlying3]
  by_cases h1 : a = a' <;> by_cases h2 : b = b' <;> by_cases h3 : c = c' <;> simp [h1, h2, h3]
theorem use_guard : Try.prog.eqGuardType Try.prog.depth 45 = false := by kernel_rfl
theorem run_use_guard (w : World) (op : BinOp) (x y : Operand) (xs ys : Array Value) : (eqGuard op 45 x y (.agg xs) (.agg ys)).run Try.prog w = .ok () w := run_eqGuard_agg w op _ x y xs ys use_guard
structure OverF (l : List Pt) (v : Vec) (fr to : Int) : Prop where
  over : overB l fr to = true
  f0 : 0 ≤ fr
  lt : fr < to
  t1 : to ≤ 1000000000
  vec : vecR v
  bA : 0 ≤ (overU l fr to).A ∧ (overU l fr to).A ≤ 1000000000000000
  bB : 0 ≤ (overU l fr to).B ∧ (overU l fr to).B ≤ 1000000000000000
  bC : 0 ≤ (overU l fr to).C ∧ (overU l fr to).C ≤ 1000000000000000
  pA : 0 ≤ (to - fr) * v.A ∧ (to - fr) * v.A ≤ 1000000000000000
  pB : 0 ≤ (to - fr) * v.B ∧ (to - fr) * v.B ≤ 1000000000000000
  pC : 0 ≤ (to - fr) * v.C ∧ (to - fr) * v.C ≤ 1000000000000000
  uA : (usedU l v fr to).A + (overU l fr to).A = (to - fr) * v.A
  uB : (usedU l v fr to).B + (overU l fr to).B = (to - fr) * v.B
  uC : (usedU l v fr to).C + (overU l fr to).C = (to - fr) * v.C
theorem overU_good {l : List Pt} {a b : Int} (h : overB l a b = true) : overU l a b = ⟨area Vec.A l a b, area Vec.B l a b, area Vec.C l a b⟩ := by unfold overU; rw [h]; rfl
theorem over_in {l : List Pt} {a b : Int} (h : overB l a b = true) {c : Vec → Int} (hc : comp c) : 0 ≤ area c l a b ∧ area c l a b ≤ 1000000000000000 := by
  obtain ⟨hP, hSp⟩ := Bool.and_eq_true_iff.1 h
  obtain ⟨⟨f0, f1⟩, ⟨t0, t1⟩, ft⟩ := spanB_iff.1 hSp
  obtain ⟨_, _, _, _, hall⟩ := profB_parts hP
  have h3 := area_bound (c := c) (l := l) (a := a) (b := b) (by omega) (fun t => hc _ (freeAt_in hall t))
  omega
theorem over_f {l : List Pt} {v : Vec} {fr to : Int} (h : usedB l v fr to = true) : OverF l v fr to := by
  have hO : overB l fr to = true := by
    rcases Bool.eq_false_or_eq_true (overB l fr to) with h1 | h1
    · exact h1
    · rw [used_over h1] at h; cases h
  obtain ⟨hP, hSp⟩ := Bool.and_eq_true_iff.1 hO
  obtain ⟨⟨f0, f1⟩, ⟨t0, t1⟩, ft⟩ := spanB_iff.1 hSp
  have hv : vecR v := by
    rcases Bool.eq_false_or_eq_true (vecB v) with h1 | h1
    · exact vecB_iff.1 h1
    · rw [used_vec ft h1] at h; cases h
  have hp : ∀ x : Int, 0 ≤ x ∧ x ≤ 1000000 → 0 ≤ (to - fr) * x ∧ (to - fr) * x ≤ 1000000000000000 := fun x hx => by
    refine ⟨Int.mul_nonneg (by omega) hx.1, ?_⟩
    have h1 : (to - fr) * x ≤ 1000000000 * x := Int.mul_le_mul_of_nonneg_right (by omega) hx.1
    omega
  have hu : usedU l v fr to = ⟨(to - fr) * v.A - area Vec.A l fr to, (to - fr) * v.B - area Vec.B l fr to, (to - fr) * v.C - area Vec.C l fr to⟩ := by unfold usedU; rw [h, if_pos rfl]
  have ho := overU_good hO
  refine ⟨hO, f0, ft, t1, hv, ?_, ?_, ?_, hp _ hv.1, hp _ hv.2.1, hp _ hv.2.2, ?_, ?_, ?_⟩
  · rw [ho]; exact over_in hO comp_A
  · rw [ho]; exact over_in hO comp_B
  · rw [ho]; exact over_in hO comp_C
  · rw [hu, ho]; simp only []; omega
  · rw [hu, ho]; simp only []; omega
  · rw [hu, ho]; simp only []; omega
theorem mid_f {l : List Pt} {fr to m : Int} (h : overB l fr to = true) (h1 : fr < m) (h2 : m ≤ to) : overB l fr m = true ∧ overB l m to = decide (m < to) ∧ ((overU l fr m).A + (overU l m to).A = (overU l fr to).A ∧ (overU l fr m).B + (overU l m to).B = (overU l fr to).B) ∧ (0 ≤ (overU l fr m).A ∧ 0 ≤ (overU l m to).A) ∧ 0 ≤ (overU l fr m).B ∧ 0 ≤ (overU l m to).B := by
  obtain ⟨hP, hSp⟩ := Bool.and_eq_true_iff.1 h
  obtain ⟨⟨f0, f1⟩, ⟨t0, t1⟩, ft⟩ := spanB_iff.1 hSp
  have ha : overB l fr m = true := by unfold overB; rw [hP, spanB_iff.2 ⟨⟨f0, f1⟩, ⟨by omega, by omega⟩, h1⟩]; rfl
  have ho := overU_good h
  have hoa := overU_good ha
  have xA := over_in ha comp_A
  have xB := over_in ha comp_B
  by_cases hm : m < to
  · have hb : overB l m to = true := by unfold overB; rw [hP, spanB_iff.2 ⟨⟨by omega, by omega⟩, ⟨t0, t1⟩, hm⟩]; rfl
    have hob := overU_good hb
    have yA := over_in hb comp_A
    have yB := over_in hb comp_B
    refine ⟨ha, by rw [hb, decide_eq_true hm], ?_, ?_, ?_⟩
    · rw [ho, hoa, hob]; exact ⟨(area_split (Int.le_of_lt h1) h2).symm, (area_split (Int.le_of_lt h1) h2).symm⟩
    · rw [hoa, hob]; exact ⟨xA.1, yA.1⟩
    · rw [hoa, hob]; exact ⟨xB.1, yB.1⟩
  · have e : m = to := by omega
    subst e
    have hb : overB l m m = false := by
      rcases Bool.eq_false_or_eq_true (overB l m m) with hb | hb
      · obtain ⟨_, hs⟩ := Bool.and_eq_true_iff.1 hb
        have := (spanB_iff.1 hs).2.2
        omega
      · exact hb
    have hob := overU_bad hb
    refine ⟨ha, by rw [hb, decide_eq_false hm], ?_, ?_, ?_⟩
    · rw [hob]; simp
    · rw [hoa, hob]; exact ⟨xA.1, Int.le_refl _⟩
    · rw [hoa, hob]; exact ⟨xB.1, Int.le_refl _⟩
end Go.Proofs.Ytbfambeoboiifaa
