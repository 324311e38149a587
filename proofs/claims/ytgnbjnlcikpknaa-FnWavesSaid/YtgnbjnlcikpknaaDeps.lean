/- Contracts over dependencies. -/
import Derived.Test.YtgnbjnlcikpknaaSmall
namespace Go.Proofs.Ytgnbjnlcikpknaa
open Go.RowKit

def depOkB (d : Dep) : Bool := decide ((1 ≤ d.Id ∧ d.Id ≤ 999) ∧ (1 ≤ d.For ∧ d.For ≤ 999) ∧ d.Id ≠ d.For)
def depLtB (a b : Dep) : Bool := decide (a.Id < b.Id ∨ a.Id = b.Id ∧ a.For < b.For)
def depsGo : Option Dep → List Dep → Bool
  | _, [] => true
  | none, d :: r => depOkB d && depsGo (some d) r
  | some q, d :: r => depOkB d && depLtB q d && depsGo (some d) r
def depsB (l : List Dep) : Bool := depsGo none l && decide (l.length ≤ 100)
def prevOf {α : Type} (l : List α) (k : Nat) : Option α := if k = 0 then none else l[k - 1]?
theorem prevOf_zero {α : Type} (l : List α) : prevOf l 0 = none := rfl
theorem prevOf_succ {α : Type} {l : List α} {k : Nat} {x : α} (h : l[k]? = some x) : prevOf l (k + 1) = some x := by simp [prevOf, h]

theorem depOk_c (d : Dep) (w : World) : Calls Try.prog 43 #[.agg #[.int .i64 d.Id, .int .i64 d.For]] w (Ret w (.bool (depOkB d))) := by
  go_enter Try.func43, Try.ntmps43
  go_wp2
  all_goals (refine ret_bool rfl rfl rfl ?_ (by repeat (first | exact Ext.refl _ | assumption | apply Ext.alloc | apply Ext.drewN | apply Ext.drew | (refine Ext.setCell ?_ (by first | (simp; done) | (simp; omega) | omega) _) | (refine Ext.trans ?_ (by assumption)))); unfold depOkB; first | (symm; rw [decide_eq_true_iff]; omega) | (symm; rw [decide_eq_false_iff_not]; omega) | (rw [Bool.eq_iff_iff]; simp; omega))
def cmpI (a b : Dep) : Int := if a.Id = b.Id then a.For - b.For else a.Id - b.Id
theorem cmpI_ge (a b : Dep) : decide (0 ≤ cmpI a b) = !depLtB a b := by
  unfold cmpI depLtB; rw [Bool.eq_iff_iff]; simp; split <;> omega
theorem compareDeps_c (a b : Dep) (w : World) (ha : depOkB a = true) (hb : depOkB b = true) : Calls Try.prog 46 #[.agg #[.int .i64 a.Id, .int .i64 a.For], .agg #[.int .i64 b.Id, .int .i64 b.For]] w (Ret w (.int .i64 (cmpI a b))) := by
  unfold depOkB at ha hb
  simp only [decide_eq_true_eq] at ha hb
  obtain ⟨⟨a1, a2⟩, ⟨a3, a4⟩, _⟩ := ha
  obtain ⟨⟨b1, b2⟩, ⟨b3, b4⟩, _⟩ := hb
  go_enter Try.func46, Try.ntmps46
  by_cases h : a.Id = b.Id
  · have h1 : (a.Id != b.Id) = false := by simp [h]
    have H := Lib.hid h; clear h
    go_wp2
    exact ret_int rfl rfl rfl (by rw [cmpI, if_pos H.out]) (by repeat (first | exact Ext.refl _ | assumption | apply Ext.alloc | apply Ext.drewN | apply Ext.drew | (refine Ext.setCell ?_ (by first | (simp; done) | (simp; omega) | omega) _) | (refine Ext.trans ?_ (by assumption))))
  · have h1 : (a.Id != b.Id) = true := by simp [h]
    have H := Lib.hid h; clear h
    go_wp2
    exact ret_int rfl rfl rfl (by rw [cmpI, if_neg H.out]) (by repeat (first | exact Ext.refl _ | assumption | apply Ext.alloc | apply Ext.drewN | apply Ext.drew | (refine Ext.setCell ?_ (by first | (simp; done) | (simp; omega) | omega) _) | (refine Ext.trans ?_ (by assumption))))
theorem depsGo_none {d : Dep} {r : List Dep} : depsGo none (d :: r) = (depOkB d && depsGo (some d) r) := rfl
theorem depsGo_some {q d : Dep} {r : List Dep} : depsGo (some q) (d :: r) = (depOkB d && depLtB q d && depsGo (some d) r) := rfl
set_option maxHeartbeats 2000000 in
theorem DepsOk_c (xs : List Dep) (A : Option Addr) (n c : Nat) (w : World) (h : SlAt RDep 2 w A n xs) (hl : n ≤ maxLen) :
    Calls Try.prog 14 #[.slice A n c] w (Ret w (.bool (depsB xs))) := by
  unfold maxLen at hl
  have HN := Lib.hid h.len
  go_enter Try.func14, Try.ntmps14
  go_wp2
  go_loopw [7] (fun i wr => ∃ k : Nat, k ≤ n ∧ i = .int .i64 k ∧ Ext w wr ∧ (∀ q, prevOf xs k = some q → depOkB q = true) ∧ depsB xs = (depsGo (prevOf xs k) (xs.drop k) && decide (xs.length ≤ 100))) (fun i _ => n - (intOf i).toNat)
  case atStart => exact ⟨0, Nat.zero_le _, rfl, Ext.refl _, by simp [prevOf], rfl⟩
  case round =>
    obtain ⟨k, hk, rfl, hb, hq, hE⟩ := hrel
    have HE := Lib.hid hE; have HQ := Lib.hid hq; clear hE hq
    by_cases hlt : k < n
    · obtain ⟨b, o, d, cs, rfl, hbw, hx, _, hc, rfl, _⟩ := (h.ext (Flat.mono _ _) hb).at_ hlt
      have c0 := hc 0 _ rfl
      have c1 := hc 1 _ rfl
      simp only [Nat.add_zero] at c0
      have HX := Lib.hid hx; have HB := Lib.hid hb
      have hbw2 : b < wr.heap.size + 1 := by omega
      have hcx := @Later.cell (wr.alloc (.cells #[.int .i64 d.Id, .int .i64 d.For] 31))
      rcases Bool.eq_false_or_eq_true (depOkB d) with hd | hd
      · by_cases hk0 : k = 0
        · have ht : decide (0 < k) = false := by rw [decide_eq_false_iff_not]; omega
          have HK := Lib.hid hk0
          clear hc hx hb h hk0
          go_wp2
          refine wp_region_ext (by kernel_rfl) (by kernel_rfl) ?_
          repeat (go_big_quiet_step ((go_at_call 43; exact Calls.quiet_ext (depOk_c d _))))
          refine wpQuiet_nil ?_
          intro w1 hb1
          have HB1 := Lib.hid hb1
          clear hcx c0 c1 hb1
          go_wp2
          go_roundw
          case rel => exact ⟨k + 1, by omega, by go_num, (HB.out.alloc _).trans HB1.out, by rw [prevOf_succ HX.out]; intro q e; injection e with e; rw [← e]; exact hd, by rw [HE.out, drop_cons HX.out, prevOf_succ HX.out, HK.out, prevOf_zero, depsGo_none, hd, Bool.true_and]⟩
          case measure => simp [intOf]; omega
        · have ht : decide (0 < k) = true := by rw [decide_eq_true_iff]; omega
          obtain ⟨b', o', q, cs', e, _, hx', _, hc', rfl, _⟩ := (h.ext (Flat.mono _ _) hb).at_ (show k - 1 < n by omega)
          simp only [Option.some.injEq, Addr.mk.injEq, and_true] at e
          obtain ⟨rfl, rfl⟩ := e
          have d0 := hc' 0 _ rfl
          have d1 := hc' 1 _ rfl
          simp only [Nat.add_zero] at d0
          have hprev : prevOf xs k = some q := by rw [prevOf, if_neg hk0, hx']
          have hqo : depOkB q = true := HQ.out q hprev
          have HP := Lib.hid hprev
          have hcmp := cmpI_ge q d
          rcases Bool.eq_false_or_eq_true (depLtB q d) with hlt' | hlt'
          all_goals
            rw [hlt'] at hcmp
            simp only [Bool.not_true, Bool.not_false] at hcmp
            clear hc hx hb h hc' hx' hprev
            go_wp2
            refine wp_region_ext (by kernel_rfl) (by kernel_rfl) ?_
            repeat (go_big_quiet_step (first | ((go_at_call 43; exact Calls.quiet_ext (depOk_c d _))) | ((go_at_call 46; exact Calls.quiet_ext (compareDeps_c q d _ hqo hd)))))
            refine wpQuiet_nil ?_
            intro w1 hb1
            have HB1 := Lib.hid hb1
            clear hcx c0 c1 d0 d1 hb1
            go_wp2
          · go_roundw
            case rel => exact ⟨k + 1, by omega, by go_num, (HB.out.alloc _).trans HB1.out, by rw [prevOf_succ HX.out]; intro q e; injection e with e; rw [← e]; exact hd, by rw [HE.out, drop_cons HX.out, prevOf_succ HX.out, HP.out, depsGo_some, hd, hlt']; simp⟩
            case measure => simp [intOf]; omega
          · exact ret_bool rfl rfl rfl (by rw [HE.out, drop_cons HX.out, HP.out, depsGo_some, hlt']; simp) ((HB.out.alloc _).trans HB1.out)
      · clear hc hx hb h
        go_wp2
        refine wp_region_ext (by kernel_rfl) (by kernel_rfl) ?_
        repeat (go_big_quiet_step ((go_at_call 43; exact Calls.quiet_ext (depOk_c d _))))
        refine wpQuiet_nil ?_
        intro w1 hb1
        have HB1 := Lib.hid hb1
        clear hcx c0 c1 hb1
        go_wp2
        refine ret_bool rfl rfl rfl ?_ ((HB.out.alloc _).trans HB1.out)
        rw [HE.out, drop_cons HX.out]
        cases prevOf xs k <;> simp [depsGo, hd]
    · go_wp2
      refine ret_bool rfl rfl rfl ?_ hb
      rw [HE.out, List.drop_eq_nil_of_le (by have := HN.out; omega), HN.out]
      cases prevOf xs k <;> simp [depsGo] <;> omega
def idB (n : Int) : Bool := decide (1 ≤ n ∧ n ≤ 999)
theorem depOkB_eq (d : Dep) : depOkB d = (idB d.Id && idB d.For && !(d.Id == d.For)) := by
  unfold depOkB idB; rw [Bool.eq_iff_iff]; simp; omega
theorem l12Id_c (x : Int) (w : World) : Calls Try.prog 56 #[.int .i64 x] w (Same w (.bool (idB x))) := by
  go_enter Try.func56, Try.ntmps56
  go_wp2
  all_goals (refine same_bool rfl rfl rfl ?_; unfold idB; first | (symm; rw [decide_eq_true_iff]; omega) | (symm; rw [decide_eq_false_iff_not]; omega) | (rw [decide_eq_decide]; omega))
theorem l12Less_c (a b : Dep) (w : World) : Calls Try.prog 47 #[.agg #[.int .i64 a.Id, .int .i64 a.For], .agg #[.int .i64 b.Id, .int .i64 b.For]] w (Ret w (.bool (depLtB a b))) := by
  go_enter Try.func47, Try.ntmps47
  go_wp2
  all_goals (refine ret_bool rfl rfl rfl ?_ (by repeat (first | exact Ext.refl _ | assumption | apply Ext.alloc | apply Ext.drewN | apply Ext.drew | (refine Ext.setCell ?_ (by first | (simp; done) | (simp; omega) | omega) _) | (refine Ext.trans ?_ (by assumption)))); unfold depLtB; (first | (symm; rw [decide_eq_true_iff]; omega) | (symm; rw [decide_eq_false_iff_not]; omega) | (rw [decide_eq_decide]; omega) | ((try simp only [beq_iff_eq, beq_eq_false_iff_ne, bne_iff_ne, bne_eq_false_iff_eq, ne_eq] at *); rw [Bool.eq_iff_iff]; simp; omega)))
set_option maxHeartbeats 2000000 in
theorem sDepsOk_c (xs : List Dep) (A : Option Addr) (n c : Nat) (w : World) (h : SlAt RDep 2 w A n xs) (hl : n ≤ maxLen) :
    Calls Try.prog 38 #[.slice A n c] w (Ret w (.bool (depsB xs))) := by
  unfold maxLen at hl
  have HN := Lib.hid h.len
  go_enter Try.func38, Try.ntmps38
  by_cases hbig : 100 < n
  · go_wp2
    exact ret_bool rfl rfl rfl (by unfold depsB; rw [HN.out]; simp; intro _; omega) (Ext.refl _)
  go_wp2
  go_loopw [10] (fun i wr => ∃ k : Nat, k ≤ n ∧ i = .int .i64 k ∧ Ext w wr ∧ depsB xs = depsGo (prevOf xs k) (xs.drop k)) (fun i _ => n - (intOf i).toNat)
  case atStart => exact ⟨0, Nat.zero_le _, rfl, Ext.refl _, by unfold depsB; rw [HN.out, show decide (n ≤ 100) = true by rw [decide_eq_true_iff]; omega]; simp [prevOf]⟩
  case round =>
    obtain ⟨k, hk, rfl, hb, hE⟩ := hrel
    have HE := Lib.hid hE; clear hE
    by_cases hlt : k < n
    · obtain ⟨b, o, d, cs, rfl, hbw, hx, _, hc, rfl, _⟩ := (h.ext (Flat.mono _ _) hb).at_ hlt
      have c0 := hc 0 _ rfl
      have c1 := hc 1 _ rfl
      simp only [Nat.add_zero] at c0
      have HX := Lib.hid hx; have HB := Lib.hid hb
      have hbw2 : b < wr.heap.size + 1 := by omega
      have hcx := @Later.cell (wr.alloc (.cells #[.int .i64 d.Id, .int .i64 d.For] 31))
      rcases Bool.eq_false_or_eq_true (idB d.Id) with h1 | h1
      · rcases Bool.eq_false_or_eq_true (idB d.For) with h2 | h2
        · rcases Bool.eq_false_or_eq_true (d.Id == d.For) with h3 | h3
          · clear hc hx hb h
            go_wp2
            refine wp_region_ext (by kernel_rfl) (by kernel_rfl) ?_
            repeat (go_big_quiet_step ((go_at_call 56; exact Calls.quiet_ext ((Same.ret (l12Id_c _ _))))))
            refine wpQuiet_nil ?_
            intro w1 hb1
            have HB1 := Lib.hid hb1
            clear hcx c0 c1 hb1
            go_wp2
            refine ret_bool rfl rfl rfl ?_ ((HB.out.alloc _).trans HB1.out)
            rw [HE.out, drop_cons HX.out]
            cases prevOf xs k <;> simp [depsGo, depOkB_eq, h3]
          · by_cases hk0 : k = 0
            · have ht : decide (0 < k) = false := by rw [decide_eq_false_iff_not]; omega
              have HK := Lib.hid hk0
              clear hc hx hb h hk0
              go_wp2
              refine wp_region_ext (by kernel_rfl) (by kernel_rfl) ?_
              repeat (go_big_quiet_step ((go_at_call 56; exact Calls.quiet_ext ((Same.ret (l12Id_c _ _))))))
              refine wpQuiet_nil ?_
              intro w1 hb1
              have HB1 := Lib.hid hb1
              clear hcx c0 c1 hb1
              go_wp2
              go_roundw
              case rel => exact ⟨k + 1, by omega, by go_num, (HB.out.alloc _).trans HB1.out, by rw [HE.out, drop_cons HX.out, prevOf_succ HX.out, HK.out, prevOf_zero, depsGo_none, depOkB_eq, h1, h2, h3]; simp⟩
              case measure => simp [intOf]; omega
            · have ht : decide (0 < k) = true := by rw [decide_eq_true_iff]; omega
              obtain ⟨b', o', q, cs', e, _, hx', _, hc', rfl, _⟩ := (h.ext (Flat.mono _ _) hb).at_ (show k - 1 < n by omega)
              simp only [Option.some.injEq, Addr.mk.injEq, and_true] at e
              obtain ⟨rfl, rfl⟩ := e
              have d0 := hc' 0 _ rfl
              have d1 := hc' 1 _ rfl
              simp only [Nat.add_zero] at d0
              have hprev : prevOf xs k = some q := by rw [prevOf, if_neg hk0, hx']
              have HP := Lib.hid hprev
              rcases Bool.eq_false_or_eq_true (depLtB q d) with hlt' | hlt'
              all_goals
                clear hc hx hb h hc' hx' hprev
                go_wp2
                refine wp_region_ext (by kernel_rfl) (by kernel_rfl) ?_
                repeat (go_big_quiet_step (first | ((go_at_call 56; exact Calls.quiet_ext ((Same.ret (l12Id_c _ _))))) | ((go_at_call 47; exact Calls.quiet_ext (l12Less_c q d _)))))
                refine wpQuiet_nil ?_
                intro w1 hb1
                have HB1 := Lib.hid hb1
                clear hcx c0 c1 d0 d1 hb1
                go_wp2
              · go_roundw
                case rel => exact ⟨k + 1, by omega, by go_num, (HB.out.alloc _).trans HB1.out, by rw [HE.out, drop_cons HX.out, prevOf_succ HX.out, HP.out, depsGo_some, hlt', depOkB_eq, h1, h2, h3]; simp⟩
                case measure => simp [intOf]; omega
              · exact ret_bool rfl rfl rfl (by rw [HE.out, drop_cons HX.out, HP.out, depsGo_some, hlt']; simp) ((HB.out.alloc _).trans HB1.out)
        · clear hc hx hb h
          go_wp2
          refine wp_region_ext (by kernel_rfl) (by kernel_rfl) ?_
          repeat (go_big_quiet_step ((go_at_call 56; exact Calls.quiet_ext ((Same.ret (l12Id_c _ _))))))
          refine wpQuiet_nil ?_
          intro w1 hb1
          have HB1 := Lib.hid hb1
          clear hcx c0 c1 hb1
          go_wp2
          refine ret_bool rfl rfl rfl ?_ ((HB.out.alloc _).trans HB1.out)
          rw [HE.out, drop_cons HX.out]
          cases prevOf xs k <;> simp [depsGo, depOkB_eq, h2]
      · clear hc hx hb h
        go_wp2
        refine wp_region_ext (by kernel_rfl) (by kernel_rfl) ?_
        repeat (go_big_quiet_step ((go_at_call 56; exact Calls.quiet_ext ((Same.ret (l12Id_c _ _))))))
        refine wpQuiet_nil ?_
        intro w1 hb1
        have HB1 := Lib.hid hb1
        clear hcx c0 c1 hb1
        go_wp2
        refine ret_bool rfl rfl rfl ?_ ((HB.out.alloc _).trans HB1.out)
        rw [HE.out, drop_cons HX.out]
        cases prevOf xs k <;> simp [depsGo, depOkB_eq, h1]
    · go_wp2
      refine ret_bool rfl rfl rfl ?_ hb
      rw [HE.out, List.drop_eq_nil_of_le (by have := HN.out; omega)]
      cases prevOf xs k <;> simp [depsGo]
end Go.Proofs.Ytgnbjnlcikpknaa
