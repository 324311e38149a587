/- Contracts over lists of quotas. -/
import Derived.Test.YtbfambeoboiifaaAcct
namespace Go.Proofs.Ytbfambeoboiifaa
open Go.RowKit
set_option linter.unusedVariables false
def quotaOkB (q : Quota) : Bool := wordB q.Name && withinB q.Jobs 0 60 && withinB q.Nodes 0 1000000 && vecB q.Res
def quotaLt (p a : Quota) : Bool := nameLtB p.Name a.Name
def quotasB (l : List Quota) : Bool := chainGo quotaOkB quotaLt none l && decide (l.length ≤ 12)
theorem chain_first {α : Type} {ok : α → Bool} {lt : α → α → Bool} {l : List α} {k : Nat} (h : k = 0) (d : α) (r : List α) : chainGo ok lt (prevOf l k) (d :: r) = (ok d && chainGo ok lt (some d) r) := by subst h; rfl
theorem chain_lt {α : Type} {ok : α → Bool} {lt : α → α → Bool} {l : List α} {k : Nat} {q d : α} (h : prevOf l k = some q) (hl : lt q d = true) (r : List α) : chainGo ok lt (prevOf l k) (d :: r) = (ok d && chainGo ok lt (some d) r) := by rw [h]; simp [chainGo, hl]
theorem chain_ge {α : Type} {ok : α → Bool} {lt : α → α → Bool} {l : List α} {k : Nat} {q d : α} (h : prevOf l k = some q) (hl : lt q d = false) (r : List α) : chainGo ok lt (prevOf l k) (d :: r) = false := by rw [h]; simp [chainGo, hl]
theorem chain_bad {α : Type} {ok : α → Bool} {lt : α → α → Bool} {d : α} (p : Option α) (h : ok d = false) (r : List α) : chainGo ok lt p (d :: r) = false := by cases p <;> simp [chainGo, h]
theorem chain_end {α : Type} {ok : α → Bool} {lt : α → α → Bool} (p : Option α) : chainGo ok lt p [] = true := by cases p <;> rfl
set_option maxHeartbeats 8000000 in
theorem QuotasOk_c (xs : List Quota) (A : Option Addr) (n c : Nat) (w : World) (h : SlAt RQuota 6 w A n xs) (hl : n ≤ maxLen) : Calls Try.prog 60 #[.slice A n c] w (Ret w (.bool (quotasB xs))) := by
  unfold maxLen at hl
  have HN := Lib.hid h.len
  go_enter Try.func60, Try.ntmps60
  go_wp2
  go_loopw [7] (fun i wr => ∃ k : Nat, k ≤ n ∧ i = .int .i64 k ∧ Ext w wr ∧ quotasB xs = (chainGo quotaOkB quotaLt (prevOf xs k) (xs.drop k) && decide (xs.length ≤ 12))) (fun i _ => n - (intOf i).toNat)
  case atStart => exact ⟨0, Nat.zero_le _, rfl, Ext.refl _, rfl⟩
  case round =>
    obtain ⟨k, hk, rfl, hb, hE⟩ := hrel
    have HE := Lib.hid hE; clear hE
    by_cases hlt : k < n
    · obtain ⟨b, o, d, cs, rfl, hbw, hx, _, hc, rfl, hok⟩ := (h.ext (Flat.mono _ _) hb).at_ hlt
      have hsz := hok.1
      clear hok
      have c0 := hc 0 _ rfl
      have c1 := hc 1 _ rfl
      have c2 := hc 2 _ rfl
      have c3 := hc 3 _ rfl
      have c4 := hc 4 _ rfl
      have c5 := hc 5 _ rfl
      simp only [Nat.add_zero] at c0
      have HX := Lib.hid hx; have HB := Lib.hid hb
      have HDe := Lib.hid (fun (hb : quotaOkB d = false) => chain_bad (lt := quotaLt) (prevOf xs k) hb (xs.drop (k + 1)))
      have hbw2 : b < wr.heap.size + 1 := by omega
      have hcx := @Later.cell (wr.alloc (.cells #[.string d.Name, .int .i64 d.Jobs, .int .i64 d.Nodes, .int .i64 d.Res.A, .int .i64 d.Res.B, .int .i64 d.Res.C] 104))
      rcases (Bool.eq_false_or_eq_true (wordB d.Name)).symm with h1 | h1
      · have HQ := Lib.hid h1
        clear hc hx hb h
        go_wp2
        refine wp_region_ext (by kernel_rfl) (by kernel_rfl) ?_
        repeat (go_big_quiet_step (first | ((go_at_call 45; exact Calls.quiet_ext ((Same.ret (WordOk_c _ _ hsz))))) | ((go_at_call 41; exact Calls.quiet_ext ((Same.ret (within_c _ _ _ _))))) | ((go_at_call 51; exact Calls.quiet_ext ((VecOk_c d.Res _))))))
        refine wpQuiet_nil ?_
        intro w1 hb1
        have HB1 := Lib.hid hb1
        clear hcx c0 c1 c2 c3 c4 c5 hb1
        go_wp2
        refine ret_bool rfl rfl rfl ?_ ((HB.out.alloc _).trans HB1.out)
        rw [HE.out, drop_cons HX.out, HDe.out (by unfold quotaOkB; rw [HQ.out]; rfl)] <;> rfl
      rcases (Bool.eq_false_or_eq_true (withinB d.Jobs 0 60)).symm with h2 | h2
      · have HQ := Lib.hid h2
        clear hc hx hb h
        go_wp2
        refine wp_region_ext (by kernel_rfl) (by kernel_rfl) ?_
        repeat (go_big_quiet_step (first | ((go_at_call 45; exact Calls.quiet_ext ((Same.ret (WordOk_c _ _ hsz))))) | ((go_at_call 41; exact Calls.quiet_ext ((Same.ret (within_c _ _ _ _))))) | ((go_at_call 51; exact Calls.quiet_ext ((VecOk_c d.Res _))))))
        refine wpQuiet_nil ?_
        intro w1 hb1
        have HB1 := Lib.hid hb1
        clear hcx c0 c1 c2 c3 c4 c5 hb1
        go_wp2
        refine ret_bool rfl rfl rfl ?_ ((HB.out.alloc _).trans HB1.out)
        rw [HE.out, drop_cons HX.out, HDe.out (by unfold quotaOkB; rw [h1, HQ.out]; rfl)] <;> rfl
      rcases (Bool.eq_false_or_eq_true (withinB d.Nodes 0 1000000)).symm with h3 | h3
      · have HQ := Lib.hid h3
        clear hc hx hb h
        go_wp2
        refine wp_region_ext (by kernel_rfl) (by kernel_rfl) ?_
        repeat (go_big_quiet_step (first | ((go_at_call 45; exact Calls.quiet_ext ((Same.ret (WordOk_c _ _ hsz))))) | ((go_at_call 41; exact Calls.quiet_ext ((Same.ret (within_c _ _ _ _))))) | ((go_at_call 51; exact Calls.quiet_ext ((VecOk_c d.Res _))))))
        refine wpQuiet_nil ?_
        intro w1 hb1
        have HB1 := Lib.hid hb1
        clear hcx c0 c1 c2 c3 c4 c5 hb1
        go_wp2
        refine ret_bool rfl rfl rfl ?_ ((HB.out.alloc _).trans HB1.out)
        rw [HE.out, drop_cons HX.out, HDe.out (by unfold quotaOkB; rw [h1, h2, HQ.out]; rfl)] <;> rfl
      rcases (Bool.eq_false_or_eq_true (vecB d.Res)).symm with h4 | h4
      · have HQ := Lib.hid h4
        clear hc hx hb h
        go_wp2
        refine wp_region_ext (by kernel_rfl) (by kernel_rfl) ?_
        repeat (go_big_quiet_step (first | ((go_at_call 45; exact Calls.quiet_ext ((Same.ret (WordOk_c _ _ hsz))))) | ((go_at_call 41; exact Calls.quiet_ext ((Same.ret (within_c _ _ _ _))))) | ((go_at_call 51; exact Calls.quiet_ext ((VecOk_c d.Res _))))))
        refine wpQuiet_nil ?_
        intro w1 hb1
        have HB1 := Lib.hid hb1
        clear hcx c0 c1 c2 c3 c4 c5 hb1
        go_wp2
        refine ret_bool rfl rfl rfl ?_ ((HB.out.alloc _).trans HB1.out)
        rw [HE.out, drop_cons HX.out, HDe.out (by unfold quotaOkB; rw [h1, h2, h3, HQ.out]; rfl)] <;> rfl
      have HOK := Lib.hid (show quotaOkB d = true by unfold quotaOkB; rw [h1, h2, h3, h4]; rfl)
      by_cases hk0 : k = 0
      · have ht : decide (0 < k) = false := by rw [decide_eq_false_iff_not]; omega
        have HG := Lib.hid (chain_first (ok := quotaOkB) (lt := quotaLt) (l := xs) hk0 d (xs.drop (k + 1)))
        clear hc hx hb h hk0
        go_wp2
        refine wp_region_ext (by kernel_rfl) (by kernel_rfl) ?_
        repeat (go_big_quiet_step (first | ((go_at_call 45; exact Calls.quiet_ext ((Same.ret (WordOk_c _ _ hsz))))) | ((go_at_call 41; exact Calls.quiet_ext ((Same.ret (within_c _ _ _ _))))) | ((go_at_call 51; exact Calls.quiet_ext ((VecOk_c d.Res _))))))
        refine wpQuiet_nil ?_
        intro w1 hb1
        have HB1 := Lib.hid hb1
        clear hcx c0 c1 c2 c3 c4 c5 hb1
        go_wp2
        go_roundw
        case rel => exact ⟨k + 1, by omega, by go_num, (HB.out.alloc _).trans HB1.out, by rw [HE.out, drop_cons HX.out, HG.out, prevOf_succ HX.out, HOK.out, Bool.true_and]⟩
        case measure => simp [intOf]; omega
      · have ht : decide (0 < k) = true := by rw [decide_eq_true_iff]; omega
        obtain ⟨b', o', q, cs', e, _, hx', _, hc', rfl, _⟩ := (h.ext (Flat.mono _ _) hb).at_ (show k - 1 < n by omega)
        simp only [Option.some.injEq, Addr.mk.injEq, and_true] at e
        obtain ⟨rfl, rfl⟩ := e
        have d0 := hc' 0 _ rfl
        have d1 := hc' 1 _ rfl
        have d2 := hc' 2 _ rfl
        have d3 := hc' 3 _ rfl
        have d4 := hc' 4 _ rfl
        have d5 := hc' 5 _ rfl
        simp only [Nat.add_zero] at d0
        have hprev : prevOf xs k = some q := by rw [prevOf, if_neg hk0, hx']
        have HP := Lib.hid hprev
        rcases Bool.eq_false_or_eq_true (Op.bytesLess q.Name.toList d.Name.toList) with h5 | h5
        all_goals
          have H5 := Lib.hid (show quotaLt q d = _ from h5)
          clear hc hx hb h hc' hx' hprev
          clear d1 d2 d3 d4 d5
          go_wp2
          refine wp_region_ext (by kernel_rfl) (by kernel_rfl) ?_
          repeat (go_big_quiet_step (first | ((go_at_call 45; exact Calls.quiet_ext ((Same.ret (WordOk_c _ _ hsz))))) | ((go_at_call 41; exact Calls.quiet_ext ((Same.ret (within_c _ _ _ _))))) | ((go_at_call 51; exact Calls.quiet_ext ((VecOk_c d.Res _))))))
          refine wpQuiet_nil ?_
          intro w1 hb1
          have HB1 := Lib.hid hb1
          clear hcx c0 c1 c2 c3 c4 c5 d0 hb1
          go_wp2
        · go_roundw
          case rel => exact ⟨k + 1, by omega, by go_num, (HB.out.alloc _).trans HB1.out, by rw [HE.out, drop_cons HX.out, chain_lt HP.out H5.out, prevOf_succ HX.out, HOK.out, Bool.true_and]⟩
          case measure => simp [intOf]; omega
        · exact ret_bool rfl rfl rfl (by rw [HE.out, drop_cons HX.out, chain_ge HP.out H5.out]; rfl) ((HB.out.alloc _).trans HB1.out)
    · go_wp2
      refine ret_bool rfl rfl rfl ?_ hb
      rw [HE.out, List.drop_eq_nil_of_le (by have := HN.out; omega), HN.out, chain_end, Bool.true_and]
      (first | (symm; rw [decide_eq_true_iff]; omega) | (symm; rw [decide_eq_false_iff_not]; omega) | (rw [decide_eq_decide]; omega) | ((try simp only [beq_iff_eq, beq_eq_false_iff_ne, bne_iff_ne, bne_eq_false_iff_eq, ne_eq] at *); rw [Bool.eq_iff_iff]; simp; omega))
set_option maxHeartbeats 8000000 in
theorem sQuotasOk_c (xs : List Quota) (A : Option Addr) (n c : Nat) (w : World) (h : SlAt RQuota 6 w A n xs) (hl : n ≤ maxLen) : Calls Try.prog 88 #[.slice A n c] w (Ret w (.bool (quotasB xs))) := by
  unfold maxLen at hl
  have HN := Lib.hid h.len
  go_enter Try.func88, Try.ntmps88
  by_cases hbig : 12 < n
  · go_wp2
    exact ret_bool rfl rfl rfl (by unfold quotasB; rw [HN.out]; simp; intro _; omega) (Ext.refl _)
  go_wp2
  go_loopw [10] (fun i wr => ∃ k : Nat, k ≤ n ∧ i = .int .i64 k ∧ Ext w wr ∧ quotasB xs = chainGo quotaOkB quotaLt (prevOf xs k) (xs.drop k)) (fun i _ => n - (intOf i).toNat)
  case atStart => exact ⟨0, Nat.zero_le _, rfl, Ext.refl _, by unfold quotasB; rw [HN.out, show decide (n ≤ 12) = true by rw [decide_eq_true_iff]; omega]; simp [prevOf]⟩
  case round =>
    obtain ⟨k, hk, rfl, hb, hE⟩ := hrel
    have HE := Lib.hid hE; clear hE
    by_cases hlt : k < n
    · obtain ⟨b, o, d, cs, rfl, hbw, hx, _, hc, rfl, hok⟩ := (h.ext (Flat.mono _ _) hb).at_ hlt
      have hsz := hok.1
      clear hok
      have c0 := hc 0 _ rfl
      have c1 := hc 1 _ rfl
      have c2 := hc 2 _ rfl
      have c3 := hc 3 _ rfl
      have c4 := hc 4 _ rfl
      have c5 := hc 5 _ rfl
      simp only [Nat.add_zero] at c0
      have HX := Lib.hid hx; have HB := Lib.hid hb
      have HDe := Lib.hid (fun (hb : quotaOkB d = false) => chain_bad (lt := quotaLt) (prevOf xs k) hb (xs.drop (k + 1)))
      have hbw2 : b < wr.heap.size + 1 := by omega
      have hcx := @Later.cell (wr.alloc (.cells #[.string d.Name, .int .i64 d.Jobs, .int .i64 d.Nodes, .int .i64 d.Res.A, .int .i64 d.Res.B, .int .i64 d.Res.C] 104))
      rcases (Bool.eq_false_or_eq_true (wordB d.Name)).symm with h1 | h1
      · have HQ := Lib.hid h1
        clear hc hx hb h
        go_wp2
        refine wp_region_ext (by kernel_rfl) (by kernel_rfl) ?_
        repeat (go_big_quiet_step ((go_at_call 76; exact Calls.quiet_ext ((Same.ret (sWordOk_c _ _ hsz))))))
        refine wpQuiet_nil ?_
        intro w1 hb1
        have HB1 := Lib.hid hb1
        clear hcx c0 c1 c2 c3 c4 c5 hb1
        go_wp2
        refine ret_bool rfl rfl rfl ?_ ((HB.out.alloc _).trans HB1.out)
        rw [HE.out, drop_cons HX.out, HDe.out (by unfold quotaOkB; rw [HQ.out]; rfl)] <;> rfl
      have hfacts : (k = 0 ∧ decide (0 < k) = false) ∨ ∃ q, decide (0 < k) = true ∧ prevOf xs k = some q ∧ wr.cell? ⟨b, o + (k - 1) * 6, none⟩ = some (.string q.Name) := by
        by_cases hk0 : k = 0
        · exact .inl ⟨hk0, by rw [decide_eq_false_iff_not]; omega⟩
        · obtain ⟨b', o', q, cs', e, _, hx', _, hc', rfl, hok'⟩ := (h.ext (Flat.mono _ _) hb).at_ (show k - 1 < n by omega)
          simp only [Option.some.injEq, Addr.mk.injEq, and_true] at e
          obtain ⟨rfl, rfl⟩ := e
          exact .inr ⟨q, by rw [decide_eq_true_iff]; omega, by rw [prevOf, if_neg hk0, hx'], by simpa using hc' 0 _ rfl⟩
      rcases hfacts with ⟨hk0, ht⟩ | ⟨q, ht, hp, d0⟩
      · have HG := Lib.hid (chain_first (ok := quotaOkB) (lt := quotaLt) (l := xs) hk0 d (xs.drop (k + 1)))
        clear hk0
        rcases Bool.eq_false_or_eq_true (decide (d.Jobs < 0)) with h2 | h2
        · have HQ := Lib.hid h2
          clear hc hx hb h
          go_wp2
          refine wp_region_ext (by kernel_rfl) (by kernel_rfl) ?_
          repeat (go_big_quiet_step (first | ((go_at_call 76; exact Calls.quiet_ext ((Same.ret (sWordOk_c _ _ hsz))))) | ((go_at_call 102; exact Calls.quiet_ext ((Same.ret (sRes_c _ _))))) | ((go_at_call 103; exact Calls.quiet_ext ((sVecOk_c d.Res _))))))
          refine wpQuiet_nil ?_
          intro w1 hb1
          have HB1 := Lib.hid hb1
          clear hcx c0 c1 c2 c3 c4 c5 hb1
          go_wp2
          refine ret_bool rfl rfl rfl ?_ ((HB.out.alloc _).trans HB1.out)
          rw [HE.out, drop_cons HX.out, HDe.out (by unfold quotaOkB; rw [h1, show withinB d.Jobs 0 60 = false by unfold withinB; rw [decide_eq_false_iff_not]; have := of_decide_eq_true HQ.out; omega]; rfl)] <;> rfl
        rcases Bool.eq_false_or_eq_true (decide (60 < d.Jobs)) with h3 | h3
        · have HQ := Lib.hid h3
          clear hc hx hb h
          go_wp2
          refine wp_region_ext (by kernel_rfl) (by kernel_rfl) ?_
          repeat (go_big_quiet_step (first | ((go_at_call 76; exact Calls.quiet_ext ((Same.ret (sWordOk_c _ _ hsz))))) | ((go_at_call 102; exact Calls.quiet_ext ((Same.ret (sRes_c _ _))))) | ((go_at_call 103; exact Calls.quiet_ext ((sVecOk_c d.Res _))))))
          refine wpQuiet_nil ?_
          intro w1 hb1
          have HB1 := Lib.hid hb1
          clear hcx c0 c1 c2 c3 c4 c5 hb1
          go_wp2
          refine ret_bool rfl rfl rfl ?_ ((HB.out.alloc _).trans HB1.out)
          rw [HE.out, drop_cons HX.out, HDe.out (by unfold quotaOkB; rw [h1, show withinB d.Jobs 0 60 = false by unfold withinB; rw [decide_eq_false_iff_not]; have := of_decide_eq_true HQ.out; omega]; rfl)] <;> rfl
        have HJ := Lib.hid (show withinB d.Jobs 0 60 = true by unfold withinB; rw [decide_eq_true_iff]; have := of_decide_eq_false h2; have := of_decide_eq_false h3; omega)
        rcases (Bool.eq_false_or_eq_true (resB d.Nodes)).symm with h6 | h6
        · have HQ := Lib.hid h6
          clear hc hx hb h
          go_wp2
          refine wp_region_ext (by kernel_rfl) (by kernel_rfl) ?_
          repeat (go_big_quiet_step (first | ((go_at_call 76; exact Calls.quiet_ext ((Same.ret (sWordOk_c _ _ hsz))))) | ((go_at_call 102; exact Calls.quiet_ext ((Same.ret (sRes_c _ _))))) | ((go_at_call 103; exact Calls.quiet_ext ((sVecOk_c d.Res _))))))
          refine wpQuiet_nil ?_
          intro w1 hb1
          have HB1 := Lib.hid hb1
          clear hcx c0 c1 c2 c3 c4 c5 hb1
          go_wp2
          refine ret_bool rfl rfl rfl ?_ ((HB.out.alloc _).trans HB1.out)
          rw [HE.out, drop_cons HX.out, HDe.out (by unfold quotaOkB; rw [h1, HJ.out, show withinB d.Nodes 0 1000000 = false from HQ.out]; rfl)] <;> rfl
        have HR := Lib.hid (show withinB d.Nodes 0 1000000 = true from h6)
        rcases (Bool.eq_false_or_eq_true (vecB d.Res)).symm with h7 | h7
        · have HQ := Lib.hid h7
          clear hc hx hb h
          go_wp2
          refine wp_region_ext (by kernel_rfl) (by kernel_rfl) ?_
          repeat (go_big_quiet_step (first | ((go_at_call 76; exact Calls.quiet_ext ((Same.ret (sWordOk_c _ _ hsz))))) | ((go_at_call 102; exact Calls.quiet_ext ((Same.ret (sRes_c _ _))))) | ((go_at_call 103; exact Calls.quiet_ext ((sVecOk_c d.Res _))))))
          refine wpQuiet_nil ?_
          intro w1 hb1
          have HB1 := Lib.hid hb1
          clear hcx c0 c1 c2 c3 c4 c5 hb1
          go_wp2
          refine ret_bool rfl rfl rfl ?_ ((HB.out.alloc _).trans HB1.out)
          rw [HE.out, drop_cons HX.out, HDe.out (by unfold quotaOkB; rw [h1, HJ.out, HR.out, HQ.out]; rfl)] <;> rfl
        have HOK := Lib.hid (show quotaOkB d = true by unfold quotaOkB; rw [h1, HJ.out, HR.out, h7]; rfl)
        clear hc hx hb h
        go_wp2
        refine wp_region_ext (by kernel_rfl) (by kernel_rfl) ?_
        repeat (go_big_quiet_step (first | ((go_at_call 76; exact Calls.quiet_ext ((Same.ret (sWordOk_c _ _ hsz))))) | ((go_at_call 102; exact Calls.quiet_ext ((Same.ret (sRes_c _ _))))) | ((go_at_call 103; exact Calls.quiet_ext ((sVecOk_c d.Res _))))))
        refine wpQuiet_nil ?_
        intro w1 hb1
        have HB1 := Lib.hid hb1
        clear hcx c0 c1 c2 c3 c4 c5 hb1
        go_wp2
        go_roundw
        case rel => exact ⟨k + 1, by omega, by go_num, (HB.out.alloc _).trans HB1.out, by rw [HE.out, drop_cons HX.out, HG.out, prevOf_succ HX.out, HOK.out, Bool.true_and]⟩
        case measure => simp [intOf]; omega
      · have HP := Lib.hid hp
        have hk0 : 0 < k := of_decide_eq_true ht
        clear hp
        rcases (Bool.eq_false_or_eq_true (Op.bytesLess q.Name.toList d.Name.toList)).symm with h5 | h5
        · have H5 := Lib.hid (show quotaLt q d = _ from h5)
          clear hc hx hb h
          go_wp2
          refine wp_region_ext (by kernel_rfl) (by kernel_rfl) ?_
          repeat (go_big_quiet_step ((go_at_call 76; exact Calls.quiet_ext ((Same.ret (sWordOk_c _ _ hsz))))))
          refine wpQuiet_nil ?_
          intro w1 hb1
          have HB1 := Lib.hid hb1
          clear hcx c0 c1 c2 c3 c4 c5 d0 hb1
          go_wp2
          exact ret_bool rfl rfl rfl (by rw [HE.out, drop_cons HX.out, chain_ge HP.out H5.out]) ((HB.out.alloc _).trans HB1.out)
        have HG := Lib.hid (chain_lt (ok := quotaOkB) (lt := quotaLt) HP.out (show quotaLt q d = _ from h5) (xs.drop (k + 1)))
        rcases Bool.eq_false_or_eq_true (decide (d.Jobs < 0)) with h2 | h2
        · have HQ := Lib.hid h2
          clear hc hx hb h
          go_wp2
          refine wp_region_ext (by kernel_rfl) (by kernel_rfl) ?_
          repeat (go_big_quiet_step (first | ((go_at_call 76; exact Calls.quiet_ext ((Same.ret (sWordOk_c _ _ hsz))))) | ((go_at_call 102; exact Calls.quiet_ext ((Same.ret (sRes_c _ _))))) | ((go_at_call 103; exact Calls.quiet_ext ((sVecOk_c d.Res _))))))
          refine wpQuiet_nil ?_
          intro w1 hb1
          have HB1 := Lib.hid hb1
          clear hcx c0 c1 c2 c3 c4 c5 d0 hb1
          go_wp2
          refine ret_bool rfl rfl rfl ?_ ((HB.out.alloc _).trans HB1.out)
          rw [HE.out, drop_cons HX.out, HDe.out (by unfold quotaOkB; rw [h1, show withinB d.Jobs 0 60 = false by unfold withinB; rw [decide_eq_false_iff_not]; have := of_decide_eq_true HQ.out; omega]; rfl)] <;> rfl
        rcases Bool.eq_false_or_eq_true (decide (60 < d.Jobs)) with h3 | h3
        · have HQ := Lib.hid h3
          clear hc hx hb h
          go_wp2
          refine wp_region_ext (by kernel_rfl) (by kernel_rfl) ?_
          repeat (go_big_quiet_step (first | ((go_at_call 76; exact Calls.quiet_ext ((Same.ret (sWordOk_c _ _ hsz))))) | ((go_at_call 102; exact Calls.quiet_ext ((Same.ret (sRes_c _ _))))) | ((go_at_call 103; exact Calls.quiet_ext ((sVecOk_c d.Res _))))))
          refine wpQuiet_nil ?_
          intro w1 hb1
          have HB1 := Lib.hid hb1
          clear hcx c0 c1 c2 c3 c4 c5 d0 hb1
          go_wp2
          refine ret_bool rfl rfl rfl ?_ ((HB.out.alloc _).trans HB1.out)
          rw [HE.out, drop_cons HX.out, HDe.out (by unfold quotaOkB; rw [h1, show withinB d.Jobs 0 60 = false by unfold withinB; rw [decide_eq_false_iff_not]; have := of_decide_eq_true HQ.out; omega]; rfl)] <;> rfl
        have HJ := Lib.hid (show withinB d.Jobs 0 60 = true by unfold withinB; rw [decide_eq_true_iff]; have := of_decide_eq_false h2; have := of_decide_eq_false h3; omega)
        rcases (Bool.eq_false_or_eq_true (resB d.Nodes)).symm with h6 | h6
        · have HQ := Lib.hid h6
          clear hc hx hb h
          go_wp2
          refine wp_region_ext (by kernel_rfl) (by kernel_rfl) ?_
          repeat (go_big_quiet_step (first | ((go_at_call 76; exact Calls.quiet_ext ((Same.ret (sWordOk_c _ _ hsz))))) | ((go_at_call 102; exact Calls.quiet_ext ((Same.ret (sRes_c _ _))))) | ((go_at_call 103; exact Calls.quiet_ext ((sVecOk_c d.Res _))))))
          refine wpQuiet_nil ?_
          intro w1 hb1
          have HB1 := Lib.hid hb1
          clear hcx c0 c1 c2 c3 c4 c5 d0 hb1
          go_wp2
          refine ret_bool rfl rfl rfl ?_ ((HB.out.alloc _).trans HB1.out)
          rw [HE.out, drop_cons HX.out, HDe.out (by unfold quotaOkB; rw [h1, HJ.out, show withinB d.Nodes 0 1000000 = false from HQ.out]; rfl)] <;> rfl
        have HR := Lib.hid (show withinB d.Nodes 0 1000000 = true from h6)
        rcases (Bool.eq_false_or_eq_true (vecB d.Res)).symm with h7 | h7
        · have HQ := Lib.hid h7
          clear hc hx hb h
          go_wp2
          refine wp_region_ext (by kernel_rfl) (by kernel_rfl) ?_
          repeat (go_big_quiet_step (first | ((go_at_call 76; exact Calls.quiet_ext ((Same.ret (sWordOk_c _ _ hsz))))) | ((go_at_call 102; exact Calls.quiet_ext ((Same.ret (sRes_c _ _))))) | ((go_at_call 103; exact Calls.quiet_ext ((sVecOk_c d.Res _))))))
          refine wpQuiet_nil ?_
          intro w1 hb1
          have HB1 := Lib.hid hb1
          clear hcx c0 c1 c2 c3 c4 c5 d0 hb1
          go_wp2
          refine ret_bool rfl rfl rfl ?_ ((HB.out.alloc _).trans HB1.out)
          rw [HE.out, drop_cons HX.out, HDe.out (by unfold quotaOkB; rw [h1, HJ.out, HR.out, HQ.out]; rfl)] <;> rfl
        have HOK := Lib.hid (show quotaOkB d = true by unfold quotaOkB; rw [h1, HJ.out, HR.out, h7]; rfl)
        clear hc hx hb h
        go_wp2
        refine wp_region_ext (by kernel_rfl) (by kernel_rfl) ?_
        repeat (go_big_quiet_step (first | ((go_at_call 76; exact Calls.quiet_ext ((Same.ret (sWordOk_c _ _ hsz))))) | ((go_at_call 102; exact Calls.quiet_ext ((Same.ret (sRes_c _ _))))) | ((go_at_call 103; exact Calls.quiet_ext ((sVecOk_c d.Res _))))))
        refine wpQuiet_nil ?_
        intro w1 hb1
        have HB1 := Lib.hid hb1
        clear hcx c0 c1 c2 c3 c4 c5 d0 hb1
        go_wp2
        go_roundw
        case rel => exact ⟨k + 1, by omega, by go_num, (HB.out.alloc _).trans HB1.out, by rw [HE.out, drop_cons HX.out, HG.out, prevOf_succ HX.out, HOK.out, Bool.true_and]⟩
        case measure => simp [intOf]; omega
    · go_wp2
      refine ret_bool rfl rfl rfl ?_ hb
      rw [HE.out, List.drop_eq_nil_of_le (by have := HN.out; omega), chain_end]
end Go.Proofs.Ytbfambeoboiifaa
