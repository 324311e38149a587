/- Contracts over lists of accounts. -/
import Derived.Test.YtbfambeoboiifaaWord
namespace Go.Proofs.Ytbfambeoboiifaa
open Go.RowKit
def chainGo {α : Type} (ok : α → Bool) (lt : α → α → Bool) : Option α → List α → Bool
  | _, [] => true
  | none, d :: r => ok d && chainGo ok lt (some d) r
  | some q, d :: r => ok d && lt q d && chainGo ok lt (some d) r
def prevOf {α : Type} (l : List α) (k : Nat) : Option α := if k = 0 then none else l[k - 1]?
theorem prevOf_zero {α : Type} (l : List α) : prevOf l 0 = none := rfl
theorem prevOf_succ {α : Type} {l : List α} {k : Nat} {x : α} (h : l[k]? = some x) : prevOf l (k + 1) = some x := by simp [prevOf, h]
def usedB (n : Int) : Bool := decide (0 ≤ n ∧ n ≤ 1000000000)
def shareB (n : Int) : Bool := decide (1 ≤ n ∧ n ≤ 1000)
def acctOkB (a : Account) : Bool := wordB a.Name && shareB a.Share && usedB a.Used
def nameLtB (p a : ByteArray) : Bool := Op.bytesLess p.toList a.toList
def acctsB (l : List Account) : Bool := chainGo acctOkB (fun p a => nameLtB p.Name a.Name) none l && decide (l.length ≤ 12)
theorem withinB_share (n : Int) : withinB n 1 1000 = shareB n := rfl
theorem withinB_used (n : Int) : withinB n 0 1000000000 = usedB n := rfl
set_option maxHeartbeats 4000000 in
theorem AccountsOk_c (xs : List Account) (A : Option Addr) (n c : Nat) (w : World) (h : SlAt RAccount 3 w A n xs) (hl : n ≤ maxLen) :
    Calls Try.prog 12 #[.slice A n c] w (Ret w (.bool (acctsB xs))) := by
  unfold maxLen at hl
  have HN := Lib.hid h.len
  go_enter Try.func12, Try.ntmps12
  go_wp2
  go_loopw [7] (fun i wr => ∃ k : Nat, k ≤ n ∧ i = .int .i64 k ∧ Ext w wr ∧ acctsB xs = (chainGo acctOkB (fun p a => nameLtB p.Name a.Name) (prevOf xs k) (xs.drop k) && decide (xs.length ≤ 12))) (fun i _ => n - (intOf i).toNat)
  case atStart => exact ⟨0, Nat.zero_le _, rfl, Ext.refl _, rfl⟩
  case round =>
    obtain ⟨k, hk, rfl, hb, hE⟩ := hrel
    have HE := Lib.hid hE; clear hE
    by_cases hlt : k < n
    · obtain ⟨b, o, d, cs, rfl, hbw, hx, _, hc, rfl, hok⟩ := (h.ext (Flat.mono _ _) hb).at_ hlt
      have hsz := hok.1
      clear hok
      have c0 := hc 0 _ rfl
      have c1 := hc 1 _ rfl
      have c2 := hc 2 _ rfl
      simp only [Nat.add_zero] at c0
      have HX := Lib.hid hx; have HB := Lib.hid hb
      have hbw2 : b < wr.heap.size + 1 := by omega
      have hcx := @Later.cell (wr.alloc (.cells #[.string d.Name, .int .i64 d.Share, .int .i64 d.Used] 30))
      rcases Bool.eq_false_or_eq_true (wordB d.Name) with h1 | h1
      · rcases Bool.eq_false_or_eq_true (withinB d.Share 1 1000) with h2 | h2
        · rcases Bool.eq_false_or_eq_true (withinB d.Used 0 1000000000) with h3 | h3
          · by_cases hk0 : k = 0
            · have ht : decide (0 < k) = false := by rw [decide_eq_false_iff_not]; omega
              have HK := Lib.hid hk0
              clear hc hx hb h hk0
              go_wp2
              refine wp_region_ext (by kernel_rfl) (by kernel_rfl) ?_
              repeat (go_big_quiet_step (first | ((go_at_call 45; exact Calls.quiet_ext ((Same.ret (WordOk_c _ _ hsz))))) | ((go_at_call 41; exact Calls.quiet_ext ((Same.ret (within_c _ _ _ _)))))))
              refine wpQuiet_nil ?_
              intro w1 hb1
              have HB1 := Lib.hid hb1
              clear hcx c0 c1 c2 hb1
              go_wp2
              go_roundw
              case rel => exact ⟨k + 1, by omega, by go_num, (HB.out.alloc _).trans HB1.out, by rw [HE.out, drop_cons HX.out, prevOf_succ HX.out, HK.out, prevOf_zero]; rw [withinB_share] at h2; rw [withinB_used] at h3; simp [chainGo, acctOkB, h1, h2, h3]⟩
              case measure => simp [intOf]; omega
            · have ht : decide (0 < k) = true := by rw [decide_eq_true_iff]; omega
              obtain ⟨b', o', q, cs', e, _, hx', _, hc', rfl, _⟩ := (h.ext (Flat.mono _ _) hb).at_ (show k - 1 < n by omega)
              simp only [Option.some.injEq, Addr.mk.injEq, and_true] at e
              obtain ⟨rfl, rfl⟩ := e
              have d0 := hc' 0 _ rfl
              have d1 := hc' 1 _ rfl
              have d2 := hc' 2 _ rfl
              simp only [Nat.add_zero] at d0
              have hprev : prevOf xs k = some q := by rw [prevOf, if_neg hk0, hx']
              have HP := Lib.hid hprev
              rcases Bool.eq_false_or_eq_true (Op.bytesLess q.Name.toList d.Name.toList) with h4 | h4
              all_goals
                clear hc hx hb h hc' hx' hprev
                go_wp2
                refine wp_region_ext (by kernel_rfl) (by kernel_rfl) ?_
                repeat (go_big_quiet_step (first | ((go_at_call 45; exact Calls.quiet_ext ((Same.ret (WordOk_c _ _ hsz))))) | ((go_at_call 41; exact Calls.quiet_ext ((Same.ret (within_c _ _ _ _)))))))
                refine wpQuiet_nil ?_
                intro w1 hb1
                have HB1 := Lib.hid hb1
                clear hcx c0 c1 c2 d0 d1 d2 hb1
                go_wp2
              · go_roundw
                case rel => exact ⟨k + 1, by omega, by go_num, (HB.out.alloc _).trans HB1.out, by rw [HE.out, drop_cons HX.out, prevOf_succ HX.out, HP.out]; rw [withinB_share] at h2; rw [withinB_used] at h3; simp [chainGo, acctOkB, nameLtB, h1, h2, h3, h4]⟩
                case measure => simp [intOf]; omega
              · exact ret_bool rfl rfl rfl (by rw [HE.out, drop_cons HX.out, HP.out]; simp [chainGo, nameLtB, h4]) ((HB.out.alloc _).trans HB1.out)
          · have h3' := Lib.hid h3
            clear hc hx hb h
            go_wp2
            refine wp_region_ext (by kernel_rfl) (by kernel_rfl) ?_
            repeat (go_big_quiet_step (first | ((go_at_call 45; exact Calls.quiet_ext ((Same.ret (WordOk_c _ _ hsz))))) | ((go_at_call 41; exact Calls.quiet_ext ((Same.ret (within_c _ _ _ _)))))))
            refine wpQuiet_nil ?_
            intro w1 hb1
            have HB1 := Lib.hid hb1
            clear hcx c0 c1 c2 hb1
            go_wp2
            refine ret_bool rfl rfl rfl ?_ ((HB.out.alloc _).trans HB1.out)
            rw [HE.out, drop_cons HX.out]
            cases prevOf xs k <;> simp [chainGo, acctOkB, show usedB d.Used = false from h3'.out]
        · have h2' := Lib.hid h2
          clear hc hx hb h
          go_wp2
          refine wp_region_ext (by kernel_rfl) (by kernel_rfl) ?_
          repeat (go_big_quiet_step (first | ((go_at_call 45; exact Calls.quiet_ext ((Same.ret (WordOk_c _ _ hsz))))) | ((go_at_call 41; exact Calls.quiet_ext ((Same.ret (within_c _ _ _ _)))))))
          refine wpQuiet_nil ?_
          intro w1 hb1
          have HB1 := Lib.hid hb1
          clear hcx c0 c1 c2 hb1
          go_wp2
          refine ret_bool rfl rfl rfl ?_ ((HB.out.alloc _).trans HB1.out)
          rw [HE.out, drop_cons HX.out]
          cases prevOf xs k <;> simp [chainGo, acctOkB, show shareB d.Share = false from h2'.out]
      · clear hc hx hb h
        go_wp2
        refine wp_region_ext (by kernel_rfl) (by kernel_rfl) ?_
        repeat (go_big_quiet_step (first | ((go_at_call 45; exact Calls.quiet_ext ((Same.ret (WordOk_c _ _ hsz))))) | ((go_at_call 41; exact Calls.quiet_ext ((Same.ret (within_c _ _ _ _)))))))
        refine wpQuiet_nil ?_
        intro w1 hb1
        have HB1 := Lib.hid hb1
        clear hcx c0 c1 c2 hb1
        go_wp2
        refine ret_bool rfl rfl rfl ?_ ((HB.out.alloc _).trans HB1.out)
        rw [HE.out, drop_cons HX.out]
        cases prevOf xs k <;> simp [chainGo, acctOkB, h1]
    · go_wp2
      refine ret_bool rfl rfl rfl ?_ hb
      rw [HE.out, List.drop_eq_nil_of_le (by have := HN.out; omega), HN.out]
      cases prevOf xs k <;> simp [chainGo] <;> omega
theorem l11Used_c (x : Int) (w : World) : Calls Try.prog 43 #[.int .i64 x] w (Same w (.bool (usedB x))) := by
  go_enter Try.func43, Try.ntmps43
  go_wp2
  all_goals (refine same_bool rfl rfl rfl ?_; unfold usedB; (first | (symm; rw [decide_eq_true_iff]; omega) | (symm; rw [decide_eq_false_iff_not]; omega) | (rw [decide_eq_decide]; omega) | ((try simp only [beq_iff_eq, beq_eq_false_iff_ne, bne_iff_ne, bne_eq_false_iff_eq, ne_eq] at *); rw [Bool.eq_iff_iff]; simp; omega)))
set_option maxHeartbeats 4000000 in
theorem sAccountsOk_c (xs : List Account) (A : Option Addr) (n c : Nat) (w : World) (h : SlAt RAccount 3 w A n xs) (hl : n ≤ maxLen) :
    Calls Try.prog 46 #[.slice A n c] w (Ret w (.bool (acctsB xs))) := by
  unfold maxLen at hl
  have HN := Lib.hid h.len
  go_enter Try.func46, Try.ntmps46
  by_cases hbig : 12 < n
  · go_wp2
    exact ret_bool rfl rfl rfl (by unfold acctsB; rw [HN.out]; simp; intro _; omega) (Ext.refl _)
  go_wp2
  go_loopw [10] (fun i wr => ∃ k : Nat, k ≤ n ∧ i = .int .i64 k ∧ Ext w wr ∧ acctsB xs = chainGo acctOkB (fun p a => nameLtB p.Name a.Name) (prevOf xs k) (xs.drop k)) (fun i _ => n - (intOf i).toNat)
  case atStart => exact ⟨0, Nat.zero_le _, rfl, Ext.refl _, by unfold acctsB; rw [HN.out, show decide (n ≤ 12) = true by rw [decide_eq_true_iff]; omega]; simp [prevOf]⟩
  case round =>
    obtain ⟨k, hk, rfl, hb, hE⟩ := hrel
    have HE := Lib.hid hE; clear hE
    by_cases hlt : k < n
    · obtain ⟨b, o, d, cs, rfl, hbw, hx, _, hc, rfl, hok⟩ := (h.ext (Flat.mono _ _) hb).at_ hlt
      have hsz := hok.1
      clear hok
      have c0 := hc 0 _ rfl
      have c1 := hc 1 _ rfl
      have c2 := hc 2 _ rfl
      simp only [Nat.add_zero] at c0
      have HX := Lib.hid hx; have HB := Lib.hid hb
      have hbw2 : b < wr.heap.size + 1 := by omega
      have hcx := @Later.cell (wr.alloc (.cells #[.string d.Name, .int .i64 d.Share, .int .i64 d.Used] 30))
      have hprev : ∃ q, prevOf xs k = q := ⟨_, rfl⟩
      obtain ⟨pq, hpq⟩ := hprev
      have HPQ := Lib.hid hpq
      have hfacts : (k = 0 ∧ pq = none) ∨ ∃ q, 0 < k ∧ pq = some q ∧ q.Name.size ≤ maxLen ∧ wr.cell? ⟨b, o + (k - 1) * 3, none⟩ = some (.string q.Name) := by
        by_cases hk0 : k = 0
        · exact .inl ⟨hk0, by rw [← hpq, hk0]; rfl⟩
        · obtain ⟨b', o', q, cs', e, _, hx', _, hc', rfl, hok'⟩ := (h.ext (Flat.mono _ _) hb).at_ (show k - 1 < n by omega)
          simp only [Option.some.injEq, Addr.mk.injEq, and_true] at e
          obtain ⟨rfl, rfl⟩ := e
          exact .inr ⟨q, by omega, by rw [← hpq, prevOf, if_neg hk0, hx'], hok'.1, by simpa using hc' 0 _ rfl⟩
      clear hpq
      rcases Bool.eq_false_or_eq_true (wordB d.Name) with h1 | h1
      · rcases hfacts with ⟨hk0, hp⟩ | ⟨q, hk0, hp, hq, d0⟩
        · have ht : decide (0 < k) = false := by rw [decide_eq_false_iff_not]; omega
          have HP := Lib.hid hp
          clear hk0 hp
          rcases Bool.eq_false_or_eq_true (decide (d.Share < 1)) with h2 | h2
          · have h2' := Lib.hid h2
            clear hc hx hb h
            go_wp2
            refine wp_region_ext (by kernel_rfl) (by kernel_rfl) ?_
            repeat (go_big_quiet_step ((go_at_call 76; exact Calls.quiet_ext ((Same.ret (sWordOk_c _ _ hsz))))))
            refine wpQuiet_nil ?_
            intro w1 hb1
            have HB1 := Lib.hid hb1
            clear hcx c0 c1 c2 hb1
            go_wp2
            refine ret_bool rfl rfl rfl ?_ ((HB.out.alloc _).trans HB1.out)
            rw [HE.out, drop_cons HX.out]
            cases prevOf xs k <;> simp [chainGo, acctOkB, show shareB d.Share = false by unfold shareB; rw [decide_eq_false_iff_not]; have := of_decide_eq_true h2'.out; omega]
          · rcases Bool.eq_false_or_eq_true (decide (1000 < d.Share)) with h3 | h3
            · have h3' := Lib.hid h3
              clear hc hx hb h
              go_wp2
              refine wp_region_ext (by kernel_rfl) (by kernel_rfl) ?_
              repeat (go_big_quiet_step ((go_at_call 76; exact Calls.quiet_ext ((Same.ret (sWordOk_c _ _ hsz))))))
              refine wpQuiet_nil ?_
              intro w1 hb1
              have HB1 := Lib.hid hb1
              clear hcx c0 c1 c2 hb1
              go_wp2
              refine ret_bool rfl rfl rfl ?_ ((HB.out.alloc _).trans HB1.out)
              rw [HE.out, drop_cons HX.out]
              cases prevOf xs k <;> simp [chainGo, acctOkB, show shareB d.Share = false by unfold shareB; rw [decide_eq_false_iff_not]; have := of_decide_eq_true h3'.out; omega]
            · rcases Bool.eq_false_or_eq_true (usedB d.Used) with h4 | h4
              all_goals
                have HS := Lib.hid (show shareB d.Share = true by unfold shareB; rw [decide_eq_true_iff]; have := of_decide_eq_false h2; have := of_decide_eq_false h3; omega)
                clear hc hx hb h
                go_wp2
                refine wp_region_ext (by kernel_rfl) (by kernel_rfl) ?_
                repeat (go_big_quiet_step (first | ((go_at_call 76; exact Calls.quiet_ext ((Same.ret (sWordOk_c _ _ hsz))))) | ((go_at_call 43; exact Calls.quiet_ext ((Same.ret (l11Used_c _ _)))))))
                refine wpQuiet_nil ?_
                intro w1 hb1
                have HB1 := Lib.hid hb1
                clear hcx c0 c1 c2 hb1
                go_wp2
              · go_roundw
                case rel => exact ⟨k + 1, by omega, by go_num, (HB.out.alloc _).trans HB1.out, by rw [HE.out, drop_cons HX.out, prevOf_succ HX.out, HPQ.out, HP.out]; simp [chainGo, acctOkB, h1, HS.out, h4]⟩
                case measure => simp [intOf]; omega
              · exact ret_bool rfl rfl rfl (by rw [HE.out, drop_cons HX.out]; cases prevOf xs k <;> simp [chainGo, acctOkB, h4]) ((HB.out.alloc _).trans HB1.out)
        · have ht : decide (0 < k) = true := by rw [decide_eq_true_iff]; omega
          have HP := Lib.hid hp
          clear hp
          rcases Bool.eq_false_or_eq_true (Op.bytesLess q.Name.toList d.Name.toList) with h5 | h5
          · rcases Bool.eq_false_or_eq_true (decide (d.Share < 1)) with h2 | h2
            · have h2' := Lib.hid h2
              clear hc hx hb h
              go_wp2
              refine wp_region_ext (by kernel_rfl) (by kernel_rfl) ?_
              repeat (go_big_quiet_step ((go_at_call 76; exact Calls.quiet_ext ((Same.ret (sWordOk_c _ _ hsz))))))
              refine wpQuiet_nil ?_
              intro w1 hb1
              have HB1 := Lib.hid hb1
              clear hcx c0 c1 c2 d0 hb1
              go_wp2
              refine ret_bool rfl rfl rfl ?_ ((HB.out.alloc _).trans HB1.out)
              rw [HE.out, drop_cons HX.out]
              cases prevOf xs k <;> simp [chainGo, acctOkB, show shareB d.Share = false by unfold shareB; rw [decide_eq_false_iff_not]; have := of_decide_eq_true h2'.out; omega]
            · rcases Bool.eq_false_or_eq_true (decide (1000 < d.Share)) with h3 | h3
              · have h3' := Lib.hid h3
                clear hc hx hb h
                go_wp2
                refine wp_region_ext (by kernel_rfl) (by kernel_rfl) ?_
                repeat (go_big_quiet_step ((go_at_call 76; exact Calls.quiet_ext ((Same.ret (sWordOk_c _ _ hsz))))))
                refine wpQuiet_nil ?_
                intro w1 hb1
                have HB1 := Lib.hid hb1
                clear hcx c0 c1 c2 d0 hb1
                go_wp2
                refine ret_bool rfl rfl rfl ?_ ((HB.out.alloc _).trans HB1.out)
                rw [HE.out, drop_cons HX.out]
                cases prevOf xs k <;> simp [chainGo, acctOkB, show shareB d.Share = false by unfold shareB; rw [decide_eq_false_iff_not]; have := of_decide_eq_true h3'.out; omega]
              · rcases Bool.eq_false_or_eq_true (usedB d.Used) with h4 | h4
                all_goals
                  have HS := Lib.hid (show shareB d.Share = true by unfold shareB; rw [decide_eq_true_iff]; have := of_decide_eq_false h2; have := of_decide_eq_false h3; omega)
                  clear hc hx hb h
                  go_wp2
                  refine wp_region_ext (by kernel_rfl) (by kernel_rfl) ?_
                  repeat (go_big_quiet_step (first | ((go_at_call 76; exact Calls.quiet_ext ((Same.ret (sWordOk_c _ _ hsz))))) | ((go_at_call 43; exact Calls.quiet_ext ((Same.ret (l11Used_c _ _)))))))
                  refine wpQuiet_nil ?_
                  intro w1 hb1
                  have HB1 := Lib.hid hb1
                  clear hcx c0 c1 c2 d0 hb1
                  go_wp2
                · go_roundw
                  case rel => exact ⟨k + 1, by omega, by go_num, (HB.out.alloc _).trans HB1.out, by rw [HE.out, drop_cons HX.out, prevOf_succ HX.out, HPQ.out, HP.out]; simp [chainGo, acctOkB, nameLtB, h1, HS.out, h4, h5]⟩
                  case measure => simp [intOf]; omega
                · exact ret_bool rfl rfl rfl (by rw [HE.out, drop_cons HX.out]; cases prevOf xs k <;> simp [chainGo, acctOkB, h4]) ((HB.out.alloc _).trans HB1.out)
          · clear hc hx hb h
            go_wp2
            refine wp_region_ext (by kernel_rfl) (by kernel_rfl) ?_
            repeat (go_big_quiet_step ((go_at_call 76; exact Calls.quiet_ext ((Same.ret (sWordOk_c _ _ hsz))))))
            refine wpQuiet_nil ?_
            intro w1 hb1
            have HB1 := Lib.hid hb1
            clear hcx c0 c1 c2 d0 hb1
            go_wp2
            exact ret_bool rfl rfl rfl (by rw [HE.out, drop_cons HX.out, HPQ.out, HP.out]; simp [chainGo, nameLtB, h5]) ((HB.out.alloc _).trans HB1.out)
      · clear hc hx hb h hfacts
        go_wp2
        refine wp_region_ext (by kernel_rfl) (by kernel_rfl) ?_
        repeat (go_big_quiet_step ((go_at_call 76; exact Calls.quiet_ext ((Same.ret (sWordOk_c _ _ hsz))))))
        refine wpQuiet_nil ?_
        intro w1 hb1
        have HB1 := Lib.hid hb1
        clear hcx c0 c1 c2 hb1
        go_wp2
        refine ret_bool rfl rfl rfl ?_ ((HB.out.alloc _).trans HB1.out)
        rw [HE.out, drop_cons HX.out]
        cases prevOf xs k <;> simp [chainGo, acctOkB, h1]
    · go_wp2
      refine ret_bool rfl rfl rfl ?_ hb
      rw [HE.out, List.drop_eq_nil_of_le (by have := HN.out; omega)]
      cases prevOf xs k <;> simp [chainGo]
end Go.Proofs.Ytbfambeoboiifaa
