/- Contracts over lists of bills. -/
import Derived.Test.YtfogmplpaopciabBill
namespace Go.Proofs.Ytfogmplpaopciab
open Go.RowKit
def billsB (l : List Bill) : Bool := l.all billB && decide (l.length ≤ 300)
set_option maxHeartbeats 1000000 in
theorem BillsOk_c (xs : List Bill) (A : Option Addr) (n c : Nat) (w : World) (h : SlAt RBill 7 w A n xs) (hl : n ≤ maxLen) : Calls Try.prog 61 #[.slice A n c] w (Ret w (.bool (billsB xs))) := by
  unfold maxLen at hl
  have HN := Lib.hid h.len
  go_enter Try.func61, Try.ntmps61
  go_wp2
  go_loopw [7] (fun i wr => ∃ k : Nat, k ≤ n ∧ i = .int .i64 k ∧ Ext w wr ∧ billsB xs = ((xs.drop k).all billB && decide (xs.length ≤ 300))) (fun i _ => n - (intOf i).toNat)
  case atStart => exact ⟨0, Nat.zero_le _, rfl, Ext.refl _, rfl⟩
  case round =>
    obtain ⟨k, hk, rfl, hb, hE⟩ := hrel
    have HE := Lib.hid hE; clear hE
    by_cases hlt : k < n
    · obtain ⟨b, o, x, cs, rfl, hbw, hx, _, hc, rfl, _⟩ := (h.ext (Flat.mono _ _) hb).at_ hlt
      have c0 := hc 0 _ rfl
      have c1 := hc 1 _ rfl
      have c2 := hc 2 _ rfl
      have c3 := hc 3 _ rfl
      have c4 := hc 4 _ rfl
      have c5 := hc 5 _ rfl
      have c6 := hc 6 _ rfl
      simp only [Nat.add_zero] at c0
      have HX := Lib.hid hx
      clear hc hx h
      rcases Bool.eq_false_or_eq_true (billB x) with h1 | h1
      · go_wp2_with (first | (go_at_call 71; (with_reducible refine (BillOk_c x _).mono ?_); rintro e w1 ⟨rfl, hb1⟩; obtain ⟨hcr1, hfr1, hz1⟩ := hb1.rules; (try simp at hz1); (try have hy1a := Nat.lt_of_succ_le hz1); (try have hy1b := Nat.lt_of_succ_lt hy1a); (try have hy1c := Nat.lt_of_succ_lt hy1b); (try have hy1d := Nat.lt_of_succ_lt hy1c)))
        go_roundw
        case rel => exact ⟨k + 1, by omega, by go_num, (hb.alloc _).trans hb1, by rw [HE.out, drop_cons HX.out, List.all_cons, h1]; rfl⟩
        case measure => simp [intOf]; omega
      · go_wp2_with (first | (go_at_call 71; (with_reducible refine (BillOk_c x _).mono ?_); rintro e w1 ⟨rfl, hb1⟩; obtain ⟨hcr1, hfr1, hz1⟩ := hb1.rules; (try simp at hz1); (try have hy1a := Nat.lt_of_succ_le hz1); (try have hy1b := Nat.lt_of_succ_lt hy1a); (try have hy1c := Nat.lt_of_succ_lt hy1b); (try have hy1d := Nat.lt_of_succ_lt hy1c)))
        exact ret_bool rfl rfl rfl (by rw [HE.out, drop_cons HX.out, List.all_cons, h1]; rfl) ((hb.alloc _).trans hb1)
    · go_wp2
      refine ret_bool rfl rfl rfl ?_ hb
      rw [HE.out, List.drop_eq_nil_of_le (by have := HN.out; omega), HN.out, List.all_nil, Bool.true_and]
      (first | (symm; rw [decide_eq_true_iff]; omega) | (symm; rw [decide_eq_false_iff_not]; omega) | (rw [decide_eq_decide]; omega) | ((try simp only [beq_iff_eq, beq_eq_false_iff_ne, bne_iff_ne, bne_eq_false_iff_eq, ne_eq] at *); rw [Bool.eq_iff_iff]; simp; omega))
set_option maxHeartbeats 1000000 in
theorem sBillsOk_c (xs : List Bill) (A : Option Addr) (n c : Nat) (w : World) (h : SlAt RBill 7 w A n xs) (hl : n ≤ maxLen) : Calls Try.prog 56 #[.slice A n c] w (Ret w (.bool (billsB xs))) := by
  unfold maxLen at hl
  have HN := Lib.hid h.len
  go_enter Try.func56, Try.ntmps56
  go_wp2
  go_loopw [7] (fun i wr => ∃ k : Nat, k ≤ n ∧ i = .int .i64 k ∧ Ext w wr ∧ billsB xs = ((xs.drop k).all billB && decide (xs.length ≤ 300))) (fun i _ => n - (intOf i).toNat)
  case atStart => exact ⟨0, Nat.zero_le _, rfl, Ext.refl _, rfl⟩
  case round =>
    obtain ⟨k, hk, rfl, hb, hE⟩ := hrel
    have HE := Lib.hid hE; clear hE
    by_cases hlt : k < n
    · obtain ⟨b, o, x, cs, rfl, hbw, hx, _, hc, rfl, _⟩ := (h.ext (Flat.mono _ _) hb).at_ hlt
      have c0 := hc 0 _ rfl
      have c1 := hc 1 _ rfl
      have c2 := hc 2 _ rfl
      have c3 := hc 3 _ rfl
      have c4 := hc 4 _ rfl
      have c5 := hc 5 _ rfl
      have c6 := hc 6 _ rfl
      simp only [Nat.add_zero] at c0
      have HX := Lib.hid hx
      clear hc hx h
      rcases Bool.eq_false_or_eq_true (billB x) with h1 | h1
      · go_wp2_with (first | (go_at_call 69; (with_reducible refine (sBillOk_c x _).mono ?_); rintro e w1 ⟨rfl, hb1⟩; obtain ⟨hcr1, hfr1, hz1⟩ := hb1.rules; (try simp at hz1); (try have hy1a := Nat.lt_of_succ_le hz1); (try have hy1b := Nat.lt_of_succ_lt hy1a); (try have hy1c := Nat.lt_of_succ_lt hy1b); (try have hy1d := Nat.lt_of_succ_lt hy1c)))
        go_roundw
        case rel => exact ⟨k + 1, by omega, by go_num, (hb.alloc _).trans hb1, by rw [HE.out, drop_cons HX.out, List.all_cons, h1]; rfl⟩
        case measure => simp [intOf]; omega
      · go_wp2_with (first | (go_at_call 69; (with_reducible refine (sBillOk_c x _).mono ?_); rintro e w1 ⟨rfl, hb1⟩; obtain ⟨hcr1, hfr1, hz1⟩ := hb1.rules; (try simp at hz1); (try have hy1a := Nat.lt_of_succ_le hz1); (try have hy1b := Nat.lt_of_succ_lt hy1a); (try have hy1c := Nat.lt_of_succ_lt hy1b); (try have hy1d := Nat.lt_of_succ_lt hy1c)))
        exact ret_bool rfl rfl rfl (by rw [HE.out, drop_cons HX.out, List.all_cons, h1]; rfl) ((hb.alloc _).trans hb1)
    · go_wp2
      refine ret_bool rfl rfl rfl ?_ hb
      rw [HE.out, List.drop_eq_nil_of_le (by have := HN.out; omega), HN.out, List.all_nil, Bool.true_and]
      (first | (symm; rw [decide_eq_true_iff]; omega) | (symm; rw [decide_eq_false_iff_not]; omega) | (rw [decide_eq_decide]; omega) | ((try simp only [beq_iff_eq, beq_eq_false_iff_ne, bne_iff_ne, bne_eq_false_iff_eq, ne_eq] at *); rw [Bool.eq_iff_iff]; simp; omega))
end Go.Proofs.Ytfogmplpaopciab
