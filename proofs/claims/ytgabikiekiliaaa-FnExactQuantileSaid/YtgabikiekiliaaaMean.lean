/- Contracts over lists of times. -/
import Derived.Test.YtgabikiekiliaaaSmall
namespace Go.Proofs.Ytgabikiekiliaaa
open Go.RowKit
def timesB (l : List Int) : Bool := l.all timeB && decide (l.length ≤ 1000)
theorem timesB_sum {l : List Int} (h : l.all timeB = true) : 0 ≤ l.sum ∧ l.sum ≤ l.length * 1000000000 := by
  induction l with
  | nil => simp
  | cons x l ih =>
    rw [List.all_cons, Bool.and_eq_true] at h
    have h1 := h.1
    unfold timeB at h1
    rw [decide_eq_true_iff] at h1
    have := ih h.2
    simp only [List.sum_cons, List.length_cons]
    omega
theorem all_take {l : List Int} {p : Int → Bool} (h : l.all p = true) (k : Nat) : (l.take k).all p = true := by
  rw [List.all_eq_true] at *
  exact fun x hx => h x (List.mem_of_mem_take hx)
theorem sum_take {l : List Int} {k : Nat} {x : Int} (h : l[k]? = some x) : (l.take (k + 1)).sum = (l.take k).sum + x := by
  rw [take_succ h]; simp
def meanI (l : List Int) : Int := if timesB l = true ∧ l ≠ [] then l.sum / l.length else 0
set_option maxHeartbeats 1000000 in
theorem areTimes_c (xs : List Int) (A : Option Addr) (n c : Nat) (w : World) (h : SlAt RInt 1 w A n xs) (hl : n ≤ maxLen) : Calls Try.prog 54 #[.slice A n c] w (Same w (.bool (timesB xs))) := by
  unfold maxLen at hl
  have HN := Lib.hid h.len
  go_enter Try.func54, Try.ntmps54
  go_wp2
  go_loop [7] (fun i => ∃ k : Nat, k ≤ n ∧ i = .int .i64 k ∧ timesB xs = ((xs.drop k).all timeB && decide (xs.length ≤ 1000))) (fun i => n - (intOf i).toNat)
  case atStart => exact ⟨0, Nat.zero_le _, rfl, rfl⟩
  case round =>
    obtain ⟨k, hk, rfl, hE⟩ := hrel
    have HE := Lib.hid hE; clear hE
    by_cases hlt : k < n
    · obtain ⟨b, o, x, cs, rfl, hbw, hx, _, hc, rfl, _⟩ := h.at_ hlt
      have c0 := hc 0 _ rfl
      simp only [Nat.mul_one, Nat.add_zero] at c0
      have HX := Lib.hid hx
      clear hc hx h
      rcases Bool.eq_false_or_eq_true (timeB x) with h1 | h1
      · go_wp2_with (first | (go_at_call 62; (with_reducible refine (isTime_c x _).mono ?_); rintro e w1 ⟨rfl, rfl⟩))
        go_round
        case rel => exact ⟨k + 1, by omega, by go_num, by rw [HE.out, drop_cons HX.out, List.all_cons, h1]; rfl⟩
        case measure => simp [intOf]; omega
      · go_wp2_with (first | (go_at_call 62; (with_reducible refine (isTime_c x _).mono ?_); rintro e w1 ⟨rfl, rfl⟩))
        exact same_bool rfl rfl rfl (by rw [HE.out, drop_cons HX.out, List.all_cons, h1]; rfl)
    · go_wp2
      refine same_bool rfl rfl rfl ?_
      rw [HE.out, List.drop_eq_nil_of_le (by have := HN.out; omega), HN.out, List.all_nil, Bool.true_and]
      (first | (symm; rw [decide_eq_true_iff]; omega) | (symm; rw [decide_eq_false_iff_not]; omega) | (rw [decide_eq_decide]; omega) | ((try simp only [beq_iff_eq, beq_eq_false_iff_ne, bne_iff_ne, bne_eq_false_iff_eq, ne_eq] at *); rw [Bool.eq_iff_iff]; simp; omega))
set_option maxHeartbeats 1000000 in
theorem l16List_c (xs : List Int) (A : Option Addr) (n c : Nat) (w : World) (h : SlAt RInt 1 w A n xs) (hl : n ≤ maxLen) : Calls Try.prog 53 #[.slice A n c] w (Same w (.bool (timesB xs))) := by
  unfold maxLen at hl
  have HN := Lib.hid h.len
  go_enter Try.func53, Try.ntmps53
  go_wp2
  go_loop [7] (fun i => ∃ k : Nat, k ≤ n ∧ i = .int .i64 k ∧ timesB xs = ((xs.drop k).all timeB && decide (xs.length ≤ 1000))) (fun i => n - (intOf i).toNat)
  case atStart => exact ⟨0, Nat.zero_le _, rfl, rfl⟩
  case round =>
    obtain ⟨k, hk, rfl, hE⟩ := hrel
    have HE := Lib.hid hE; clear hE
    by_cases hlt : k < n
    · obtain ⟨b, o, x, cs, rfl, hbw, hx, _, hc, rfl, _⟩ := h.at_ hlt
      have c0 := hc 0 _ rfl
      simp only [Nat.mul_one, Nat.add_zero] at c0
      have HX := Lib.hid hx
      clear hc hx h
      rcases Bool.eq_false_or_eq_true (timeB x) with h1 | h1
      · go_wp2_with (first | (go_at_call 70; (with_reducible refine (sTime_c x _).mono ?_); rintro e w1 ⟨rfl, rfl⟩))
        go_round
        case rel => exact ⟨k + 1, by omega, by go_num, by rw [HE.out, drop_cons HX.out, List.all_cons, h1]; rfl⟩
        case measure => simp [intOf]; omega
      · go_wp2_with (first | (go_at_call 70; (with_reducible refine (sTime_c x _).mono ?_); rintro e w1 ⟨rfl, rfl⟩))
        exact same_bool rfl rfl rfl (by rw [HE.out, drop_cons HX.out, List.all_cons, h1]; rfl)
    · go_wp2
      refine same_bool rfl rfl rfl ?_
      rw [HE.out, List.drop_eq_nil_of_le (by have := HN.out; omega), HN.out, List.all_nil, Bool.true_and]
      (first | (symm; rw [decide_eq_true_iff]; omega) | (symm; rw [decide_eq_false_iff_not]; omega) | (rw [decide_eq_decide]; omega) | ((try simp only [beq_iff_eq, beq_eq_false_iff_ne, bne_iff_ne, bne_eq_false_iff_eq, ne_eq] at *); rw [Bool.eq_iff_iff]; simp; omega))
end Go.Proofs.Ytgabikiekiliaaa
