/- Contracts over lists of times. -/
import Derived.Test.YtdnbjmfngmahkaaSmall
namespace Go.Proofs.Ytdnbjmfngmahkaa
open Go.RowKit
def timesB (l : List Int) : Bool := l.all timeB && decide (l.length ≤ 1000)
theorem timesB_sum {l : List Int} (h : l.all timeB = true) : 0 ≤ l.sum ∧ l.sum ≤ l.length * 1000000000 := by
  induction l with
  | nil => simp
  | cons x l ih =>
    rw [List.all_cons, Bool.and_eq_true] at h
    have h1 := h.1
    unfold timeB at h1
    rw [decide_eq_true_iff] at h1
    have := ih h.2
    simp only [List.sum_cons, List.length_cons]
    omega
theorem all_take {l : List Int} {p : Int → Bool} (h : l.all p = true) (k : Nat) : (l.take k).all p = true := by
  rw [List.all_eq_true] at *
  exact fun x hx => h x (List.mem_of_mem_take hx)
theorem sum_take {l : List Int} {k : Nat} {x : Int} (h : l[k]? = some x) : (l.take (k + 1)).sum = (l.take k).sum + x := by
  rw [take_succ h]; simp
def meanI (l : List Int) : Int := if timesB l = true ∧ l ≠ [] then l.sum / l.length else 0
set_option maxHeartbeats 1000000 in
theorem areTimes_c (xs : List Int) (A : Option Addr) (n c : Nat) (w : World) (h : SlAt RInt 1 w A n xs) (hl : n ≤ maxLen) : Calls Try.prog 13 #[.slice A n c] w (Same w (.bool (timesB xs))) := by
  unfold maxLen at hl
  have HN := Lib.hid h.len
  go_enter Try.func13, Try.ntmps13
  go_wp2
  go_loop [7] (fun i => ∃ k : Nat, k ≤ n ∧ i = .int .i64 k ∧ timesB xs = ((xs.drop k).all timeB && decide (xs.length ≤ 1000))) (fun i => n - (intOf i).toNat)
  case atStart => exact ⟨0, Nat.zero_le _, rfl, rfl⟩
  case round =>
    obtain ⟨k, hk, rfl, hE⟩ := hrel
    have HE := Lib.hid hE; clear hE
    by_cases hlt : k < n
    · obtain ⟨b, o, x, cs, rfl, hbw, hx, _, hc, rfl, _⟩ := h.at_ hlt
      have c0 := hc 0 _ rfl
      simp only [Nat.mul_one, Nat.add_zero] at c0
      have HX := Lib.hid hx
      clear hc hx h
      rcases Bool.eq_false_or_eq_true (timeB x) with h1 | h1
      · go_wp2_with (first | (go_at_call 19; (with_reducible refine (isTime_c x _).mono ?_); rintro e w1 ⟨rfl, rfl⟩))
        go_round
        case rel => exact ⟨k + 1, by omega, by go_num, by rw [HE.out, drop_cons HX.out, List.all_cons, h1]; rfl⟩
        case measure => simp [intOf]; omega
      · go_wp2_with (first | (go_at_call 19; (with_reducible refine (isTime_c x _).mono ?_); rintro e w1 ⟨rfl, rfl⟩))
        exact same_bool rfl rfl rfl (by rw [HE.out, drop_cons HX.out, List.all_cons, h1]; rfl)
    · go_wp2
      refine same_bool rfl rfl rfl ?_
      rw [HE.out, List.drop_eq_nil_of_le (by have := HN.out; omega), HN.out, List.all_nil, Bool.true_and]
      (first | (symm; rw [decide_eq_true_iff]; omega) | (symm; rw [decide_eq_false_iff_not]; omega) | (rw [decide_eq_decide]; omega) | ((try simp only [beq_iff_eq, beq_eq_false_iff_ne, bne_iff_ne, bne_eq_false_iff_eq, ne_eq] at *); rw [Bool.eq_iff_iff]; simp; omega))
set_option maxHeartbeats 1000000 in
theorem l16List_c (xs : List Int) (A : Option Addr) (n c : Nat) (w : World) (h : SlAt RInt 1 w A n xs) (hl : n ≤ maxLen) : Calls Try.prog 17 #[.slice A n c] w (Same w (.bool (timesB xs))) := by
  unfold maxLen at hl
  have HN := Lib.hid h.len
  go_enter Try.func17, Try.ntmps17
  go_wp2
  go_loop [7] (fun i => ∃ k : Nat, k ≤ n ∧ i = .int .i64 k ∧ timesB xs = ((xs.drop k).all timeB && decide (xs.length ≤ 1000))) (fun i => n - (intOf i).toNat)
  case atStart => exact ⟨0, Nat.zero_le _, rfl, rfl⟩
  case round =>
    obtain ⟨k, hk, rfl, hE⟩ := hrel
    have HE := Lib.hid hE; clear hE
    by_cases hlt : k < n
    · obtain ⟨b, o, x, cs, rfl, hbw, hx, _, hc, rfl, _⟩ := h.at_ hlt
      have c0 := hc 0 _ rfl
      simp only [Nat.mul_one, Nat.add_zero] at c0
      have HX := Lib.hid hx
      clear hc hx h
      rcases Bool.eq_false_or_eq_true (timeB x) with h1 | h1
      · go_wp2_with (first | (go_at_call 22; (with_reducible refine (sTime_c x _).mono ?_); rintro e w1 ⟨rfl, rfl⟩))
        go_round
        case rel => exact ⟨k + 1, by omega, by go_num, by rw [HE.out, drop_cons HX.out, List.all_cons, h1]; rfl⟩
        case measure => simp [intOf]; omega
      · go_wp2_with (first | (go_at_call 22; (with_reducible refine (sTime_c x _).mono ?_); rintro e w1 ⟨rfl, rfl⟩))
        exact same_bool rfl rfl rfl (by rw [HE.out, drop_cons HX.out, List.all_cons, h1]; rfl)
    · go_wp2
      refine same_bool rfl rfl rfl ?_
      rw [HE.out, List.drop_eq_nil_of_le (by have := HN.out; omega), HN.out, List.all_nil, Bool.true_and]
      (first | (symm; rw [decide_eq_true_iff]; omega) | (symm; rw [decide_eq_false_iff_not]; omega) | (rw [decide_eq_decide]; omega) | ((try simp only [beq_iff_eq, beq_eq_false_iff_ne, bne_iff_ne, bne_eq_false_iff_eq, ne_eq] at *); rw [Bool.eq_iff_iff]; simp; omega))
set_option maxHeartbeats 1000000 in
theorem Mean_c (xs : List Int) (A : Option Addr) (n c : Nat) (w : World) (h : SlAt RInt 1 w A n xs) (hl : n ≤ maxLen) : Calls Try.prog 7 #[.slice A n c] w (Same w (.int .i64 (meanI xs))) := by
  have hl' := hl
  unfold maxLen at hl
  have HN := Lib.hid h.len
  go_enter Try.func7, Try.ntmps7
  rcases Bool.eq_false_or_eq_true (timesB xs) with hB | hB
  · have hB2 := hB
    unfold timesB at hB2
    rw [Bool.and_eq_true, decide_eq_true_iff, HN.out] at hB2
    obtain ⟨hall, hn⟩ := hB2
    have HA := Lib.hid hall
    clear hall
    by_cases h0 : n = 0
    · have hz : ((n : Int) == 0) = true := by simp [h0]
      have H0 := Lib.hid h0
      clear h0
      go_wp2_with (first | (go_at_call 13; (with_reducible refine (areTimes_c xs _ _ _ _ h hl').mono ?_); rintro e w1 ⟨rfl, rfl⟩))
      exact same_int rfl rfl rfl (by rw [meanI, if_neg]; intro hh; exact hh.2 (List.eq_nil_of_length_eq_zero (HN.out.trans H0.out)))
    · have hz : ((n : Int) == 0) = false := by simp [h0]
      go_wp2_with (first | (go_at_call 13; (with_reducible refine (areTimes_c xs _ _ _ _ h hl').mono ?_); rintro e w1 ⟨rfl, rfl⟩))
      go_loop [3, 16] (fun s i => ∃ k : Nat, k ≤ n ∧ i = .int .i64 k ∧ s = .int .i64 (xs.take k).sum) (fun _ i => n - (intOf i).toNat)
      case atStart => exact ⟨0, Nat.zero_le _, rfl, rfl⟩
      case round =>
        obtain ⟨k, hk, rfl, rfl⟩ := hrel
        obtain ⟨s1, s2⟩ := timesB_sum (all_take HA.out k)
        have s3 : (xs.take k).length ≤ 1000 := by rw [List.length_take]; omega
        by_cases hlt : k < n
        · obtain ⟨b, o, x, cs, rfl, hbw, hx, _, hc, rfl, _⟩ := h.at_ hlt
          have c0 := hc 0 _ rfl
          simp only [Nat.mul_one, Nat.add_zero] at c0
          have hxt := List.all_eq_true.1 HA.out x (List.mem_of_getElem? hx)
          unfold timeB at hxt
          rw [decide_eq_true_iff] at hxt
          obtain ⟨x1, x2⟩ := hxt
          have HX := Lib.hid hx
          clear hc hx h
          go_wp2
          go_round
          case rel => exact ⟨k + 1, by omega, by go_num, by rw [sum_take HX.out]⟩
          case measure => simp [intOf]; omega
        · have hkn := Lib.hid (show xs.take k = xs from List.take_of_length_le (by have := HN.out; omega))
          rw [hkn.out] at s1 s2 s3 ⊢
          go_wp2
          refine same_int rfl rfl rfl ?_
          rw [meanI, if_pos ⟨hB, fun e => by have := HN.out; rw [e] at this; simp at this; omega⟩, HN.out]
  · go_wp2_with (first | (go_at_call 13; (with_reducible refine (areTimes_c xs _ _ _ _ h hl').mono ?_); rintro e w1 ⟨rfl, rfl⟩))
    exact same_int rfl rfl rfl (by rw [meanI, if_neg]; intro hh; rw [hB] at hh; exact absurd hh.1 (by simp))
end Go.Proofs.Ytdnbjmfngmahkaa
