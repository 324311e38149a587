/- Contracts of the draws: numbers below a bound; numbers of any kind. -/
import Derived.Test.YtlaoflpgngfbpaaDraw
namespace Go.Proofs.Ytlaoflpgngfbpaa
open Go.RowKit
set_option linter.unusedVariables false
theorem tmod_below {v n : Int} (h0 : 0 ≤ v) (hn : 0 < n) : 0 ≤ v.tmod n ∧ v.tmod n < n := by
  rw [Int.tmod_eq_emod_of_nonneg h0]
  exact ⟨Int.emod_nonneg _ (by omega), Int.emod_lt_of_pos _ hn⟩
theorem mod_below {v n : Int} (hn : 0 < n) : 0 ≤ v % n ∧ v % n < n := ⟨Int.emod_nonneg _ (by omega), Int.emod_lt_of_pos _ hn⟩
set_option maxHeartbeats 2000000 in
theorem l01Below_c (g : Nat) (n : Int) (w : World) (hc : Cur w g) (hn : In64 n) : Calls Try.prog 23 #[.pointer (some ⟨g, 0, none⟩), .int .i64 n] w (RetDraw w g (fun v => 0 ≤ v ∧ (v < n ∨ v = 0))) := by
  unfold In64 at hn
  by_cases h0 : n ≤ 0
  · have HC := Lib.hid hc
    go_enter Try.func23, Try.ntmps23
    go_wp2
    exact bodyPost_ret (results_tmp rfl _ _ _) rfl ⟨0, rfl, ⟨Int.le_refl _, .inr rfl⟩, Turned.refl _ _ _, HC.out⟩
  by_cases h1 : n ≤ 256
  · have HB := Lib.hid (l01Byte_c g w hc)
    go_enter Try.func23, Try.ntmps23
    go_wp2_with fail
    refine HB.out.mono ?_
    rintro e w1 ⟨v, rfl, hv, ht, hc1⟩
    have HT := Lib.hid ht
    have HC := Lib.hid hc1
    have HM := Lib.hid (mod_below (v := v) (n := n) (by omega))
    clear ht hc1 hc
    go_wp2
    exact bodyPost_ret (results_tmp rfl _ _ _) rfl ⟨v % n, rfl, ⟨HM.out.1, .inl HM.out.2⟩, HT.out, HC.out⟩
  · have HB := Lib.hid (fun u hu => l01Byte_c g u hu)
    have HC0 := Lib.hid hc
    clear hc
    go_enter Try.func23, Try.ntmps23
    go_wp2_with fail
    refine (HB.out _ HC0.out).mono ?_
    rintro e w1 ⟨v1, rfl, hv1, ht1, hc1⟩
    have HC1 := Lib.hid hc1
    go_wp2_with fail
    refine (HB.out _ HC1.out).mono ?_
    rintro e w2 ⟨v2, rfl, hv2, ht2, hc2⟩
    have HC2 := Lib.hid hc2
    go_wp2_with fail
    refine (HB.out _ HC2.out).mono ?_
    rintro e w3 ⟨v3, rfl, hv3, ht3, hc3⟩
    have HC3 := Lib.hid hc3
    go_wp2_with fail
    refine (HB.out _ HC3.out).mono ?_
    rintro e w4 ⟨v4, rfl, hv4, ht4, hc4⟩
    have HC4 := Lib.hid hc4
    have HT := Lib.hid (((ht1.trans ht2).trans ht3).trans ht4)
    have HM := Lib.hid (fun x : Int => mod_below (v := x) (n := n) (by omega))
    clear ht1 ht2 ht3 ht4 hc1 hc2 hc3 hc4
    go_wp2
    exact bodyPost_ret (results_tmp rfl _ _ _) rfl ⟨_, rfl, ⟨(HM.out _).1, .inl (HM.out _).2⟩, HT.out, HC4.out⟩
end Go.Proofs.Ytlaoflpgngfbpaa
