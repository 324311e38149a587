/- Contracts: a number out of a text. -/
import Derived.Test.YtlaoflpgngfbpaaPartsL
namespace Go.Proofs.Ytlaoflpgngfbpaa
open Go.RowKit
set_option linter.unusedVariables false
theorem drop_byte' {s : ByteArray} {k : Nat} (h : k < s.size) : (toL s).drop k = s[k] :: (toL s).drop (k + 1) := by
  unfold toL
  rw [List.drop_eq_getElem_cons (by simpa using h)]; rfl
theorem digGo_bad {c : UInt8} {r : List UInt8} {n : Int} (h : digB c = false) : digGo (c :: r) n = none := by rw [digGo, h]; rfl
theorem digGo_ok {c : UInt8} {r : List UInt8} {n : Int} (h : digB c = true) : digGo (c :: r) n = digGo r (10 * n + ((c.toNat : Int) - 48)) := by rw [digGo, if_pos h]
theorem pow_ten (k : Nat) (h : k ≤ 10) : (10 : Int) ^ k ≤ 10000000000 := by
  have h3 : (10 : Nat) ^ k ≤ 10 ^ 10 := Nat.pow_le_pow_right (by decide) h
  have h4 : (10 : Int) ^ 10 = 10000000000 := by decide
  rw [← h4]; exact_mod_cast h3
theorem str_beq_true {a b : ByteArray} (h : a = b) : (a.toList == b.toList) = true := by subst h; simp
theorem str_beq_false {a b : ByteArray} (h : ¬ a = b) : (a.toList == b.toList) = false := by
  rw [beq_eq_false_iff_ne]; exact fun e => h (bytes_inj.1 e)
theorem NumText_z (n : Int) (w : World) (h0 : 0 ≤ n) (h1 : n ≤ 9999999999) : Calls Try.prog 14 #[.int .i64 n] w (Ret w (.string (numZ n))) := by
  by_cases ht : n ≤ 1000000000
  · have e : numZ n = numText n.toNat := by unfold numZ timeB; rw [if_pos (by rw [decide_eq_true_iff]; omega)]
    rw [e]; exact NumText_i n w h0 ht
  · have HF := Lib.hid (show timeB n = false by unfold timeB; rw [decide_eq_false_iff_not]; omega)
    have HT := Lib.hid (isTime_c n w)
    rw [HF.out] at HT
    have e : numZ n = ByteArray.empty := by unfold numZ; rw [HF.out]; rfl
    rw [e]
    go_enter Try.func14, Try.ntmps14
    go_wp2_with fail
    refine (HT.out).mono ?_
    rintro e w1 ⟨rfl, rfl⟩
    go_wp2
    exact ret_val rfl rfl rfl (Ext.refl _)
set_option maxHeartbeats 4000000 in
set_option maxRecDepth 4000 in
theorem TextNum_c (s : ByteArray) (w : World) (hs : s.size ≤ maxLen) : Calls Try.prog 18 #[.string s] w (Ret w (.tuple #[.int .i64 (textN s).1, .bool (textN s).2])) := by
  unfold maxLen at hs
  by_cases hz : 1 ≤ s.size ∧ s.size ≤ 10
  · have hz1 := hz.1
    have hz2 := hz.2
    have HZ := Lib.hid hz
    clear hz
    go_enter Try.func18, Try.ntmps18
    go_wp2_with (go_at_call 25; (with_reducible refine (within_c _ _ _ _).mono ?_); rintro e w1 ⟨rfl, rfl⟩; rw [show withinB (s.size : Int) 1 10 = true by unfold withinB; rw [decide_eq_true_iff]; omega])
    go_loopw [4, 5] (fun nv iv wr => ∃ (k : Nat) (n : Int), k ≤ s.size ∧ iv = .int .i64 k ∧ nv = .int .i64 n ∧ 0 ≤ n ∧ Hid (n < 10 ^ k) ∧ n ≤ 9999999999 ∧ Hid (digGo (toL s) 0 = digGo ((toL s).drop k) n) ∧ Ext w wr) (fun _ iv _ => s.size - (intOf iv).toNat)
    case atStart => exact ⟨0, 0, Nat.zero_le _, rfl, rfl, Int.le_refl _, Lib.hid (by decide), by omega, Lib.hid rfl, by first | exact Ext.refl _ | assumption⟩
    case round =>
      obtain ⟨k, n, hk, rfl, rfl, hn0, HP, hn1, HE, hb⟩ := hrel
      by_cases hlt : k < s.size
      · have HD := Lib.hid (drop_byte' hlt)
        have HNX := Lib.hid (fun (h : 48 ≤ (s[k].toNat : Int) ∧ (s[k].toNat : Int) ≤ 57) => show 10 * n + ((s[k].toNat : Int) - 48) < 10 ^ (k + 1) by have := HP.out; rw [Int.pow_succ]; omega)
        have HPT := Lib.hid (pow_ten (k + 1) (by omega))
        have hcl : s[k].toNat < 256 := s[k].toNat_lt
        have hp := HP.out
        have hpt := pow_ten k (by omega)
        have hk10 : n ≤ 999999999 := by
          have h9 : k ≤ 9 := by omega
          have h3 : (10 : Nat) ^ k ≤ 10 ^ 9 := Nat.pow_le_pow_right (by decide) h9
          have h4 : (10 : Int) ^ 9 = 1000000000 := by decide
          have h5 : (10 : Int) ^ k ≤ 1000000000 := by rw [← h4]; exact_mod_cast h3
          omega
        clear hp hpt
        by_cases h1 : 48 ≤ (s[k].toNat : Int)
        · by_cases h2 : (s[k].toNat : Int) ≤ 57
          · have HG := Lib.hid (show digGo (toL s) 0 = digGo ((toL s).drop (k + 1)) (10 * n + ((s[k].toNat : Int) - 48)) by rw [HE.out, HD.out, digGo_ok (by unfold digB; rw [decide_eq_true_iff]; omega)])
            have q1 : IntKind.u8.wrap ((s[k].toNat : Int) - 48) = (s[k].toNat : Int) - 48 := IntWalk.u8_in _ ⟨by omega, by omega⟩
            have q2 : IntKind.i64.wrap ((s[k].toNat : Int) - 48) = (s[k].toNat : Int) - 48 := IntWalk.i64_in _ ⟨by omega, by omega⟩
            go_wp2
            go_roundw
            case rel =>
              refine ⟨k + 1, 10 * n + ((s[k].toNat : Int) - 48), by omega, by go_num, by first | rfl | go_num, by omega, Lib.hid (HNX.out ⟨h1, h2⟩), by omega, HG, hb⟩
            case measure => simp [intOf]; omega
          · have HT := Lib.hid (show textN s = (0, false) from textN_none (by rw [HE.out, HD.out, digGo_bad (by unfold digB; rw [decide_eq_false_iff_not]; omega)]))
            go_wp2
            rw [HT.out]
            exact ret_is (by simp [results, Try.results18, go_sem]) rfl hb
        · have HT := Lib.hid (show textN s = (0, false) from textN_none (by rw [HE.out, HD.out, digGo_bad (by unfold digB; rw [decide_eq_false_iff_not]; omega)]))
          go_wp2
          rw [HT.out]
          exact ret_is (by simp [results, Try.results18, go_sem]) rfl hb
      · have HG := Lib.hid (show digGo (toL s) 0 = some n by rw [HE.out, List.drop_eq_nil_of_le (by rw [toL_len]; omega)]; rfl)
        have HT := Lib.hid (textN_some HZ.out HG.out)
        have HC := Lib.hid (NumText_z n wr hn0 hn1)
        generalize numZ n = t at *
        by_cases he : t = s
        · have HV := Lib.hid (show textN s = (n, true) by rw [HT.out, if_pos he])
          have hq := str_beq_true he
          have hq2 : (t.toList != s.toList) = false := by rw [bne, hq]; rfl
          clear he
          go_wp2_with fail
          refine HC.out.mono ?_
          rintro e w2 ⟨rfl, hb2⟩
          go_wp2
          rw [HV.out]
          exact ret_is (by simp [results, Try.results18, go_sem]) rfl (hb.trans hb2)
        · have HV := Lib.hid (show textN s = (0, false) by rw [HT.out, if_neg he])
          have hq := str_beq_false he
          have hq2 : (t.toList != s.toList) = true := by rw [bne, hq]; rfl
          clear he
          go_wp2_with fail
          refine HC.out.mono ?_
          rintro e w2 ⟨rfl, hb2⟩
          go_wp2
          rw [HV.out]
          exact ret_is (by simp [results, Try.results18, go_sem]) rfl (hb.trans hb2)
  · have HT := Lib.hid (show textN s = (0, false) from textN_bad hz)
    have hz' : s.size < 1 ∨ 10 < s.size := by omega
    clear hz
    go_enter Try.func18, Try.ntmps18
    go_wp2_with (go_at_call 25; (with_reducible refine (within_c _ _ _ _).mono ?_); rintro e w1 ⟨rfl, rfl⟩; rw [show withinB (s.size : Int) 1 10 = false by unfold withinB; rw [decide_eq_false_iff_not]; omega]); rw [HT.out]; exact ret_is (by simp [results, Try.results18, go_sem]) rfl (Ext.refl _)
end Go.Proofs.Ytlaoflpgngfbpaa
