/- The law FnCharge returns true: the walk. -/
import Derived.Test.YtbfambeoboiifaaDrawAcct2
import Derived.Test.YtbfambeoboiifaaRankLaw
import Derived.Laws.StructEq
namespace Go.Proofs.Ytbfambeoboiifaa
open Go.RowKit
set_option linter.unusedVariables false
theorem run_acct_ne (w : World) (s : ByteArray) (x y : Int) : (binOp .neq 30 (.agg #[.string s, .int .i64 x, .int .i64 y]) (.agg #[.string s, .int .i64 x, .int .i64 y])).run Try.prog w = .ok (.bool false) w := by
  simp [go_sem, Try.underlying30, Try.underlying3, Try.underlying9]
theorem acct_guard : Try.prog.eqGuardType Try.prog.depth 30 = false := by kernel_rfl
theorem run_acct_guard (w : World) (op : BinOp) (x y : Operand) (xs ys : Array Value) : (eqGuard op 30 x y (.agg xs) (.agg ys)).run Try.prog w = .ok () w := run_eqGuard_agg w op _ x y xs ys acct_guard
attribute [local go_sem ↓] run_acct_ne run_acct_guard
theorem half_used (a : Account) : (half a).Used = a.Used / 2 := rfl
set_option maxHeartbeats 4000000 in
set_option maxRecDepth 20000 in
theorem FnCharge_c (w : World) (A0 : Option Addr) (n0 c0 : Nat) (x0 : List Int) (h0 : SlAt RU8 1 w A0 n0 x0) (hn0 : n0 ≤ maxLen) : Calls Try.prog 3 #[.slice A0 n0 c0] w (Ret w (.bool true)) := by
  unfold maxLen at hn0
  by_cases hbig : 1048576 < n0
  · clear h0
    go_enter Try.func3, Try.ntmps3
    go_wp2
    exact ret_bool rfl rfl rfl rfl (Ext.refl _)
  have HD := Lib.hid (DrawCharge_c x0 A0 n0 c0 w h0 (by omega))
  clear h0
  go_enter Try.func3, Try.ntmps3
  go_wp2_with fail
  refine HD.out.mono ?_
  rintro e w1 ⟨A, c, xs, name, q, rfl, hs, hl, hsz, hq, hb1⟩
  have hlm : xs.length ≤ maxLen := by unfold maxLen; omega
  have hM := Flat.mono Account.enc Account.ok
  have HS := Lib.hid hs
  have HB1 := Lib.hid hb1
  clear hs hb1
  rcases (Bool.eq_false_or_eq_true (chargeB xs name q)).symm with hB | hB
  · go_wp2_with fail
    refine (Charge_c xs name q A xs.length c _ HS.out hlm).mono ?_
    rintro e w2 ⟨A2, c2, rfl, ho2, hb2⟩
    have HE2 := Lib.hid hb2
    have hz : (chargeL xs name q).length = 0 := by rw [chargeL, if_neg (by rw [hB]; simp)]; rfl
    clear ho2 hb2
    rw [hB, hz]
    go_wp2_with fail
    refine (sCharge_c xs name q A xs.length c _ (HS.out.ext hM HE2.out) hlm).mono ?_
    rintro e w3 ⟨A3, c3, rfl, ho3, hb3⟩
    have HE3 := Lib.hid (HB1.out.trans (HE2.out.trans hb3))
    clear ho3 hb3
    rw [hB, hz]
    clear hB hz
    go_wp2
    exact ret_bool rfl rfl rfl rfl HE3.out
  go_wp2_with fail
  refine (Charge_c xs name q A xs.length c _ HS.out hlm).mono ?_
  rintro e w2 ⟨A2, c2, rfl, ho2, hb2⟩
  have HE2 := Lib.hid hb2
  have HO2 := Lib.hid ho2
  clear ho2 hb2
  rw [hB]
  go_wp2_with fail
  refine (sCharge_c xs name q A xs.length c _ (HS.out.ext hM HE2.out) hlm).mono ?_
  rintro e w3 ⟨A3, c3, rfl, ho3, hb3⟩
  have HE3 := Lib.hid (HE2.out.trans hb3)
  have HO3 := Lib.hid (HO2.out.ext hM hb3)
  clear ho3 hb3
  rw [hB]
  have HCB := Lib.hid hB
  have HCO := Lib.hid (charge_ok hB)
  have HML := Lib.hid (show (chargeL xs name q).length = xs.length by rw [chargeL, if_pos hB, List.length_modify])
  clear hB
  generalize hms : chargeL xs name q = ms at HO3 HCO HML
  have HMS := Lib.hid hms
  clear hms
  have hmlm : ms.length ≤ maxLen := by rw [HML.out]; exact hlm
  go_wp2_with fail
  refine (Fade_c ms A2 ms.length c2 _ HO3.out.slAt hmlm).mono ?_
  rintro e w4 ⟨A4, c4, rfl, ho4, hb4⟩
  have HE4 := Lib.hid (HE3.out.trans hb4)
  have HO4 := Lib.hid (HO3.out.ext hM hb4)
  have HF4 := Lib.hid ho4
  have HFL := Lib.hid (show (fadeL ms).length = xs.length by rw [fadeL, if_pos HCO.out, List.length_map]; exact HML.out)
  clear ho4 hb4 HO3 HO2
  have HAC := Lib.hid (fun (u : World) (e : Ext w4 u) => AccountsOk_c ms A2 ms.length c2 u (HO4.out.slAt.ext hM e) hmlm)
  rw [HCO.out] at HAC
  rw [HFL.out]
  go_wp2
  go_loopw [47] (fun iv wr => ∃ k : Nat, k ≤ xs.length ∧ iv = .int .i64 k ∧ Hid (Ext w4 wr)) (fun iv _ => xs.length - (intOf iv).toNat)
  case atStart => exact ⟨0, Nat.zero_le _, rfl, Lib.hid (Ext.refl _)⟩
  case round =>
    obtain ⟨k, hk, rfl, HE⟩ := hrel
    by_cases hlt : k < xs.length
    · obtain ⟨b, o, a, cs, rfl, hbw, ha, _, hc, rfl, hok⟩ := (HS.out.ext hM (HE4.out.trans HE.out)).at_ hlt
      obtain ⟨b2, o2, m, cs2, rfl, hbw2, hm, _, hc2, rfl, hok2⟩ := (HO4.out.slAt.ext hM HE.out).at_ (by rw [HML.out]; exact hlt)
      obtain ⟨b3, o3, f, cs3, rfl, hbw3, hf, _, hc3, rfl, hok3⟩ := (HF4.out.slAt.ext hM HE.out).at_ (by rw [HFL.out]; exact hlt)
      have a0 := hc 0 _ rfl
      have a1 := hc 1 _ rfl
      have a2 := hc 2 _ rfl
      simp only [Nat.add_zero] at a0
      have m0 := hc2 0 _ rfl
      have m1 := hc2 1 _ rfl
      have m2 := hc2 2 _ rfl
      simp only [Nat.add_zero] at m0
      have f0 := hc3 0 _ rfl
      have f1 := hc3 1 _ rfl
      have f2 := hc3 2 _ rfl
      simp only [Nat.add_zero] at f0
      have hfu : f.Used = m.Used / 2 := by have := fade_get HCO.out hm; rw [hf] at this; injection this with this; rw [this]; exact half_used m
      have hmu := acctsB_ok HCO.out m (List.mem_of_getElem? hm)
      have hm0 := hmu.2.2.1
      have hm1 := hmu.2.2.2
      rw [hfu] at f2
      have hlt2 : k < ms.length := by rw [HML.out]; exact hlt
      have hrow := charge_row HCB.out ha (by rw [HMS.out]; exact hm)
      clear hc hc2 hc3 ha hm hf hok hok2 hok3 hmu hfu
      rcases hrow with ⟨hn, rfl⟩ | ⟨hn, hle⟩
      · have hn' : (m.Name.toList != name.toList) = true := by rw [bne, hn]; rfl
        have hcx := @Later.cell wr
        have h2 : (wrap64 (m.Used.tdiv 2)) = m.Used / 2 := by
          rw [Int.tdiv_eq_ediv_of_nonneg hm0]; unfold wrap64; omega
        have h3 : (m.Used / 2 != m.Used / 2) = false := by simp
        go_wp2
        refine wp_region_ext (by kernel_rfl) (by kernel_rfl) ?_
        repeat (go_big_quiet_step (fail))
        refine wpQuiet_nil ?_
        intro w6 hb6
        have HB6 := Lib.hid (HE.out.trans hb6)
        clear hb6 hcx a0 a1 a2 m0 m1 m2 f0 f1 f2 h2 h3
        go_wp2
        go_roundw
        case rel => exact ⟨k + 1, by omega, by go_num, HB6⟩
        case measure => simp [intOf]; omega
      · have hn' : (a.Name.toList != name.toList) = false := by rw [bne, hn]; rfl
        have hd : decide (m.Used < a.Used) = false := by rw [decide_eq_false_iff_not]; omega
        have hcx := @Later.cell wr
        have h2 : (wrap64 (m.Used.tdiv 2)) = m.Used / 2 := by
          rw [Int.tdiv_eq_ediv_of_nonneg hm0]; unfold wrap64; omega
        have h3 : (m.Used / 2 != m.Used / 2) = false := by simp
        go_wp2
        refine wp_region_ext (by kernel_rfl) (by kernel_rfl) ?_
        repeat (go_big_quiet_step (fail))
        refine wpQuiet_nil ?_
        intro w6 hb6
        have HB6 := Lib.hid (HE.out.trans hb6)
        clear hb6 hcx a0 a1 a2 m0 m1 m2 f0 f1 f2 h2 h3
        go_wp2
        go_roundw
        case rel => exact ⟨k + 1, by omega, by go_num, HB6⟩
        case measure => simp [intOf]; omega
    · go_wp2_with fail
      refine (HAC.out _ HE.out).mono ?_
      rintro e w6 ⟨rfl, hb6⟩
      go_wp2
      exact ret_bool rfl rfl rfl rfl ((HB1.out.trans HE4.out).trans (HE.out.trans hb6))
end Go.Proofs.Ytbfambeoboiifaa
