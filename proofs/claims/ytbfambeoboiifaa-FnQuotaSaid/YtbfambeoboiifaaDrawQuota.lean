/- Contracts of the draws: quotas. -/
import Derived.Test.YtbfambeoboiifaaDrawVec
import Derived.Test.YtbfambeoboiifaaQuota
namespace Go.Proofs.Ytbfambeoboiifaa
open Go.RowKit
set_option linter.unusedVariables false
abbrev RetQuotas := RetRowD Quota.enc Quota.ok 104 6
theorem Quota.one (y : Quota) : ∀ u ∈ y.enc, u.oneCell' = true := by
  intro u hu; simp [Quota.enc] at hu; rcases hu with rfl | rfl | rfl | rfl | rfl | rfl <;> rfl
theorem Quota.info : (Try.prog.info? 104).map (fun i => (i.zero, i.size, i.bytes)) = some (some (.agg #[.string ByteArray.empty, .int .i64 0, .int .i64 0, .int .i64 0, .int .i64 0, .int .i64 0]), 6, 56) := by kernel_rfl
theorem quota_set1 (x : Quota) (v : Int) : (⟨x.Name, v, x.Nodes, x.Res⟩ : Quota).enc = x.enc.set 1 (.int .i64 v) := rfl
theorem quota_set2 (x : Quota) (v : Int) : (⟨x.Name, x.Jobs, v, x.Res⟩ : Quota).enc = x.enc.set 2 (.int .i64 v) := rfl
theorem quota_set3 (x : Quota) (v : Int) : (⟨x.Name, x.Jobs, x.Nodes, ⟨v, x.Res.B, x.Res.C⟩⟩ : Quota).enc = x.enc.set 3 (.int .i64 v) := rfl
theorem quota_set4 (x : Quota) (v : Int) : (⟨x.Name, x.Jobs, x.Nodes, ⟨x.Res.A, v, x.Res.C⟩⟩ : Quota).enc = x.enc.set 4 (.int .i64 v) := rfl
theorem quota_set5 (x : Quota) (v : Int) : (⟨x.Name, x.Jobs, x.Nodes, ⟨x.Res.A, x.Res.B, v⟩⟩ : Quota).enc = x.enc.set 5 (.int .i64 v) := rfl
set_option maxHeartbeats 4000000 in
set_option maxRecDepth 20000 in
theorem l14Quotas_c (g : Nat) (w : World) (hc : Cur w g) : Calls Try.prog 84 #[.pointer (some ⟨g, 0, none⟩)] w (RetQuotas 3 w g) := by
  obtain ⟨i0, hi, hI0, hI1, hI2⟩ := info_parts Quota.info
  have hgw := hc.lt
  have HB := Lib.hid (fun (n : Int) (hn : In64 n) (u : World) (hu : Cur u g) => l01Below_c g n u hu hn)
  have HCi := Lib.hid hc
  clear hc
  have H9 : Hid (∀ n : Int, -1000000 ≤ n → n ≤ 1000000 → In64 n) := Lib.hid (fun n h1 h2 => by unfold In64; omega)
  go_enter Try.func84, Try.ntmps84
  go_wp2
  go_loopw [3, 9] (fun l iv wr => ∃ (k : Nat) (A1 : Option Addr) (c1 : Nat) (acc : List Quota), k ≤ 3 ∧ iv = .int .i64 k ∧ l = .slice A1 acc.length c1 ∧ acc.length ≤ k ∧ Hid (wr.ownsRow w.heap.size 104 6 (.slice A1 acc.length c1) acc.length (acc.flatMap Quota.enc)) ∧ Hid (∀ y ∈ acc, y.ok) ∧ Hid (Turned g (g + 1) w wr) ∧ Hid (Cur wr g) ∧ Hid (∃ cs : List Value, wr.heap[w.heap.size + 1]? = some (.cells cs.toArray 9) ∧ ∀ j < 3, ∃ s : ByteArray, cs[j]? = some (.string s) ∧ s.size ≤ maxLen)) (fun _ iv _ => 3 - (intOf iv).toNat)
  case atStart => exact ⟨0, _, 0, [], by omega, rfl, rfl, by simp, Lib.hid (owns_ext (owns_empty w 104 6) ((Ext.refl _).alloc _)), Lib.hid (fun y hy => by cases hy), Lib.hid ((((Ext.refl w).alloc _).alloc _).turned _ _), Lib.hid (HCi.out.ext (((Ext.refl w).alloc _).alloc _)), Lib.hid ⟨_, heap_box _ _ (by simp) _, fun j hj => by
    have : j = 0 ∨ j = 1 ∨ j = 2 := by omega
    rcases this with rfl | rfl | rfl <;> (refine ⟨_, rfl, ?_⟩; unfold maxLen; decide)⟩⟩
  case round =>
    obtain ⟨k, A1, c1, acc, hk, rfl, rfl, hlen, HO0, HIN, HT0, HC0, HBX⟩ := hrel
    obtain ⟨cs, hxx, hst⟩ := HBX.out
    have HX0 := Lib.hid hxx
    have HST := Lib.hid hst
    have hs0 := HT0.out.le
    clear hxx hst HBX
    by_cases hlt : k < 3
    · obtain ⟨s, hcs, hsm⟩ := HST.out k hlt
      have HSM := Lib.hid hsm
      have hw0 := cell_block HX0.out k _ hcs
      clear hcs hsm
      go_wp2_with fail
      refine (HB.out 3 (H9.out _ (by omega) (by omega)) _ HC0.out).mono ?_
      rintro e w1 ⟨v1, rfl, ⟨hv1a, hv1b⟩, ht1, hc1⟩
      have HT1 := Lib.hid (HT0.out.trans ht1)
      have HC1 := Lib.hid hc1
      have hs1 := HT1.out.le
      have HO1 := Lib.hid (ownsT HO0.out ht1 (by omega))
      have HX1 := Lib.hid (heapT ht1 HX0.out (by omega))
      clear ht1 hc1
      clear hw0
      by_cases hv : v1 = 0
      · subst hv
        go_wp2
        go_roundw
        case rel => exact ⟨k + 1, A1, c1, acc, by omega, by go_num, rfl, by omega, HO1, HIN, HT1, HC1, Lib.hid ⟨cs, HX1.out, HST.out⟩⟩
        case measure => simp [intOf]; omega
      have hv1 : 0 < v1 := by omega
      go_wp2_with fail
      refine (HB.out 4 (H9.out _ (by omega) (by omega)) _ HC1.out).mono ?_
      rintro e w2 ⟨v2, rfl, ⟨hv2a, hv2b⟩, ht2, hc2⟩
      have HT2 := Lib.hid (HT1.out.trans ht2)
      have HC2 := Lib.hid hc2
      have hs2 := HT2.out.le
      have HO2 := Lib.hid (ownsT HO1.out ht2 (by omega))
      have HX2 := Lib.hid (heapT ht2 HX1.out (by omega))
      clear ht2 hc2
      go_wp2_with fail
      refine (HB.out 8 (H9.out _ (by omega) (by omega)) _ HC2.out).mono ?_
      rintro e w3 ⟨v3, rfl, ⟨hv3a, hv3b⟩, ht3, hc3⟩
      have HT3 := Lib.hid (HT2.out.trans ht3)
      have HC3 := Lib.hid hc3
      have hs3 := HT3.out.le
      have HO3 := Lib.hid (ownsT HO2.out ht3 (by omega))
      have HX3 := Lib.hid (heapT ht3 HX2.out (by omega))
      clear ht3 hc3
      go_wp2_with fail
      refine (HB.out 40 (H9.out _ (by omega) (by omega)) _ HC3.out).mono ?_
      rintro e w4 ⟨v4, rfl, ⟨hv4a, hv4b⟩, ht4, hc4⟩
      have HT4 := Lib.hid (HT3.out.trans ht4)
      have HC4 := Lib.hid hc4
      have hs4 := HT4.out.le
      have HO4 := Lib.hid (ownsT HO3.out ht4 (by omega))
      have HX4 := Lib.hid (heapT ht4 HX3.out (by omega))
      clear ht4 hc4
      go_wp2_with fail
      refine (HB.out 80 (H9.out _ (by omega) (by omega)) _ HC4.out).mono ?_
      rintro e w5 ⟨v5, rfl, ⟨hv5a, hv5b⟩, ht5, hc5⟩
      have HT5 := Lib.hid (HT4.out.trans ht5)
      have HC5 := Lib.hid hc5
      have hs5 := HT5.out.le
      have HO5 := Lib.hid (ownsT HO4.out ht5 (by omega))
      have HX5 := Lib.hid (heapT ht5 HX4.out (by omega))
      clear ht5 hc5
      go_wp2_with fail
      refine (HB.out 4 (H9.out _ (by omega) (by omega)) _ HC5.out).mono ?_
      rintro e w6 ⟨v6, rfl, ⟨hv6a, hv6b⟩, ht6, hc6⟩
      have HT6 := Lib.hid (HT5.out.trans ht6)
      have HC6 := Lib.hid hc6
      have hs6 := HT6.out.le
      have HO6 := Lib.hid (ownsT HO5.out ht6 (by omega))
      have HX6 := Lib.hid (heapT ht6 HX5.out (by omega))
      clear ht6 hc6
      have HV6 := Lib.hid (show (⟨s, 1 + v2, 2 + v3, ⟨5 + v4, 20 + v5, v6⟩⟩ : Quota).ok from ⟨HSM.out, in64_of (n := 1 + v2) (by omega) (by omega), in64_of (n := 2 + v3) (by omega) (by omega), in64_of (n := 5 + v4) (by omega) (by omega), in64_of (n := 20 + v5) (by omega) (by omega), in64_of (n := v6) (by omega) (by omega)⟩)
      go_wp2_with (at_builtin; go_must (refine wpList_append_one_t (.tmp 16) (.tmp 34) _ w.heap.size 104 i0 _ 6 56 _ acc.length _ (Quota.enc ⟨s, 1 + v2, 2 + v3, ⟨5 + v4, 20 + v5, v6⟩⟩) rfl rfl Try.underlying49 hi hI0 hI1 hI2 rfl (by omega) rfl (HO6.out) _ rfl (by first | rfl | simp) rfl (Quota.one _) (by unfold maxLen; omega) (by omega) hs6 ?_); intro A7 c7 w7 ho7 ht7 hs7 hk7)
      have HO7 := Lib.hid (own_snoc ho7)
      have HT7 := Lib.hid (turned_low HT6.out ht7 (Nat.le_refl _))
      have HC7 := Lib.hid (HC6.out.keep ht7 hgw)
      have HX7 := Lib.hid (hk7 _ _ _ (by decide) HX6.out)
      have HIN7 := Lib.hid (all_snoc HIN.out HV6.out)
      clear ho7 ht7 hk7
      go_wp2
      go_roundw
      case rel => exact ⟨k + 1, A7, c7, _, by omega, by go_num, by simp, by simp; omega, HO7, HIN7, HT7, HC7, Lib.hid ⟨cs, HX7.out, HST.out⟩⟩
      case measure => simp [intOf]; omega
    · have HR := Lib.hid (show RetQuotas 3 w g (.returned (.slice A1 acc.length c1)) wr from ⟨A1, c1, acc, rfl, HO0.out, HIN.out, by omega, HT0.out, HC0.out⟩)
      clear HX0 HST
      go_wp2
      exact ret_post rfl HR.out
set_option maxHeartbeats 4000000 in
set_option maxRecDepth 20000 in
theorem l14AnyQuotas_c (g : Nat) (w : World) (hc : Cur w g) : Calls Try.prog 56 #[.pointer (some ⟨g, 0, none⟩)] w (RetQuotas 4 w g) := by
  obtain ⟨i0, hi, hI0, hI1, hI2⟩ := info_parts Quota.info
  have hgw := hc.lt
  have HB := Lib.hid (fun (n : Int) (hn : In64 n) (u : World) (hu : Cur u g) => l01Below_c g n u hu hn)
  have HR := Lib.hid (fun (u : World) (hu : Cur u g) => l01Raw_c g u hu)
  have HD := Lib.hid (l14Quotas_c g w hc)
  have H9 : Hid (∀ n : Int, -1000000 ≤ n → n ≤ 1000000 → In64 n) := Lib.hid (fun n h1 h2 => by unfold In64; omega)
  clear hc
  go_enter Try.func56, Try.ntmps56
  go_wp2_with fail
  refine HD.out.mono ?_
  rintro e w1 ⟨A1, c1, xs, rfl, ho1, hin, hl4, ht1, hc1⟩
  have HO1 := Lib.hid ho1
  have HIN := Lib.hid hin
  have HT1 := Lib.hid ht1
  have HC1 := Lib.hid hc1
  have hs1 := HT1.out.le
  clear ho1 hin ht1 hc1
  go_wp2_with fail
  refine (HB.out 14 (H9.out _ (by omega) (by omega)) _ HC1.out).mono ?_
  rintro e w2 ⟨v2, rfl, ⟨hv2a, hv2b⟩, ht2, hc2⟩
  have HT2 := Lib.hid (HT1.out.trans ht2)
  have HC2 := Lib.hid hc2
  have hs2 := HT2.out.le
  have HO2 := Lib.hid (ownsT HO1.out ht2 (by omega))
  clear ht2 hc2
  by_cases h0 : xs.length = 0
  · have HRR := Lib.hid (show RetQuotas 4 w g (.returned (.slice A1 xs.length c1)) w2 from ⟨A1, c1, xs, rfl, HO2.out, HIN.out, by omega, HT2.out, HC2.out⟩)
    rw [h0] at *
    go_wp2
    exact ret_post rfl HRR.out
  obtain ⟨gb, rfl, hgb, hgl⟩ := down_form HO2.out (by omega)
  have hz : (((xs.length : Nat) : Int) == 0) = false := by rw [beq_eq_false_iff_ne]; omega
  obtain ⟨x, hx⟩ : ∃ x, xs[0]? = some x := ⟨_, List.getElem?_eq_getElem (by omega)⟩
  have HX := Lib.hid hx
  have HXO := Lib.hid (HIN.out x (List.mem_of_getElem? hx))
  have HLS := Lib.hid (fun y : Quota => show (xs.set 0 y).length ≤ 4 by rw [List.length_set]; omega)
  clear hx
  rcases (show v2 = 0 ∨ v2 = 1 ∨ v2 = 2 ∨ v2 = 3 ∨ 3 < v2 by omega) with rfl | rfl | rfl | rfl | hv
  · go_wp2_with fail
    refine (HR.out _ HC2.out).mono ?_
    rintro e w3 ⟨v3, rfl, hv3, ht3, hc3⟩
    have HT3 := Lib.hid (HT2.out.trans ht3)
    have HC3 := Lib.hid hc3
    have hs3 := HT3.out.le
    have HO3 := Lib.hid (ownsT HO2.out ht3 (by omega))
    clear ht3 hc3
    have HV3 := Lib.hid hv3
    obtain ⟨y, hy⟩ := owns_cell HO3.out (j := 1) (by omega)
    have hf := HO3.out.frozenAt 1
    have HRR := Lib.hid (show RetQuotas 4 w g (.returned (.slice (some ⟨gb, 0, none⟩) xs.length c1)) (w3.setCell ⟨gb, 1, none⟩ (.int .i64 v3)) from ⟨_, c1, xs.set 0 ⟨x.Name, v3, x.Nodes, x.Res⟩, by rw [List.length_set], by simpa using owns_put (k := 0) (j := 1) Quota.size (by omega) HX.out (quota_set1 x v3) HO3.out, all_set HIN.out ⟨HXO.out.1, HV3.out, HXO.out.2.2⟩, HLS.out _, turned_own HT3.out (by omega), HC3.out.put (by omega)⟩)
    clear hv3
    go_wp2
    exact ret_post rfl HRR.out
  · go_wp2_with fail
    refine (HR.out _ HC2.out).mono ?_
    rintro e w3 ⟨v3, rfl, hv3, ht3, hc3⟩
    have HT3 := Lib.hid (HT2.out.trans ht3)
    have HC3 := Lib.hid hc3
    have hs3 := HT3.out.le
    have HO3 := Lib.hid (ownsT HO2.out ht3 (by omega))
    clear ht3 hc3
    have HV3 := Lib.hid hv3
    obtain ⟨y, hy⟩ := owns_cell HO3.out (j := 2) (by omega)
    have hf := HO3.out.frozenAt 2
    have HRR := Lib.hid (show RetQuotas 4 w g (.returned (.slice (some ⟨gb, 0, none⟩) xs.length c1)) (w3.setCell ⟨gb, 2, none⟩ (.int .i64 v3)) from ⟨_, c1, xs.set 0 ⟨x.Name, x.Jobs, v3, x.Res⟩, by rw [List.length_set], by simpa using owns_put (k := 0) (j := 2) Quota.size (by omega) HX.out (quota_set2 x v3) HO3.out, all_set HIN.out ⟨HXO.out.1, HXO.out.2.1, HV3.out, HXO.out.2.2.2⟩, HLS.out _, turned_own HT3.out (by omega), HC3.out.put (by omega)⟩)
    clear hv3
    go_wp2
    exact ret_post rfl HRR.out
  · go_wp2_with fail
    refine (l01Any_c g _ HC2.out).mono ?_
    rintro e w3 ⟨v, rfl, hvo, ht3, hc3⟩
    have HVO := Lib.hid hvo
    have HT3 := Lib.hid (HT2.out.trans ht3)
    have HC3 := Lib.hid hc3
    have HO3 := Lib.hid (ownsT HO2.out ht3 (by omega))
    have hs3 := HT3.out.le
    clear ht3 hc3 hvo
    obtain ⟨y3, hy3⟩ := owns_cell HO3.out (j := 3) (by omega)
    obtain ⟨y4, hy4⟩ := owns_cell HO3.out (j := 4) (by omega)
    obtain ⟨y5, hy5⟩ := owns_cell HO3.out (j := 5) (by omega)
    have hf3 := HO3.out.frozenAt 3
    have hf4 := HO3.out.frozenAt 4
    have hf5 := HO3.out.frozenAt 5
    have HP3 := Lib.hid (owns_put (k := 0) (j := 3) Quota.size (by omega) HX.out (quota_set3 x v.A) HO3.out)
    have HP4 := Lib.hid (owns_put (k := 0) (j := 4) (x := ⟨x.Name, x.Jobs, x.Nodes, ⟨v.A, x.Res.B, x.Res.C⟩⟩) Quota.size (by omega) (by rw [List.getElem?_set_self (by omega)]) (quota_set4 _ v.B) HP3.out)
    have HP5 := Lib.hid (owns_put (k := 0) (j := 5) (x := ⟨x.Name, x.Jobs, x.Nodes, ⟨v.A, v.B, x.Res.C⟩⟩) Quota.size (by omega) (by rw [List.getElem?_set_self (by rw [List.length_set]; omega)]) (quota_set5 _ v.C) HP4.out)
    have HRR := Lib.hid (show RetQuotas 4 w g (.returned (.slice (some ⟨gb, 0, none⟩) xs.length c1)) (((w3.setCell ⟨gb, 3, none⟩ (.int .i64 v.A)).setCell ⟨gb, 4, none⟩ (.int .i64 v.B)).setCell ⟨gb, 5, none⟩ (.int .i64 v.C)) from ⟨_, c1, xs.set 0 ⟨x.Name, x.Jobs, x.Nodes, v⟩, by rw [List.length_set], by simpa using HP5.out, all_set HIN.out ⟨HXO.out.1, HXO.out.2.1, HXO.out.2.2.1, HVO.out⟩, HLS.out _, turned_own (turned_own (turned_own HT3.out (by omega)) (by omega)) (by omega), ((HC3.out.put (by omega)).put (by omega)).put (by omega)⟩)
    clear HP3 HP4 HP5
    go_wp2
    exact ret_post rfl HRR.out
  · have HS2 := Lib.hid (rowD_sl Quota.size HO2.out HIN.out)
    obtain ⟨b, o, x0, cs, eb, hbw, hx0, _, hcb, hr⟩ := HS2.out.at_ (show 0 < xs.length by omega)
    obtain ⟨rfl, hx0k⟩ := hr
    injection eb with eb
    injection eb with eb eo
    subst eb eo
    have y0 := hcb 0 _ rfl
    have y1 := hcb 1 _ rfl
    have y2 := hcb 2 _ rfl
    have y3 := hcb 3 _ rfl
    have y4 := hcb 4 _ rfl
    have y5 := hcb 5 _ rfl
    simp only [Nat.add_zero] at y0
    have HK0 := Lib.hid hx0k
    clear hcb hx0 hx0k
    go_wp2_with (at_builtin; go_must (refine wpList_append_one_t (.tmp 36) (.tmp 40) _ w.heap.size 104 i0 _ 6 56 _ xs.length _ (Quota.enc x0) rfl rfl Try.underlying49 hi hI0 hI1 hI2 rfl (by omega) rfl (HO2.out) _ rfl (by first | rfl | simp) rfl (Quota.one _) (by unfold maxLen; omega) (by omega) hs2 ?_); intro A7 c7 w7 ho7 ht7 hs7 hk7)
    have HRR := Lib.hid (show RetQuotas 4 w g (.returned (.slice A7 (xs.length + 1) c7)) w7 from ⟨A7, c7, xs ++ [x0], by simp, own_snoc ho7, all_snoc HIN.out HK0.out, by simp; omega, turned_low HT2.out ht7 (Nat.le_refl _), HC2.out.keep ht7 hgw⟩)
    clear ho7 ht7 hk7
    go_wp2
    exact ret_post rfl HRR.out
  · have HRR := Lib.hid (show RetQuotas 4 w g (.returned (.slice (some ⟨gb, 0, none⟩) xs.length c1)) w2 from ⟨_, c1, xs, rfl, HO2.out, HIN.out, by omega, HT2.out, HC2.out⟩)
    go_wp2
    exact ret_post rfl HRR.out
end Go.Proofs.Ytbfambeoboiifaa
