/- Contracts of the draws: any list of accounts, a name. -/
import Derived.Test.YtbfambeoboiifaaDrawAcct
namespace Go.Proofs.Ytbfambeoboiifaa
open Go.RowKit
set_option linter.unusedVariables false
set_option maxHeartbeats 2000000 in
theorem l11Name_c (g : Nat) (w : World) (hc : Cur w g) : Calls Try.prog 39 #[.pointer (some ⟨g, 0, none⟩)] w (RetStrD 8 w g) := by
  have hgw := hc.lt
  have HB := Lib.hid (fun (n : Int) (hn : In64 n) (u : World) (hu : Cur u g) => l01Below_c g n u hu hn)
  have HC0 := Lib.hid hc
  have HT0 := Lib.hid (Turned.refl g (g + 1) w)
  clear hc
  go_enter Try.func39, Try.ntmps39
  go_wp2_with fail
  refine (HB.out 6 (by unfold In64; omega) _ (HC0.out.ext ((Ext.refl w).alloc _))).mono ?_
  rintro e w1 ⟨v1, rfl, ⟨hv1a, hv1b⟩, ht1, hc1⟩
  have HT1 := Lib.hid ((HT0.out.ext ((Ext.refl w).alloc _)).trans ht1)
  have HC1 := Lib.hid hc1
  have hs1 := HT1.out.le
  have HX1 := Lib.hid (heapT ht1 (heap_alloc_new w _) (by omega))
  clear ht1 hc1
  obtain ⟨k, rfl⟩ := Int.eq_ofNat_of_zero_le hv1a
  rcases (show k = 0 ∨ k = 1 ∨ k = 2 ∨ k = 3 ∨ k = 4 ∨ k = 5 by omega) with rfl | rfl | rfl | rfl | rfl | rfl
  · have hw := cell_block HX1.out 0 _ rfl
    go_wp2
    refine ret_post rfl (strD _ ?_ HT1.out HC1.out)
    decide
  · have hw := cell_block HX1.out 1 _ rfl
    go_wp2
    refine ret_post rfl (strD _ ?_ HT1.out HC1.out)
    decide
  · have hw := cell_block HX1.out 2 _ rfl
    go_wp2
    refine ret_post rfl (strD _ ?_ HT1.out HC1.out)
    decide
  · have hw := cell_block HX1.out 3 _ rfl
    go_wp2
    refine ret_post rfl (strD _ ?_ HT1.out HC1.out)
    decide
  · have hw := cell_block HX1.out 4 _ rfl
    go_wp2
    refine ret_post rfl (strD _ ?_ HT1.out HC1.out)
    decide
  · have hw := cell_block HX1.out 5 _ rfl
    go_wp2
    refine ret_post rfl (strD _ ?_ HT1.out HC1.out)
    decide
theorem acct_set1 (x : Account) (v : Int) : (⟨x.Name, v, x.Used⟩ : Account).enc = x.enc.set 1 (.int .i64 v) := rfl
theorem acct_set2 (x : Account) (v : Int) : (⟨x.Name, x.Share, v⟩ : Account).enc = x.enc.set 2 (.int .i64 v) := rfl
theorem acct_set0 (x : Account) (v : ByteArray) : (⟨v, x.Share, x.Used⟩ : Account).enc = x.enc.set 0 (.string v) := rfl
set_option maxHeartbeats 4000000 in
set_option maxRecDepth 20000 in
theorem l11Any_c (g : Nat) (w : World) (hc : Cur w g) : Calls Try.prog 36 #[.pointer (some ⟨g, 0, none⟩)] w (RetAccts 5 w g) := by
  obtain ⟨i0, hi, hI0, hI1, hI2⟩ := info_parts Account.info
  have hgw := hc.lt
  have HB := Lib.hid (fun (n : Int) (hn : In64 n) (u : World) (hu : Cur u g) => l01Below_c g n u hu hn)
  have HR := Lib.hid (fun (u : World) (hu : Cur u g) => l01Raw_c g u hu)
  have HD := Lib.hid (l11Draw_c g w hc)
  have H9 : Hid (∀ n : Int, -1000000 ≤ n → n ≤ 1000000 → In64 n) := Lib.hid (fun n h1 h2 => by unfold In64; omega)
  clear hc
  go_enter Try.func36, Try.ntmps36
  go_wp2_with fail
  refine HD.out.mono ?_
  rintro e w1 ⟨A1, c1, xs, rfl, ho1, hin, hl4, ht1, hc1⟩
  have HO1 := Lib.hid ho1
  have HIN := Lib.hid hin
  have HT1 := Lib.hid ht1
  have HC1 := Lib.hid hc1
  have hs1 := HT1.out.le
  clear ho1 hin ht1 hc1
  go_wp2_with fail
  refine (HB.out 14 (H9.out _ (by omega) (by omega)) _ HC1.out).mono ?_
  rintro e w2 ⟨v2, rfl, ⟨hv2a, hv2b⟩, ht2, hc2⟩
  have HT2 := Lib.hid (HT1.out.trans ht2)
  have HC2 := Lib.hid hc2
  have hs2 := HT2.out.le
  have HO2 := Lib.hid (ownsT HO1.out ht2 (by omega))
  clear ht2 hc2
  by_cases h0 : xs.length = 0
  · have HRR := Lib.hid (show RetAccts 5 w g (.returned (.slice A1 xs.length c1)) w2 from ⟨A1, c1, xs, rfl, HO2.out, HIN.out, by omega, HT2.out, HC2.out⟩)
    rw [h0] at *
    go_wp2
    exact ret_post rfl HRR.out
  obtain ⟨gb, cap, e1, hgb, hgl⟩ := own_form HO2.out (by omega)
  injection e1 with e1 e2 e3
  subst e1 e3
  have hz : (((xs.length : Nat) : Int) == 0) = false := by rw [beq_eq_false_iff_ne]; omega
  go_wp2_with fail
  refine (HB.out (xs.length) (H9.out _ (by omega) (by omega)) _ HC2.out).mono ?_
  rintro e w3 ⟨v3, rfl, ⟨hv3a, hv3b⟩, ht3, hc3⟩
  have HT3 := Lib.hid (HT2.out.trans ht3)
  have HC3 := Lib.hid hc3
  have hs3 := HT3.out.le
  have HO3 := Lib.hid (ownsT HO2.out ht3 (by omega))
  clear ht3 hc3
  obtain ⟨k, rfl⟩ := Int.eq_ofNat_of_zero_le hv3a
  have hkl : k < xs.length := by omega
  obtain ⟨x, hx⟩ : ∃ x, xs[k]? = some x := ⟨_, List.getElem?_eq_getElem hkl⟩
  have HX := Lib.hid hx
  have HXO := Lib.hid (HIN.out x (List.mem_of_getElem? hx))
  have HLS := Lib.hid (fun y : Account => show (xs.set k y).length ≤ 5 by rw [List.length_set]; omega)
  clear hx
  rcases (show v2 = 0 ∨ v2 = 1 ∨ v2 = 2 ∨ v2 = 3 ∨ 3 < v2 by omega) with rfl | rfl | rfl | rfl | hv
  · go_wp2_with fail
    refine (HR.out _ HC3.out).mono ?_
    rintro e w4 ⟨v4, rfl, hv4, ht4, hc4⟩
    have HT4 := Lib.hid (HT3.out.trans ht4)
    have HC4 := Lib.hid hc4
    have hs4 := HT4.out.le
    have HO4 := Lib.hid (ownsT HO3.out ht4 (by omega))
    clear ht4 hc4
    have HV4 := Lib.hid hv4
    obtain ⟨y, hy⟩ := owns_cell HO4.out (j := k * 3 + 1) (by omega)
    have hf := HO4.out.frozenAt (k * 3 + 1)
    have HRR := Lib.hid (show RetAccts 5 w g (.returned (.slice (some ⟨gb, 0, none⟩) xs.length c1)) (w4.setCell ⟨gb, k * 3 + 1, none⟩ (.int .i64 v4)) from ⟨_, c1, xs.set k ⟨x.Name, v4, x.Used⟩, by rw [List.length_set], owns_put Account.size (by omega) HX.out (acct_set1 x v4) HO4.out, all_set HIN.out ⟨HXO.out.1, HV4.out, HXO.out.2.2⟩, HLS.out _, turned_own HT4.out hgb, HC4.out.put (by omega)⟩)
    clear hv4
    go_wp2
    exact ret_post rfl HRR.out
  · go_wp2_with fail
    refine (HR.out _ HC3.out).mono ?_
    rintro e w4 ⟨v4, rfl, hv4, ht4, hc4⟩
    have HT4 := Lib.hid (HT3.out.trans ht4)
    have HC4 := Lib.hid hc4
    have hs4 := HT4.out.le
    have HO4 := Lib.hid (ownsT HO3.out ht4 (by omega))
    clear ht4 hc4
    have HV4 := Lib.hid hv4
    obtain ⟨y, hy⟩ := owns_cell HO4.out (j := k * 3 + 2) (by omega)
    have hf := HO4.out.frozenAt (k * 3 + 2)
    have HRR := Lib.hid (show RetAccts 5 w g (.returned (.slice (some ⟨gb, 0, none⟩) xs.length c1)) (w4.setCell ⟨gb, k * 3 + 2, none⟩ (.int .i64 v4)) from ⟨_, c1, xs.set k ⟨x.Name, x.Share, v4⟩, by rw [List.length_set], owns_put Account.size (by omega) HX.out (acct_set2 x v4) HO4.out, all_set HIN.out ⟨HXO.out.1, HXO.out.2.1, HV4.out⟩, HLS.out _, turned_own HT4.out hgb, HC4.out.put (by omega)⟩)
    clear hv4
    go_wp2
    exact ret_post rfl HRR.out
  · go_wp2_with fail
    refine (HB.out 4 (H9.out _ (by omega) (by omega)) _ (HC3.out.ext ((Ext.refl w3).alloc _))).mono ?_
    rintro e w4 ⟨v4, rfl, ⟨hv4a, hv4b⟩, ht4, hc4⟩
    have HT4 := Lib.hid ((HT3.out.ext ((Ext.refl w3).alloc _)).trans ht4)
    have HC4 := Lib.hid hc4
    have hs4 := HT4.out.le
    have HO4 := Lib.hid (ownsT (owns_ext HO3.out ((Ext.refl w3).alloc _)) ht4 (by omega))
    have HX4 := Lib.hid (heapT ht4 (heap_alloc_new w3 _) (by omega))
    clear ht4 hc4
    obtain ⟨q, rfl⟩ := Int.eq_ofNat_of_zero_le hv4a
    obtain ⟨y, hy⟩ := owns_cell HO4.out (j := k * 3) (by omega)
    have hf := HO4.out.frozenAt (k * 3)
    have HRR := Lib.hid (fun (s : ByteArray) (hs : s.size ≤ 9) => show RetAccts 5 w g (.returned (.slice (some ⟨gb, 0, none⟩) xs.length c1)) (w4.setCell ⟨gb, k * 3, none⟩ (.string s)) from ⟨_, c1, xs.set k ⟨s, x.Share, x.Used⟩, by rw [List.length_set], owns_put (j := 0) Account.size (by omega) HX.out (acct_set0 x s) HO4.out, all_set HIN.out ⟨Nat.le_trans hs (by unfold maxLen; omega), HXO.out.2⟩, HLS.out _, turned_own HT4.out hgb, HC4.out.put (by omega)⟩)
    rcases (show q = 0 ∨ q = 1 ∨ q = 2 ∨ q = 3 by omega) with rfl | rfl | rfl | rfl
    · have hw := cell_block HX4.out 0 _ rfl
      go_wp2
      refine ret_post rfl (HRR.out _ ?_)
      decide
    · have hw := cell_block HX4.out 1 _ rfl
      go_wp2
      refine ret_post rfl (HRR.out _ ?_)
      decide
    · have hw := cell_block HX4.out 2 _ rfl
      go_wp2
      refine ret_post rfl (HRR.out _ ?_)
      decide
    · have hw := cell_block HX4.out 3 _ rfl
      go_wp2
      refine ret_post rfl (HRR.out _ ?_)
      decide
  · have HS3 := Lib.hid (rowD_sl Account.size HO3.out HIN.out)
    obtain ⟨b, o, x0, cs, eb, hbw, hx0, _, hcb, hr⟩ := HS3.out.at_ (show 0 < xs.length by omega)
    obtain ⟨rfl, hx0k⟩ := hr
    injection eb with eb
    injection eb with eb eo
    subst eb eo
    have y0 := hcb 0 _ rfl
    have y1 := hcb 1 _ rfl
    have y2 := hcb 2 _ rfl
    simp only [Nat.add_zero] at y0
    have HK0 := Lib.hid hx0k
    clear hcb hx0 hx0k
    go_wp2_with (at_builtin; go_must (refine wpList_append_one_t (.tmp 47) (.tmp 51) _ w.heap.size 30 i0 _ 3 32 _ xs.length _ (Account.enc x0) rfl rfl Try.underlying23 hi hI0 hI1 hI2 rfl (by omega) rfl (HO3.out) _ rfl (by first | rfl | simp) rfl (Account.one _) (by unfold maxLen; omega) (by omega) hs3 ?_); intro A7 c7 w7 ho7 ht7 hs7 hk7)
    have HRR := Lib.hid (show RetAccts 5 w g (.returned (.slice A7 (xs.length + 1) c7)) w7 from ⟨A7, c7, xs ++ [x0], by simp, own_snoc ho7, all_snoc HIN.out HK0.out, by simp; omega, turned_low HT3.out ht7 (Nat.le_refl _), HC3.out.keep ht7 hgw⟩)
    clear ho7 ht7 hk7
    go_wp2
    exact ret_post rfl HRR.out
  · have HRR := Lib.hid (show RetAccts 5 w g (.returned (.slice (some ⟨gb, 0, none⟩) xs.length c1)) w3 from ⟨_, c1, xs, rfl, HO3.out, HIN.out, by omega, HT3.out, HC3.out⟩)
    go_wp2
    exact ret_post rfl HRR.out
def RetDrawAccts (w : World) : Ending → World → Prop := fun e w' => ∃ (A : Option Addr) (c : Nat) (xs : List Account), e = .returned (.slice A xs.length c) ∧ SlAt RAccount 3 w' A xs.length xs ∧ xs.length ≤ 5 ∧ Ext w w'
set_option maxHeartbeats 2000000 in
theorem DrawRanks_c (bs : List Int) (A : Option Addr) (n c : Nat) (w : World) (hs : SlAt RU8 1 w A n bs) (hn : n ≤ 1048576) : Calls Try.prog 13 #[.slice A n c] w (RetDrawAccts w) := by
  have HN := Lib.hid (l01New_c bs A n c w hs hn)
  clear hs
  go_enter Try.func13, Try.ntmps13
  go_wp2_with fail
  refine HN.out.mono ?_
  rintro e w1 ⟨g, rfl, hg, hb1, hc1⟩
  go_wp2_with fail
  refine (l11Any_c g _ hc1).mono ?_
  rintro e w2 ⟨A2, c2, xs, rfl, ho2, hin2, hl2, ht2, hc2⟩
  have HR := Lib.hid (show RetDrawAccts w (.returned (.slice A2 xs.length c2)) w2 from ⟨A2, c2, xs, rfl, rowD_sl Account.size ho2 hin2, hl2, ext_turned hb1 ht2 hg⟩)
  clear ho2 hin2 ht2 hc2 hc1 hb1
  go_wp2
  exact ret_post rfl HR.out
def RetDrawCharge (w : World) : Ending → World → Prop := fun e w' => ∃ (A : Option Addr) (c : Nat) (xs : List Account) (s : ByteArray) (n : Int), e = .returned (.tuple #[.slice A xs.length c, .string s, .int .i64 n]) ∧ SlAt RAccount 3 w' A xs.length xs ∧ xs.length ≤ 5 ∧ s.size ≤ 8 ∧ In64 n ∧ Ext w w'
set_option maxHeartbeats 2000000 in
theorem DrawCharge_c (bs : List Int) (A : Option Addr) (n c : Nat) (w : World) (hs : SlAt RU8 1 w A n bs) (hn : n ≤ 1048576) : Calls Try.prog 8 #[.slice A n c] w (RetDrawCharge w) := by
  have HB := Lib.hid (fun (g : Nat) (n : Int) (hn : In64 n) (u : World) (hu : Cur u g) => l01Below_c g n u hu hn)
  have HN := Lib.hid (l01New_c bs A n c w hs hn)
  clear hs
  go_enter Try.func8, Try.ntmps8
  go_wp2_with fail
  refine HN.out.mono ?_
  rintro e w0 ⟨g, rfl, hg, hb0, hc0⟩
  have hg1 : g < w0.heap.size := hc0.lt
  go_wp2_with fail
  refine (l11Any_c g _ hc0).mono ?_
  rintro e w1 ⟨A2, c2, xs, rfl, ho1, hin, hl2, ht1, hc1⟩
  have HO1 := Lib.hid ho1
  have HIN := Lib.hid hin
  have HT1 := Lib.hid ht1
  have HC1 := Lib.hid hc1
  have HE0 := Lib.hid hb0
  clear ho1 hin ht1 hc1 hc0 hb0
  go_wp2_with fail
  refine (HB.out g 50 (by unfold In64; omega) _ HC1.out).mono ?_
  rintro e w2 ⟨v2, rfl, ⟨hv2a, hv2b⟩, ht2, hc2⟩
  have HT2 := Lib.hid (HT1.out.trans ht2)
  have HC2 := Lib.hid hc2
  have hs2 := HT2.out.le
  have HO2 := Lib.hid (ownsT HO1.out ht2 (by omega))
  clear ht2 hc2
  go_wp2_with fail
  refine (HB.out g 8 (by unfold In64; omega) _ HC2.out).mono ?_
  rintro e w3 ⟨v3, rfl, ⟨hv3a, hv3b⟩, ht3, hc3⟩
  have HT3 := Lib.hid (HT2.out.trans ht3)
  have HC3 := Lib.hid hc3
  have hs3 := HT3.out.le
  have HO3 := Lib.hid (ownsT HO2.out ht3 (by omega))
  clear ht3 hc3
  by_cases hv : v3 = 0
  · subst hv
    go_wp2_with fail
    refine (l01Raw_c g _ HC3.out).mono ?_
    rintro e w4 ⟨v4, rfl, hv4, ht4, hc4⟩
    have HT4 := Lib.hid (HT3.out.trans ht4)
    have HC4 := Lib.hid hc4
    have hs4 := HT4.out.le
    have HO4 := Lib.hid (ownsT HO3.out ht4 (by omega))
    clear ht4 hc4
    have HV := Lib.hid hv4
    clear hv4
    go_wp2_with fail
    refine (l11Name_c g _ HC4.out).mono ?_
    rintro e w5 ⟨s, rfl, hsz, ht5, hc5⟩
    have HR := Lib.hid (show RetDrawCharge w (.returned (.tuple #[.slice A2 xs.length c2, .string s, .int .i64 v4])) w5 from ⟨A2, c2, xs, s, v4, rfl, rowD_sl Account.size (ownsT HO4.out ht5 (by omega)) HIN.out, hl2, hsz, HV.out, ext_turned HE0.out (HT4.out.trans ht5) hg⟩)
    clear ht5 hc5
    go_wp2
    exact bodyPost_ret (by simp [results, Try.results8, go_sem]) rfl HR.out
  · have HV := Lib.hid (show In64 v2 from in64_of (by omega) (by omega))
    go_wp2_with fail
    refine (l11Name_c g _ HC3.out).mono ?_
    rintro e w5 ⟨s, rfl, hsz, ht5, hc5⟩
    have HR := Lib.hid (show RetDrawCharge w (.returned (.tuple #[.slice A2 xs.length c2, .string s, .int .i64 v2])) w5 from ⟨A2, c2, xs, s, v2, rfl, rowD_sl Account.size (ownsT HO3.out ht5 (by omega)) HIN.out, hl2, hsz, HV.out, ext_turned HE0.out (HT3.out.trans ht5) hg⟩)
    clear ht5 hc5
    go_wp2
    exact bodyPost_ret (by simp [results, Try.results8, go_sem]) rfl HR.out
end Go.Proofs.Ytbfambeoboiifaa
