/- Contracts of the draws: a list of accounts. -/
import Derived.Test.YtbfambeoboiifaaDrawG
import Derived.Test.YtbfambeoboiifaaAcct3
namespace Go.Proofs.Ytbfambeoboiifaa
open Go.RowKit
set_option linter.unusedVariables false
abbrev RetAccts := RetRowD Account.enc Account.ok 30 3
set_option maxHeartbeats 4000000 in
set_option maxRecDepth 20000 in
theorem l11Draw_c (g : Nat) (w : World) (hc : Cur w g) : Calls Try.prog 74 #[.pointer (some ⟨g, 0, none⟩)] w (RetAccts 4 w g) := by
  obtain ⟨i0, hi, hI0, hI1, hI2⟩ := info_parts Account.info
  have hgw := hc.lt
  have HB := Lib.hid (fun (n : Int) (hn : In64 n) (u : World) (hu : Cur u g) => l01Below_c g n u hu hn)
  have HCi := Lib.hid hc
  clear hc
  have H9 : Hid (∀ n : Int, -1000000 ≤ n → n ≤ 1000000 → In64 n) := Lib.hid (fun n h1 h2 => by unfold In64; omega)
  go_enter Try.func74, Try.ntmps74
  go_wp2
  go_loopw [3, 10] (fun l iv wr => ∃ (k : Nat) (A1 : Option Addr) (c1 : Nat) (acc : List Account), k ≤ 4 ∧ iv = .int .i64 k ∧ l = .slice A1 acc.length c1 ∧ acc.length ≤ k ∧ Hid (wr.ownsRow w.heap.size 30 3 (.slice A1 acc.length c1) acc.length (acc.flatMap Account.enc)) ∧ Hid (∀ y ∈ acc, y.ok) ∧ Hid (Turned g (g + 1) w wr) ∧ Hid (Cur wr g) ∧ Hid (∃ cs : List Value, wr.heap[w.heap.size + 1]? = some (.cells cs.toArray 9) ∧ ∀ j, j < 4 → ∃ s : ByteArray, s.size ≤ maxLen ∧ cs[j]? = some (.string s))) (fun _ iv _ => 4 - (intOf iv).toNat)
  case atStart => exact ⟨0, _, 0, [], by omega, rfl, rfl, by simp, Lib.hid (owns_ext (owns_empty w 30 3) ((Ext.refl _).alloc _)), Lib.hid (fun y hy => by cases hy), Lib.hid ((((Ext.refl w).alloc _).alloc _).turned _ _), Lib.hid (HCi.out.ext (((Ext.refl w).alloc _).alloc _)), Lib.hid ⟨_, heap_box _ _ (by simp) _, fun j hj => by
    have : j = 0 ∨ j = 1 ∨ j = 2 ∨ j = 3 := by omega
    rcases this with rfl | rfl | rfl | rfl <;> (refine ⟨_, ?_, rfl⟩; unfold maxLen; decide)⟩⟩
  case round =>
    obtain ⟨k, A1, c1, acc, hk, rfl, rfl, hlen, HO0, HIN, HT0, HC0, HBX⟩ := hrel
    obtain ⟨cs, hxx, hst⟩ := HBX.out
    have HX0 := Lib.hid hxx
    have HST := Lib.hid hst
    have hs0 := HT0.out.le
    clear hxx hst HBX
    by_cases hlt : k < 4
    · obtain ⟨s, hsm, hcs⟩ := HST.out k hlt
      have hw0 := cell_block HX0.out k _ hcs
      clear hcs
      go_wp2_with fail
      refine (HB.out 4 (H9.out _ (by omega) (by omega)) _ HC0.out).mono ?_
      rintro e w1 ⟨v1, rfl, ⟨hv1a, hv1b⟩, ht1, hc1⟩
      have HT1 := Lib.hid (HT0.out.trans ht1)
      have HC1 := Lib.hid hc1
      have hs1 := HT1.out.le
      have HO1 := Lib.hid (ownsT HO0.out ht1 (by omega))
      have HX1 := Lib.hid (heapT ht1 HX0.out (by omega))
      clear ht1 hc1
      clear hw0
      by_cases hv : v1 = 0
      · subst hv
        go_wp2
        go_roundw
        case rel => exact ⟨k + 1, A1, c1, acc, by omega, by go_num, rfl, by omega, HO1, HIN, HT1, HC1, Lib.hid ⟨cs, HX1.out, HST.out⟩⟩
        case measure => simp [intOf]; omega
      have hv1 : 0 < v1 := by omega
      go_wp2_with fail
      refine (HB.out 5 (H9.out _ (by omega) (by omega)) _ HC1.out).mono ?_
      rintro e w2 ⟨v2, rfl, ⟨hv2a, hv2b⟩, ht2, hc2⟩
      have HT2 := Lib.hid (HT1.out.trans ht2)
      have HC2 := Lib.hid hc2
      have hs2 := HT2.out.le
      have HO2 := Lib.hid (ownsT HO1.out ht2 (by omega))
      have HX2 := Lib.hid (heapT ht2 HX1.out (by omega))
      clear ht2 hc2
      go_wp2_with fail
      refine (HB.out 30 (H9.out _ (by omega) (by omega)) _ HC2.out).mono ?_
      rintro e w3 ⟨v3, rfl, ⟨hv3a, hv3b⟩, ht3, hc3⟩
      have HT3 := Lib.hid (HT2.out.trans ht3)
      have HC3 := Lib.hid hc3
      have hs3 := HT3.out.le
      have HO3 := Lib.hid (ownsT HO2.out ht3 (by omega))
      have HX3 := Lib.hid (heapT ht3 HX2.out (by omega))
      clear ht3 hc3
      have HQ3 := Lib.hid HO3.out.lt
      go_wp2_with fail
      refine (HB.out 9 (H9.out _ (by omega) (by omega)) _ (HC3.out.ext ((Ext.refl w3).alloc _))).mono ?_
      rintro e w4 ⟨v4, rfl, ⟨hv4a, hv4b⟩, ht4, hc4⟩
      have HT4 := Lib.hid ((HT3.out.ext ((Ext.refl w3).alloc _)).trans ht4)
      have HC4 := Lib.hid hc4
      have hs4 := HT4.out.le
      have HO4 := Lib.hid (ownsT (owns_ext HO3.out ((Ext.refl w3).alloc _)) ht4 (by omega))
      have HX4 := Lib.hid (heapT ht4 (heapE ((Ext.refl w3).alloc _) HX3.out) (by omega))
      have kb0 := cellT ht4 (dcell_box w3 [.string s, .int .i64 (1 + v2), .int .i64 v3] 30 0 _ rfl) (by omega)
      have kb1 := cellT ht4 (dcell_box w3 [.string s, .int .i64 (1 + v2), .int .i64 v3] 30 1 _ rfl) (by omega)
      have kb2 := cellT ht4 (dcell_box w3 [.string s, .int .i64 (1 + v2), .int .i64 v3] 30 2 _ rfl) (by omega)
      have kf2 := frozenT ht4 (dfrozen_box w3 [.string s, .int .i64 (1 + v2), .int .i64 v3] 30 2) (by simp) (by omega)
      have hl34 : w3.heap.size < w4.heap.size := (by have := ht4.le; simp at this; omega)
      clear ht4 hc4
      by_cases hv9 : v4 = 0
      · subst hv9
        go_wp2_with fail
        refine (HB.out 3 (H9.out _ (by omega) (by omega)) _ HC4.out).mono ?_
        rintro e w5 ⟨v5, rfl, ⟨hv5a, hv5b⟩, ht5, hc5⟩
        have HT5 := Lib.hid (HT4.out.trans ht5)
        have HC5 := Lib.hid hc5
        have hs5 := HT5.out.le
        have HO5 := Lib.hid (ownsT HO4.out ht5 (by omega))
        replace kb0 := cellT ht5 kb0 (by omega)
        replace kb1 := cellT ht5 kb1 (by omega)
        replace kb2 := cellT ht5 kb2 (by omega)
        have HX5 := Lib.hid (heapT ht5 HX4.out (by omega))
        replace kf2 := frozenT ht5 kf2 (hl34) (by omega)
        clear ht5 hc5
        have HO6 := Lib.hid (owns_other HO5.out (p := ⟨w3.heap.size, 2, none⟩) (fun q hq => by have := (HQ3.out q hq).2; simp only []; omega) (.int .i64 (1000000000 - v5)))
        have HT6 := Lib.hid (turned_own (j := 2) (u := .int .i64 (1000000000 - v5)) HT5.out (show w.heap.size ≤ w3.heap.size by omega))
        have HC6 := Lib.hid (HC5.out.put (j := 2) (u := .int .i64 (1000000000 - v5)) (show g < w3.heap.size by omega))
        have hl1 := heap_lt HX3.out
        have HX6 := Lib.hid (show (w5.setCell ⟨w3.heap.size, 2, none⟩ (.int .i64 (1000000000 - v5))).heap[w.heap.size + 1]? = some (.cells cs.toArray 9) from (Below.heap_setCell _ _ _ _ (by simp only []; omega)).trans HX5.out)
        have hs6 := HT6.out.le
        have HV6 := Lib.hid (show (⟨s, 1 + v2, 1000000000 - v5⟩ : Account).ok from ⟨hsm, in64_of (n := 1 + v2) (by omega) (by omega), in64_of (n := 1000000000 - v5) (by omega) (by omega)⟩)
        go_wp2_with (at_builtin; go_must (refine wpList_append_one_t (.tmp 31) (.tmp 33) _ w.heap.size 30 i0 _ 3 32 _ acc.length _ (Account.enc ⟨s, 1 + v2, 1000000000 - v5⟩) rfl rfl Try.underlying23 hi hI0 hI1 hI2 rfl (by omega) rfl (HO6.out) _ rfl (by first | rfl | simp) rfl (Account.one _) (by unfold maxLen; omega) (by omega) hs6 ?_); intro A7 c7 w7 ho7 ht7 hs7 hk7)
        have HO7 := Lib.hid (own_snoc ho7)
        have HT7 := Lib.hid (turned_low HT6.out ht7 (Nat.le_refl _))
        have HC7 := Lib.hid (HC6.out.keep ht7 hgw)
        have HX7 := Lib.hid (hk7 _ _ _ (by decide) HX6.out)
        have HIN7 := Lib.hid (all_snoc HIN.out HV6.out)
        clear ho7 ht7 hk7
        go_wp2
        go_roundw
        case rel => exact ⟨k + 1, A7, c7, _, by omega, by go_num, by simp, by simp; omega, HO7, HIN7, HT7, HC7, Lib.hid ⟨cs, HX7.out, HST.out⟩⟩
        case measure => simp [intOf]; omega
      · have HV6 := Lib.hid (show (⟨s, 1 + v2, v3⟩ : Account).ok from ⟨hsm, in64_of (n := 1 + v2) (by omega) (by omega), in64_of (n := v3) (by omega) (by omega)⟩)
        go_wp2_with (at_builtin; go_must (refine wpList_append_one_t (.tmp 31) (.tmp 33) _ w.heap.size 30 i0 _ 3 32 _ acc.length _ (Account.enc ⟨s, 1 + v2, v3⟩) rfl rfl Try.underlying23 hi hI0 hI1 hI2 rfl (by omega) rfl (HO4.out) _ rfl (by first | rfl | simp) rfl (Account.one _) (by unfold maxLen; omega) (by omega) hs4 ?_); intro A7 c7 w7 ho7 ht7 hs7 hk7)
        have HO7 := Lib.hid (own_snoc ho7)
        have HT7 := Lib.hid (turned_low HT4.out ht7 (Nat.le_refl _))
        have HC7 := Lib.hid (HC4.out.keep ht7 hgw)
        have HX7 := Lib.hid (hk7 _ _ _ (by decide) HX4.out)
        have HIN7 := Lib.hid (all_snoc HIN.out HV6.out)
        clear ho7 ht7 hk7
        go_wp2
        go_roundw
        case rel => exact ⟨k + 1, A7, c7, _, by omega, by go_num, by simp, by simp; omega, HO7, HIN7, HT7, HC7, Lib.hid ⟨cs, HX7.out, HST.out⟩⟩
        case measure => simp [intOf]; omega
    · have HR := Lib.hid (show RetAccts 4 w g (.returned (.slice A1 acc.length c1)) wr from ⟨A1, c1, acc, rfl, HO0.out, HIN.out, by omega, HT0.out, HC0.out⟩)
      clear HX0 HST
      go_wp2
      exact ret_post rfl HR.out
end Go.Proofs.Ytbfambeoboiifaa
