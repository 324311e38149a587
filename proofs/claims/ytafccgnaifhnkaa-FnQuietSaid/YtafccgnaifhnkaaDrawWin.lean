/- Contracts of the draws: some nodes. -/
import Derived.Test.YtafccgnaifhnkaaDrawTopo2
namespace Go.Proofs.Ytafccgnaifhnkaa
open Go.RowKit
set_option linter.unusedVariables false
abbrev RetIntsD := RetRowD encInt In64 3 1
set_option maxHeartbeats 4000000 in
set_option maxRecDepth 10000 in
theorem l02Some_c (g : Nat) (w : World) (hc : Cur w g) (A : Option Addr) (n c : Nat) (B : Option Addr) (m d : Nat) (hm : m ≤ 10) : Calls Try.prog 55 #[.pointer (some ⟨g, 0, none⟩), .agg #[.slice A n c, .slice B m d]] w (RetIntsD 5 w g) := by
  obtain ⟨i0, hi, hI0, hI1, hI2⟩ := info_parts TInt.info
  have hgw := hc.lt
  have HB := Lib.hid (fun (n : Int) (hn : In64 n) (u : World) (hu : Cur u g) => l01Below_c g n u hu hn)
  have HR := Lib.hid (fun (u : World) (hu : Cur u g) => l01Raw_c g u hu)
  have H9 : Hid (∀ n : Int, -1000000 ≤ n → n ≤ 1000000 → In64 n) := Lib.hid (fun n h1 h2 => by unfold In64; omega)
  have HC0 := Lib.hid (hc.ext (((Ext.refl w).alloc (.cells #[.slice A n c, .slice B m d] 32)).alloc (.cells #[] 3)))
  have HT0 := Lib.hid ((((Ext.refl w).alloc (.cells #[.slice A n c, .slice B m d] 32)).alloc (.cells #[] 3)).turned g (g + 1))
  have HX0 := Lib.hid (heapE ((Ext.refl _).alloc (.cells #[] 3)) (heap_alloc_new w (.cells #[.slice A n c, .slice B m d] 32)))
  have HO0 := Lib.hid (owns_base (owns_empty (w.alloc (.cells #[.slice A n c, .slice B m d] 32)) 3 1) (show w.heap.size ≤ _ by simp))
  clear hc
  go_enter Try.func55, Try.ntmps55
  go_wp2_with fail
  refine (HB.out 5 (H9.out _ (by omega) (by omega)) _ HC0.out).mono ?_
  rintro e w1 ⟨v1, rfl, ⟨hv1a, hv1b⟩, ht1, hc1⟩
  have HT1 := Lib.hid (HT0.out.trans ht1)
  have HC1 := Lib.hid hc1
  have HX1 := Lib.hid (heapT ht1 HX0.out (by omega))
  have HO1 := Lib.hid (ownsT HO0.out ht1 (by omega))
  clear ht1 hc1
  go_wp2
  go_loopw [5, 6] (fun l nv wr => ∃ (v : Int) (A1 : Option Addr) (p c1 : Nat) (acc : List Int), 0 ≤ v ∧ v ≤ 5 ∧ nv = .int .i64 v ∧ l = .slice A1 p c1 ∧ p + v ≤ 4 ∧ Hid (acc.length = p) ∧ Hid (wr.ownsRow w.heap.size 3 1 (.slice A1 p c1) p (acc.flatMap encInt)) ∧ Hid (∀ y ∈ acc, In64 y) ∧ Hid (Turned g (g + 1) w wr) ∧ Hid (Cur wr g) ∧ Hid (wr.heap[w.heap.size]? = some (.cells #[.slice A n c, .slice B m d] 32))) (fun _ nv _ => (intOf nv).toNat)
  case atStart => exact ⟨v1, _, 0, _, [], hv1a, by omega, rfl, rfl, by omega, Lib.hid rfl, Lib.hid (by simpa using HO1.out), Lib.hid (fun y hy => by cases hy), HT1, HC1, HX1⟩
  case round =>
    obtain ⟨v, A1, p, c1, acc, hv0, hv5, rfl, rfl, hpv, HL, HO0', HIN, HT0', HC0', HX0'⟩ := hrel
    have x1 := cell_block (cs := [.slice A n c, .slice B m d]) HX0'.out 1 _ rfl
    have hlx := lt_of_cell x1
    have hs0 := HT0'.out.le
    by_cases hv : 0 < v
    · go_wp2_with fail
      refine (HB.out m (H9.out _ (by omega) (by omega)) _ HC0'.out).mono ?_
      rintro e w2 ⟨v2, rfl, ⟨hv2a, hv2b⟩, ht2, hc2⟩
      have HT2 := Lib.hid (HT0'.out.trans ht2)
      have HC2 := Lib.hid hc2
      have HX2 := Lib.hid (heapT ht2 HX0'.out (by omega))
      have HO2 := Lib.hid (ownsT HO0'.out ht2 (by omega))
      have hs2 := HT2.out.le
      clear ht2 hc2 x1 hlx
      go_wp2_with (at_builtin; go_must (refine wpList_append_one_t (.tmp 14) (.tmp 20) _ w.heap.size 3 i0 _ 1 8 _ p _ (encInt v2) rfl rfl Try.underlying22 hi hI0 hI1 hI2 rfl (by omega) rfl (HO2.out) _ rfl (by first | rfl | simp) rfl (TInt.one _) (by unfold maxLen; omega) (by omega) hs2 ?_); intro A7 c7 w7 ho7 ht7 hs7 hk7)
      have HO7 := Lib.hid ho7
      have HT7 := Lib.hid (turned_low HT2.out ht7 (Nat.le_refl _))
      have HC7 := Lib.hid (HC2.out.keep ht7 hgw)
      have HX7 := Lib.hid (hk7 _ _ _ (by decide) HX2.out)
      have HIN7 := Lib.hid (all_snoc (ok := In64) HIN.out (in64_of (n := v2) (by omega) (by omega)))
      clear ho7 ht7 hk7
      go_wp2
      go_roundw
      case rel => exact ⟨v - 1, A7, p + 1, c7, acc ++ [v2], by omega, by omega, by go_num, rfl, by omega, Lib.hid (by rw [List.length_append, HL.out]; rfl), Lib.hid (by rw [List.flatMap_append]; simpa using HO7.out), HIN7, HT7, HC7, HX7⟩
      case measure => simp [intOf]; omega
    · clear x1 hlx
      go_wp2_with fail
      refine (HB.out 10 (H9.out _ (by omega) (by omega)) _ HC0'.out).mono ?_
      rintro e w2 ⟨v2, rfl, ⟨hv2a, hv2b⟩, ht2, hc2⟩
      have HT2 := Lib.hid (HT0'.out.trans ht2)
      have HC2 := Lib.hid hc2
      have HO2 := Lib.hid (ownsT HO0'.out ht2 (by omega))
      have hs2 := HT2.out.le
      clear ht2 hc2
      by_cases h0 : v2 = 0
      · subst h0
        go_wp2_with fail
        refine (HR.out _ HC2.out).mono ?_
        rintro e w3 ⟨v3, rfl, hv3, ht3, hc3⟩
        have HT3 := Lib.hid (HT2.out.trans ht3)
        have HC3 := Lib.hid hc3
        have HO3 := Lib.hid (ownsT HO2.out ht3 (by omega))
        have HV3 := Lib.hid hv3
        have hs3 := HT3.out.le
        clear ht3 hc3 hv3
        go_wp2_with (at_builtin; go_must (refine wpList_append_one_t (.tmp 25) (.tmp 28) _ w.heap.size 3 i0 _ 1 8 _ p _ (encInt v3) rfl rfl Try.underlying22 hi hI0 hI1 hI2 rfl (by omega) rfl (HO3.out) _ rfl (by first | rfl | simp) rfl (TInt.one _) (by unfold maxLen; omega) (by omega) hs3 ?_); intro A7 c7 w7 ho7 ht7 hs7 hk7)
        have HRR := Lib.hid (show RetIntsD 5 w g (.returned (.slice A7 (p + 1) c7)) w7 from ⟨A7, c7, acc ++ [v3], by rw [List.length_append, HL.out]; rfl, by rw [List.flatMap_append, List.length_append, HL.out]; simpa using ho7, all_snoc (ok := In64) HIN.out HV3.out, by rw [List.length_append, HL.out]; simp; omega, turned_low HT3.out ht7 (Nat.le_refl _), HC3.out.keep ht7 hgw⟩)
        clear ho7 ht7 hk7
        go_wp2
        exact ret_post rfl HRR.out
      · have HRR := Lib.hid (show RetIntsD 5 w g (.returned (.slice A1 p c1)) w2 from ⟨A1, c1, acc, by rw [HL.out], by rw [HL.out]; exact HO2.out, HIN.out, by rw [HL.out]; omega, HT2.out, HC2.out⟩)
        go_wp2
        exact ret_post rfl HRR.out
end Go.Proofs.Ytafccgnaifhnkaa
