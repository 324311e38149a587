/- Contracts of the draws: dependencies and numbers of jobs. -/
import Derived.Test.YtgnbjnlcikpknaaDrawDeps2
namespace Go.Proofs.Ytgnbjnlcikpknaa
open Go.RowKit
set_option linter.unusedVariables false
abbrev RetInts := RetRowD encInt In64 3 1
theorem DWInt.one (y : Int) : ∀ u ∈ encInt y, u.oneCell' = true := by
  intro u hu; simp [encInt] at hu; subst hu; rfl
theorem DWInt.info : (Try.prog.info? 3).map (fun i => (i.zero, i.size, i.bytes)) = some (some (.int .i64 0), 1, 8) := by kernel_rfl
theorem row_cap {w : World} {base n c : Nat} {e : TypeId} {sz : Nat} {A : Option Addr} {L : List Value} (h : w.ownsRow base e sz (.slice A n c) n L) : n ≤ c := by
  rcases h.2 with ⟨_, h0⟩ | ⟨g, cap, cur, hv, _, _, h1, _⟩
  · omega
  · injection hv with _ _ e; omega
set_option maxHeartbeats 4000000 in
set_option maxRecDepth 8000 in
theorem l12List_c (g : Nat) (w : World) (hc : Cur w g) : Calls Try.prog 32 #[.pointer (some ⟨g, 0, none⟩)] w (RetInts 6 w g) := by
  obtain ⟨i0, hi, hI0, hI1, hI2⟩ := info_parts DWInt.info
  have hgw := hc.lt
  have HB := Lib.hid (fun (n : Int) (hn : In64 n) (u : World) (hu : Cur u g) => l01Below_c g n u hu hn)
  have HON := Lib.hid (fun (u : World) (hu : Cur u g) => l12One_c g u hu)
  have HCi := Lib.hid (hc.ext ((Ext.refl w).alloc (.cells #[] 3)))
  have HC0 := HCi
  have HT0 := Lib.hid (((Ext.refl w).alloc (.cells #[] 3)).turned g (g + 1))
  have HO0 := Lib.hid (owns_empty w 3 1)
  clear hc
  have H9 : Hid (∀ n : Int, -1000000 ≤ n → n ≤ 1000000 → In64 n) := Lib.hid (fun n h1 h2 => by unfold In64; omega)
  go_enter Try.func32, Try.ntmps32
  go_wp2_with fail
  refine (HB.out 7 (H9.out _ (by omega) (by omega)) _ HC0.out).mono ?_
  rintro e w1 ⟨v1, rfl, ⟨hv1a, hv1b⟩, ht1, hc1⟩
  have HT1 := Lib.hid (HT0.out.trans ht1)
  have HC1 := Lib.hid hc1
  have hs1 := HT1.out.le
  have HO1 := Lib.hid (ownsT HO0.out ht1 (by omega))
  clear ht1 hc1
  go_wp2
  go_loopw [3, 4] (fun l nv wr => ∃ (m : Int) (A1 : Option Addr) (c1 : Nat) (acc : List Int), 0 ≤ m ∧ nv = .int .i64 m ∧ l = .slice A1 acc.length c1 ∧ (acc.length : Int) + m ≤ 6 ∧ Hid (wr.ownsRow w.heap.size 3 1 (.slice A1 acc.length c1) acc.length (acc.flatMap encInt)) ∧ Hid (∀ y ∈ acc, In64 y) ∧ Hid (Turned g (g + 1) w wr) ∧ Hid (Cur wr g)) (fun _ nv _ => (intOf nv).toNat)
  case atStart => exact ⟨v1, _, 0, [], by omega, rfl, rfl, by simp; omega, Lib.hid (by simpa using HO1.out), Lib.hid (fun y hy => by cases hy), HT1, HC1⟩
  case round =>
    clear HO0 HT0 HC0 HO1 HT1 HC1 HCi hs1
    obtain ⟨m, A1, c1, acc, hm, rfl, rfl, hlen, HO0, HIN, HT0, HC0⟩ := hrel
    have hs0 := HT0.out.le
    by_cases hlt : 0 < m
    · go_wp2_with fail
      refine (HON.out _ HC0.out).mono ?_
      rintro e w2 ⟨v2, rfl, hv2, ht2, hc2⟩
      have HT2 := Lib.hid (HT0.out.trans ht2)
      have HC2 := Lib.hid hc2
      have hs2 := HT2.out.le
      have HO2 := Lib.hid (ownsT HO0.out ht2 (by omega))
      clear ht2 hc2
      have HV2 := Lib.hid hv2
      have hi2 : In64 v2 := hv2
      clear hv2
      have HSA := Lib.hid (l02Has_c acc v2 A1 acc.length c1 w2 (rowD_sl encInt_size HO2.out HIN.out) (by unfold maxLen; omega))
      have HIN4 := Lib.hid (all_snoc HIN.out HV2.out)
      rcases Bool.eq_false_or_eq_true (acc.contains v2) with h1 | h1
      all_goals rw [h1] at HSA
      · go_wp2_with fail
        refine HSA.out.mono ?_
        rintro e w3 ⟨rfl, hb3⟩
        have HO3 := Lib.hid (owns_ext HO2.out hb3)
        have HT3 := Lib.hid (HT2.out.ext hb3)
        have HC3 := Lib.hid (HC2.out.ext hb3)
        have hs3 := HT3.out.le
        clear hb3 h1
        go_wp2_with fail
        refine (HB.out 20 (H9.out _ (by omega) (by omega)) _ HC3.out).mono ?_
        rintro e w4 ⟨v4, rfl, ⟨hv4a, hv4b⟩, ht4, hc4⟩
        have HT4 := Lib.hid (HT3.out.trans ht4)
        have HC4 := Lib.hid hc4
        have hs4 := HT4.out.le
        have HO4 := Lib.hid (ownsT HO3.out ht4 (by omega))
        clear ht4 hc4
        by_cases hy : v4 = 0
        · subst hy
          go_wp2_with (at_builtin; go_must (refine wpList_append_one_t (.tmp 24) (.tmp 26) _ w.heap.size 3 i0 _ 1 8 _ acc.length _ (encInt v2) rfl rfl Try.underlying24 hi hI0 hI1 hI2 rfl (by omega) rfl (HO4.out) _ rfl (by first | rfl | simp) rfl (DWInt.one _) (by unfold maxLen; omega) (by omega) HT4.out.le ?_); intro A7 c7 w7 ho7 ht7 hs7 hk7)
          have HO7 := Lib.hid (own_snoc ho7)
          have HT7 := Lib.hid (turned_low HT4.out ht7 (Nat.le_refl _))
          have HC7 := Lib.hid (HC4.out.keep ht7 (by omega))
          clear ho7 ht7 hk7
          go_wp2
          go_roundw
          case rel => exact ⟨m - 1, A7, c7, _, by omega, by go_num, by simp, by simp; omega, HO7, HIN4, HT7, HC7⟩
          case measure => simp [intOf]; omega
        · have hyb : (v4 == 0) = false := by rw [beq_eq_false_iff_ne]; exact hy
          clear hy
          go_wp2
          go_roundw
          case rel => exact ⟨m - 1, A1, c1, acc, by omega, by go_num, rfl, by omega, HO4, HIN, HT4, HC4⟩
          case measure => simp [intOf]; omega
      · go_wp2_with (first | (go_at_call 40; (with_reducible refine (HSA.out).mono ?_); rintro e w3 ⟨rfl, hb3⟩; have HO3 := Lib.hid (owns_ext HO2.out hb3); have HT3 := Lib.hid (HT2.out.ext hb3); have HC3 := Lib.hid (HC2.out.ext hb3); have hs3 := HT3.out.le) | (at_builtin; go_must (refine wpList_append_one_t (.tmp 24) (.tmp 26) _ w.heap.size 3 i0 _ 1 8 _ acc.length _ (encInt v2) rfl rfl Try.underlying24 hi hI0 hI1 hI2 rfl (by omega) rfl (HO3.out) _ rfl (by first | rfl | simp) rfl (DWInt.one _) (by unfold maxLen; omega) (by omega) HT3.out.le ?_); intro A7 c7 w7 ho7 ht7 hs7 hk7))
        have HO7 := Lib.hid (own_snoc ho7)
        have HT7 := Lib.hid (turned_low HT3.out ht7 (Nat.le_refl _))
        have HC7 := Lib.hid (HC3.out.keep ht7 (by omega))
        clear ho7 ht7 hk7
        go_wp2
        go_roundw
        case rel => exact ⟨m - 1, A7, c7, _, by omega, by go_num, by simp, by simp; omega, HO7, HIN4, HT7, HC7⟩
        case measure => simp [intOf]; omega
    · have HRR := Lib.hid (show RetInts 6 w g (.returned (.slice A1 acc.length c1)) wr from ⟨A1, c1, acc, rfl, HO0.out, HIN.out, by omega, HT0.out, HC0.out⟩)
      go_wp2
      exact ret_post rfl HRR.out
def RetDrawWaves (w : World) : Ending → World → Prop := fun e w' => ∃ (A : Option Addr) (c : Nat) (xs : List Dep) (A2 : Option Addr) (c2 : Nat) (ids : List Int), e = .returned (.tuple #[.slice A xs.length c, .slice A2 ids.length c2]) ∧ SlAt RDep 2 w' A xs.length xs ∧ xs.length ≤ 100 ∧ SlAt RInt 1 w' A2 ids.length ids ∧ ids.length ≤ 100 ∧ ids.length ≤ c2 ∧ Ext w w'
set_option maxHeartbeats 4000000 in
set_option maxRecDepth 20000 in
theorem DrawWaves_c (bs : List Int) (A : Option Addr) (n c : Nat) (w : World) (hs : SlAt RU8 1 w A n bs) (hn : n ≤ 1048576) : Calls Try.prog 7 #[.slice A n c] w (RetDrawWaves w) := by
  have HN := Lib.hid (l01New_c bs A n c w hs hn)
  clear hs
  go_enter Try.func7, Try.ntmps7
  go_wp2_with fail
  refine HN.out.mono ?_
  rintro e w0 ⟨g, rfl, hg, hb0, hc0⟩
  have hg1 : g < w0.heap.size := hc0.lt
  have HE0 := Lib.hid hb0
  go_wp2_with fail
  refine (l12Any_c g _ hc0).mono ?_
  rintro e w1 ⟨A2, c2, xs, rfl, ho1, hin, hl2, ht1, hc1⟩
  have HO1 := Lib.hid ho1
  have HIN := Lib.hid hin
  have HT1 := Lib.hid ht1
  have HC1 := Lib.hid hc1
  have hs1 := HT1.out.le
  clear ho1 hin ht1 hc1 hc0 hb0
  go_wp2_with fail
  refine (l12List_c g _ HC1.out).mono ?_
  rintro e w2 ⟨A3, c3, ids, rfl, ho2, hin2, hl3, ht2, hc2⟩
  have HRR := Lib.hid (show RetDrawWaves w (.returned (.tuple #[.slice A2 xs.length c2, .slice A3 ids.length c3])) w2 from ⟨A2, c2, xs, A3, c3, ids, rfl, rowD_sl Dep.size (ownsT HO1.out ht2 (by omega)) HIN.out, by omega, rowD_sl encInt_size ho2 hin2, by omega, row_cap ho2, ext_turned HE0.out (HT1.out.trans ht2) hg⟩)
  clear ho2 hin2 ht2 hc2
  go_wp2
  exact bodyPost_ret (v := .tuple #[.slice A2 xs.length c2, .slice A3 ids.length c3]) (by simp [results, Try.results7, go_sem]) rfl HRR.out
end Go.Proofs.Ytgnbjnlcikpknaa
