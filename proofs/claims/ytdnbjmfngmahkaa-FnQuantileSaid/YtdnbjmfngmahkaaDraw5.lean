/- Contracts of the draws: a list of times. -/
import Derived.Test.YtdnbjmfngmahkaaDraw6
namespace Go.Proofs.Ytdnbjmfngmahkaa
open Go.RowKit
set_option linter.unusedVariables false
theorem ownsT {w w' : World} {base lo hi : Nat} {e : TypeId} {sz n : Nat} {v : Value} {L : List Value} (h : w.ownsRow base e sz v n L) (ht : Turned lo hi w w') (hd : hi ≤ base) : w'.ownsRow base e sz v n L := by
  have hlt := h.lt
  obtain ⟨h1, h2⟩ := h
  refine ⟨h1, ?_⟩
  rcases h2 with h2 | ⟨g, cap, cur, rfl, hg, hh, r⟩
  · exact .inl h2
  · exact .inr ⟨g, cap, cur, rfl, hg, (ht.block g (hlt g rfl).2 (.inr (Nat.le_trans hd hg))).trans hh, r⟩
/-- A call hands back a list of numbers in new memory; of what was, only the cursor has turned. -/
def RetList (w : World) (g : Nat) : Ending → World → Prop := fun e w' => ∃ (A : Option Addr) (c : Nat) (xs : List Int), e = .returned (.slice A xs.length c) ∧ SlAt RInt 1 w' A xs.length xs ∧ xs.length ≤ 1001 ∧ (0 < xs.length → ∀ b o, A = some ⟨b, o, none⟩ → w.heap.size ≤ b) ∧ Turned g (g + 1) w w' ∧ Cur w' g
theorem list_of_own {w : World} {base c : Nat} {A : Option Addr} {xs : List Int} (h : w.ownsRow base 3 1 (.slice A xs.length c) xs.length (xs.flatMap encInt)) (hok : ∀ y ∈ xs, In64 y) : SlAt RInt 1 w A xs.length xs ∧ (0 < xs.length → ∀ b o, A = some ⟨b, o, none⟩ → base ≤ b) :=
  ⟨(OwnAt.flat (enc := encInt) (ok := In64) (fun _ => rfl) hok h).slAt, fun _ b o e => (h.lt b (by rw [e]; rfl)).1⟩
set_option maxHeartbeats 4000000 in
set_option maxRecDepth 20000 in
theorem l16Any_c (g : Nat) (w : World) (hc : Cur w g) : Calls Try.prog 10 #[.pointer (some ⟨g, 0, none⟩)] w (RetList w g) := by
  obtain ⟨i0, hi, hI0, hI1, hI2⟩ := info_parts DInt.info
  have hgw := hc.lt
  have HB := Lib.hid (fun (n : Int) (hn : In64 n) (u : World) (hu : Cur u g) => l01Below_c g n u hu hn)
  have HR := Lib.hid (fun (u : World) (hu : Cur u g) => l01Raw_c g u hu)
  have HC0 := Lib.hid (hc.keep (((Ext.refl w).alloc (.cells #[] 3)).turned (g + 1) (g + 1)) (Nat.lt_succ_self g))
  clear hc
  go_enter Try.func10, Try.ntmps10
  go_wp2_with fail
  refine (HB.out 8 (by unfold In64; omega) _ HC0.out).mono ?_
  rintro e w1 ⟨m0, rfl, ⟨hm0, hm1⟩, ht1, hc1⟩
  have HT1 := Lib.hid ((((Ext.refl w).alloc (.cells #[] 3)).turned g (g + 1)).trans ht1)
  have HO1 := Lib.hid (ownsT (owns_empty w 3 1) ht1 (by omega))
  have HC1 := Lib.hid hc1
  clear ht1 hc1
  go_wp2
  go_loopw [3, 4] (fun l nv wr => ∃ (m : Int) (A1 : Option Addr) (c1 : Nat) (acc : List Int), 0 ≤ m ∧ nv = .int .i64 m ∧ l = .slice A1 acc.length c1 ∧ (acc.length : Int) + m ≤ 7 ∧ Hid (wr.ownsRow w.heap.size 3 1 (.slice A1 acc.length c1) acc.length (acc.flatMap encInt)) ∧ Hid (∀ y ∈ acc, In64 y) ∧ Hid (Turned g (g + 1) w wr) ∧ Hid (Cur wr g) ∧ w.heap.size ≤ wr.heap.size) (fun _ nv _ => (intOf nv).toNat)
  case atStart => exact ⟨m0, _, 0, [], hm0, rfl, rfl, by simp; omega, HO1, Lib.hid (fun y hy => by cases hy), HT1, HC1, HT1.out.le⟩
  case round =>
    obtain ⟨m, A1, c1, acc, hm, rfl, rfl, hlen, HO, HIN, HT, HC, hsz⟩ := hrel
    by_cases hm0 : 0 < m
    · go_wp2_with fail
      refine (HB.out 20 (by unfold In64; omega) _ HC.out).mono ?_
      rintro e w2 ⟨v, rfl, ⟨hv0, hv1⟩, ht2, hc2⟩
      have HO2 := Lib.hid (ownsT HO.out ht2 (by omega))
      have HT2 := Lib.hid (HT.out.trans ht2)
      have HC2 := Lib.hid hc2
      have hs2 : w.heap.size ≤ w2.heap.size := Nat.le_trans hsz ht2.le
      clear ht2 hc2
      go_wp2_with (at_builtin; go_must (refine wpList_append_one_t (.tmp 12) (.tmp 15) _ w.heap.size 3 i0 _ 1 8 _ acc.length _ (encInt v) rfl rfl Try.underlying23 hi hI0 hI1 hI2 rfl (by omega) rfl (HO2.out) _ rfl (by first | rfl | simp) rfl (DInt.one _) (by unfold maxLen; omega) (by omega) hs2 ?_); intro A4 c4 w4 ho4 ht4 hs4)
      have HO4 := Lib.hid ho4
      have HT4 := Lib.hid (turned_low HT2.out ht4 (Nat.le_refl _))
      have HC4 := Lib.hid (HC2.out.keep ht4 hgw)
      clear ho4 ht4
      go_wp2
      go_roundw
      case rel => exact ⟨m - 1, A4, c4, acc ++ [v], by omega, by go_num, by simp, by simp; omega, Lib.hid (by rw [List.flatMap_append, List.length_append]; simpa using HO4.out), Lib.hid (fun y hy => by
          rcases List.mem_append.1 hy with hy | hy
          · exact HIN.out y hy
          · rw [List.mem_singleton.1 hy]; unfold In64; omega), HT4, HC4, by omega⟩
      case measure => simp [intOf]; omega
    · go_wp2_with fail
      refine (HB.out 8 (by unfold In64; omega) _ HC.out).mono ?_
      rintro e w2 ⟨v, rfl, ⟨hv0, hv1⟩, ht2, hc2⟩
      have HO2 := Lib.hid (ownsT HO.out ht2 (by omega))
      have HT2 := Lib.hid (HT.out.trans ht2)
      have HC2 := Lib.hid hc2
      have hs2 : w.heap.size ≤ w2.heap.size := Nat.le_trans hsz ht2.le
      clear ht2 hc2
      by_cases hv : v = 0
      · subst hv
        go_wp2_with fail
        refine (HR.out _ HC2.out).mono ?_
        rintro e w3 ⟨v, rfl, hv, ht3, hc3⟩
        have HO3 := Lib.hid (ownsT HO2.out ht3 (by omega))
        have HT3 := Lib.hid (HT2.out.trans ht3)
        have HC3 := Lib.hid hc3
        have hs3 : w.heap.size ≤ w3.heap.size := Nat.le_trans hs2 ht3.le
        have HV := Lib.hid hv
        clear ht3 hc3 hv
        go_wp2_with (at_builtin; go_must (refine wpList_append_one_t (.tmp 20) (.tmp 23) _ w.heap.size 3 i0 _ 1 8 _ acc.length _ (encInt v) rfl rfl Try.underlying23 hi hI0 hI1 hI2 rfl (by omega) rfl (HO3.out) _ rfl (by first | rfl | simp) rfl (DInt.one _) (by unfold maxLen; omega) (by omega) hs3 ?_); intro A4 c4 w4 ho4 ht4 hs4')
        have HO4 := Lib.hid ho4
        have HT4 := Lib.hid (turned_low HT3.out ht4 (Nat.le_refl _))
        have HC4 := Lib.hid (HC3.out.keep ht4 hgw)
        have hs4 : w.heap.size ≤ w4.heap.size := by omega
        have HIN4 := Lib.hid (show ∀ y ∈ acc ++ [v], In64 y from fun y hy => by
          rcases List.mem_append.1 hy with hy | hy
          · exact HIN.out y hy
          · rw [List.mem_singleton.1 hy]; exact HV.out)
        clear ho4 ht4
        go_wp2_with fail
        refine (HB.out 40 (by unfold In64; omega) _ HC4.out).mono ?_
        rintro e w5 ⟨j, rfl, ⟨hj0, hj1⟩, ht5, hc5⟩
        have HO5 := Lib.hid (ownsT HO4.out ht5 (by omega))
        have HT5 := Lib.hid (HT4.out.trans ht5)
        have HC5 := Lib.hid hc5
        have hs5 : w.heap.size ≤ w5.heap.size := Nat.le_trans hs4 ht5.le
        clear ht5 hc5
        by_cases hj : j = 0
        · subst hj
          go_wp2_with fail
          refine (HB.out 2 (by unfold In64; omega) _ HC5.out).mono ?_
          rintro e w6 ⟨q, rfl, ⟨hq0, hq1⟩, ht6, hc6⟩
          have HT6 := Lib.hid (HT5.out.trans ht6)
          have HC6 := Lib.hid hc6
          have hs6 : w.heap.size ≤ w6.heap.size := Nat.le_trans hs5 ht6.le
          clear ht6 hc6
          have hq : q = 0 ∨ q = 1 := by omega
          rcases hq with rfl | rfl
          · go_wp2_with (at_make; refine wpList_make_full _ rfl _ _ 23 rfl w6.heap.size 3 i0 _ 1 Try.underlying23 hi hI0 hI1 .i64 .i64 1000 1000 1000 rfl rfl rfl rfl (by rw [hI2]; omega) (by unfold maxLen; omega) (Nat.le_refl _) ?_; intro w7 hown hg; have hb7 : Ext w6 w7 := Below.grown (Below.refl _ _) hg (Nat.le_refl _) (by simp); obtain ⟨z3, hz3⟩ := owns_cell hown (j := 3) (by omega); have hf3 := hown.frozenAt 3; have hl7 := (owns_lt hown).2; have HOW := Lib.hid hown; have HB7 := Lib.hid hb7)
            have HST := Lib.hid (HOW.out.stored 3 (.int .i64 7)).1
            obtain ⟨xs, e1, e2, e3⟩ := ints_of (made_set (n := 1000 * 1) (j := 3) (x := 7) (by unfold In64; omega))
            have hxl : xs.length = 1000 := by rw [e2, List.length_set]; simp [size_madeCells]
            have HXS := Lib.hid (show (w7.setCell ⟨w6.heap.size, 3, none⟩ (.int .i64 7)).ownsRow w6.heap.size 3 1 (.slice (some ⟨w6.heap.size, 0, none⟩) xs.length 1000) xs.length (xs.flatMap encInt) by rw [hxl, e1]; exact HST.out)
            have HL := Lib.hid (list_of_own HXS.out e3)
            have HXL := Lib.hid hxl
            have HTF := Lib.hid (show Turned w6.heap.size (w7.setCell ⟨w6.heap.size, 3, none⟩ (.int .i64 7)).heap.size w6 (w7.setCell ⟨w6.heap.size, 3, none⟩ (.int .i64 7)) from (HB7.out.turned _ _).trans ((turned_put w7 w6.heap.size 3 _).wide (Nat.le_refl _) (by have := hl7; simp; omega)))
            clear hown hg hb7 e1 e2 e3 hxl
            go_wp2
            exact bodyPost_ret (results_tmp rfl _ _ _) rfl ⟨_, 1000, xs, by rw [HXL.out]; rfl, HL.out.1, by rw [HXL.out]; omega, fun h0 b o e => Nat.le_trans hs6 (HL.out.2 h0 b o e), turned_low HT6.out HTF.out hs6, HC6.out.keep HTF.out (by omega)⟩
          · go_wp2_with (at_make; refine wpList_make_full _ rfl _ _ 23 rfl w6.heap.size 3 i0 _ 1 Try.underlying23 hi hI0 hI1 .i64 .i64 1001 1001 1001 rfl rfl rfl rfl (by rw [hI2]; omega) (by unfold maxLen; omega) (Nat.le_refl _) ?_; intro w7 hown hg; have hb7 : Ext w6 w7 := Below.grown (Below.refl _ _) hg (Nat.le_refl _) (by simp); obtain ⟨z3, hz3⟩ := owns_cell hown (j := 3) (by omega); have hf3 := hown.frozenAt 3; have hl7 := (owns_lt hown).2; have HOW := Lib.hid hown; have HB7 := Lib.hid hb7)
            have HST := Lib.hid (HOW.out.stored 3 (.int .i64 7)).1
            obtain ⟨xs, e1, e2, e3⟩ := ints_of (made_set (n := 1001 * 1) (j := 3) (x := 7) (by unfold In64; omega))
            have hxl : xs.length = 1001 := by rw [e2, List.length_set]; simp [size_madeCells]
            have HXS := Lib.hid (show (w7.setCell ⟨w6.heap.size, 3, none⟩ (.int .i64 7)).ownsRow w6.heap.size 3 1 (.slice (some ⟨w6.heap.size, 0, none⟩) xs.length 1001) xs.length (xs.flatMap encInt) by rw [hxl, e1]; exact HST.out)
            have HL := Lib.hid (list_of_own HXS.out e3)
            have HXL := Lib.hid hxl
            have HTF := Lib.hid (show Turned w6.heap.size (w7.setCell ⟨w6.heap.size, 3, none⟩ (.int .i64 7)).heap.size w6 (w7.setCell ⟨w6.heap.size, 3, none⟩ (.int .i64 7)) from (HB7.out.turned _ _).trans ((turned_put w7 w6.heap.size 3 _).wide (Nat.le_refl _) (by have := hl7; simp; omega)))
            clear hown hg hb7 e1 e2 e3 hxl
            go_wp2
            exact bodyPost_ret (results_tmp rfl _ _ _) rfl ⟨_, 1001, xs, by rw [HXL.out]; rfl, HL.out.1, by rw [HXL.out]; omega, fun h0 b o e => Nat.le_trans hs6 (HL.out.2 h0 b o e), turned_low HT6.out HTF.out hs6, HC6.out.keep HTF.out (by omega)⟩
        · have HL := Lib.hid (list_of_own (xs := acc ++ [v]) (by rw [List.flatMap_append, List.length_append] ; simpa using HO5.out) HIN4.out)
          go_wp2
          exact bodyPost_ret (results_tmp rfl _ _ _) rfl ⟨A4, c4, acc ++ [v], by simp, HL.out.1, by simp; omega, HL.out.2, HT5.out, HC5.out⟩
      · go_wp2_with fail
        refine (HB.out 40 (by unfold In64; omega) _ HC2.out).mono ?_
        rintro e w5 ⟨j, rfl, ⟨hj0, hj1⟩, ht5, hc5⟩
        have HO5 := Lib.hid (ownsT HO2.out ht5 (by omega))
        have HT5 := Lib.hid (HT2.out.trans ht5)
        have HC5 := Lib.hid hc5
        have hs5 : w.heap.size ≤ w5.heap.size := Nat.le_trans hs2 ht5.le
        clear ht5 hc5
        by_cases hj : j = 0
        · subst hj
          go_wp2_with fail
          refine (HB.out 2 (by unfold In64; omega) _ HC5.out).mono ?_
          rintro e w6 ⟨q, rfl, ⟨hq0, hq1⟩, ht6, hc6⟩
          have HT6 := Lib.hid (HT5.out.trans ht6)
          have HC6 := Lib.hid hc6
          have hs6 : w.heap.size ≤ w6.heap.size := Nat.le_trans hs5 ht6.le
          clear ht6 hc6
          have hq : q = 0 ∨ q = 1 := by omega
          rcases hq with rfl | rfl
          · go_wp2_with (at_make; refine wpList_make_full _ rfl _ _ 23 rfl w6.heap.size 3 i0 _ 1 Try.underlying23 hi hI0 hI1 .i64 .i64 1000 1000 1000 rfl rfl rfl rfl (by rw [hI2]; omega) (by unfold maxLen; omega) (Nat.le_refl _) ?_; intro w7 hown hg; have hb7 : Ext w6 w7 := Below.grown (Below.refl _ _) hg (Nat.le_refl _) (by simp); obtain ⟨z3, hz3⟩ := owns_cell hown (j := 3) (by omega); have hf3 := hown.frozenAt 3; have hl7 := (owns_lt hown).2; have HOW := Lib.hid hown; have HB7 := Lib.hid hb7)
            have HST := Lib.hid (HOW.out.stored 3 (.int .i64 7)).1
            obtain ⟨xs, e1, e2, e3⟩ := ints_of (made_set (n := 1000 * 1) (j := 3) (x := 7) (by unfold In64; omega))
            have hxl : xs.length = 1000 := by rw [e2, List.length_set]; simp [size_madeCells]
            have HXS := Lib.hid (show (w7.setCell ⟨w6.heap.size, 3, none⟩ (.int .i64 7)).ownsRow w6.heap.size 3 1 (.slice (some ⟨w6.heap.size, 0, none⟩) xs.length 1000) xs.length (xs.flatMap encInt) by rw [hxl, e1]; exact HST.out)
            have HL := Lib.hid (list_of_own HXS.out e3)
            have HXL := Lib.hid hxl
            have HTF := Lib.hid (show Turned w6.heap.size (w7.setCell ⟨w6.heap.size, 3, none⟩ (.int .i64 7)).heap.size w6 (w7.setCell ⟨w6.heap.size, 3, none⟩ (.int .i64 7)) from (HB7.out.turned _ _).trans ((turned_put w7 w6.heap.size 3 _).wide (Nat.le_refl _) (by have := hl7; simp; omega)))
            clear hown hg hb7 e1 e2 e3 hxl
            go_wp2
            exact bodyPost_ret (results_tmp rfl _ _ _) rfl ⟨_, 1000, xs, by rw [HXL.out]; rfl, HL.out.1, by rw [HXL.out]; omega, fun h0 b o e => Nat.le_trans hs6 (HL.out.2 h0 b o e), turned_low HT6.out HTF.out hs6, HC6.out.keep HTF.out (by omega)⟩
          · go_wp2_with (at_make; refine wpList_make_full _ rfl _ _ 23 rfl w6.heap.size 3 i0 _ 1 Try.underlying23 hi hI0 hI1 .i64 .i64 1001 1001 1001 rfl rfl rfl rfl (by rw [hI2]; omega) (by unfold maxLen; omega) (Nat.le_refl _) ?_; intro w7 hown hg; have hb7 : Ext w6 w7 := Below.grown (Below.refl _ _) hg (Nat.le_refl _) (by simp); obtain ⟨z3, hz3⟩ := owns_cell hown (j := 3) (by omega); have hf3 := hown.frozenAt 3; have hl7 := (owns_lt hown).2; have HOW := Lib.hid hown; have HB7 := Lib.hid hb7)
            have HST := Lib.hid (HOW.out.stored 3 (.int .i64 7)).1
            obtain ⟨xs, e1, e2, e3⟩ := ints_of (made_set (n := 1001 * 1) (j := 3) (x := 7) (by unfold In64; omega))
            have hxl : xs.length = 1001 := by rw [e2, List.length_set]; simp [size_madeCells]
            have HXS := Lib.hid (show (w7.setCell ⟨w6.heap.size, 3, none⟩ (.int .i64 7)).ownsRow w6.heap.size 3 1 (.slice (some ⟨w6.heap.size, 0, none⟩) xs.length 1001) xs.length (xs.flatMap encInt) by rw [hxl, e1]; exact HST.out)
            have HL := Lib.hid (list_of_own HXS.out e3)
            have HXL := Lib.hid hxl
            have HTF := Lib.hid (show Turned w6.heap.size (w7.setCell ⟨w6.heap.size, 3, none⟩ (.int .i64 7)).heap.size w6 (w7.setCell ⟨w6.heap.size, 3, none⟩ (.int .i64 7)) from (HB7.out.turned _ _).trans ((turned_put w7 w6.heap.size 3 _).wide (Nat.le_refl _) (by have := hl7; simp; omega)))
            clear hown hg hb7 e1 e2 e3 hxl
            go_wp2
            exact bodyPost_ret (results_tmp rfl _ _ _) rfl ⟨_, 1001, xs, by rw [HXL.out]; rfl, HL.out.1, by rw [HXL.out]; omega, fun h0 b o e => Nat.le_trans hs6 (HL.out.2 h0 b o e), turned_low HT6.out HTF.out hs6, HC6.out.keep HTF.out (by omega)⟩
        · have HL := Lib.hid (list_of_own (xs := acc) HO5.out HIN.out)
          go_wp2
          exact bodyPost_ret (results_tmp rfl _ _ _) rfl ⟨A1, c1, acc, rfl, HL.out.1, by omega, HL.out.2, HT5.out, HC5.out⟩
end Go.Proofs.Ytdnbjmfngmahkaa
