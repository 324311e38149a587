/- Contracts of the draws: lists of holds. Written by genhold.py. -/
import Derived.Test.YtbfambeoboiifaaDrawHold
import Derived.Test.YtbfambeoboiifaaDrawJob2
namespace Go.Proofs.Ytbfambeoboiifaa
open Go.RowKit
set_option linter.unusedVariables false
theorem hold_set0 (x : Hold) (v : ByteArray) : (⟨v, x.Job⟩ : Hold).enc = x.enc.set 0 (.string v) := rfl
theorem hold_set1 (x : Hold) (v : Int) : (⟨x.Name, ⟨v, x.Job.Prio, x.Job.Nodes, ⟨x.Job.Need.A, x.Job.Need.B, x.Job.Need.C⟩, ⟨x.Job.Lic.A, x.Job.Lic.B, x.Job.Lic.C⟩, x.Job.Wall, x.Job.Level⟩⟩ : Hold).enc = x.enc.set 1 (.int .i64 v) := rfl
theorem hold_set2 (x : Hold) (v : Int) : (⟨x.Name, ⟨x.Job.Id, v, x.Job.Nodes, ⟨x.Job.Need.A, x.Job.Need.B, x.Job.Need.C⟩, ⟨x.Job.Lic.A, x.Job.Lic.B, x.Job.Lic.C⟩, x.Job.Wall, x.Job.Level⟩⟩ : Hold).enc = x.enc.set 2 (.int .i64 v) := rfl
theorem hold_set3 (x : Hold) (v : Int) : (⟨x.Name, ⟨x.Job.Id, x.Job.Prio, v, ⟨x.Job.Need.A, x.Job.Need.B, x.Job.Need.C⟩, ⟨x.Job.Lic.A, x.Job.Lic.B, x.Job.Lic.C⟩, x.Job.Wall, x.Job.Level⟩⟩ : Hold).enc = x.enc.set 3 (.int .i64 v) := rfl
theorem hold_set4 (x : Hold) (v : Int) : (⟨x.Name, ⟨x.Job.Id, x.Job.Prio, x.Job.Nodes, ⟨v, x.Job.Need.B, x.Job.Need.C⟩, ⟨x.Job.Lic.A, x.Job.Lic.B, x.Job.Lic.C⟩, x.Job.Wall, x.Job.Level⟩⟩ : Hold).enc = x.enc.set 4 (.int .i64 v) := rfl
theorem hold_set5 (x : Hold) (v : Int) : (⟨x.Name, ⟨x.Job.Id, x.Job.Prio, x.Job.Nodes, ⟨x.Job.Need.A, v, x.Job.Need.C⟩, ⟨x.Job.Lic.A, x.Job.Lic.B, x.Job.Lic.C⟩, x.Job.Wall, x.Job.Level⟩⟩ : Hold).enc = x.enc.set 5 (.int .i64 v) := rfl
theorem hold_set6 (x : Hold) (v : Int) : (⟨x.Name, ⟨x.Job.Id, x.Job.Prio, x.Job.Nodes, ⟨x.Job.Need.A, x.Job.Need.B, v⟩, ⟨x.Job.Lic.A, x.Job.Lic.B, x.Job.Lic.C⟩, x.Job.Wall, x.Job.Level⟩⟩ : Hold).enc = x.enc.set 6 (.int .i64 v) := rfl
theorem hold_set7 (x : Hold) (v : Int) : (⟨x.Name, ⟨x.Job.Id, x.Job.Prio, x.Job.Nodes, ⟨x.Job.Need.A, x.Job.Need.B, x.Job.Need.C⟩, ⟨v, x.Job.Lic.B, x.Job.Lic.C⟩, x.Job.Wall, x.Job.Level⟩⟩ : Hold).enc = x.enc.set 7 (.int .i64 v) := rfl
theorem hold_set8 (x : Hold) (v : Int) : (⟨x.Name, ⟨x.Job.Id, x.Job.Prio, x.Job.Nodes, ⟨x.Job.Need.A, x.Job.Need.B, x.Job.Need.C⟩, ⟨x.Job.Lic.A, v, x.Job.Lic.C⟩, x.Job.Wall, x.Job.Level⟩⟩ : Hold).enc = x.enc.set 8 (.int .i64 v) := rfl
theorem hold_set9 (x : Hold) (v : Int) : (⟨x.Name, ⟨x.Job.Id, x.Job.Prio, x.Job.Nodes, ⟨x.Job.Need.A, x.Job.Need.B, x.Job.Need.C⟩, ⟨x.Job.Lic.A, x.Job.Lic.B, v⟩, x.Job.Wall, x.Job.Level⟩⟩ : Hold).enc = x.enc.set 9 (.int .i64 v) := rfl
theorem hold_set10 (x : Hold) (v : Int) : (⟨x.Name, ⟨x.Job.Id, x.Job.Prio, x.Job.Nodes, ⟨x.Job.Need.A, x.Job.Need.B, x.Job.Need.C⟩, ⟨x.Job.Lic.A, x.Job.Lic.B, x.Job.Lic.C⟩, v, x.Job.Level⟩⟩ : Hold).enc = x.enc.set 10 (.int .i64 v) := rfl
theorem hold_set11 (x : Hold) (v : Int) : (⟨x.Name, ⟨x.Job.Id, x.Job.Prio, x.Job.Nodes, ⟨x.Job.Need.A, x.Job.Need.B, x.Job.Need.C⟩, ⟨x.Job.Lic.A, x.Job.Lic.B, x.Job.Lic.C⟩, x.Job.Wall, v⟩⟩ : Hold).enc = x.enc.set 11 (.int .i64 v) := rfl
set_option maxHeartbeats 8000000 in
set_option maxRecDepth 20000 in
theorem l14Holds_c (g : Nat) (w : World) (hc : Cur w g) : Calls Try.prog 85 #[.pointer (some ⟨g, 0, none⟩)] w (RetHolds 4 w g) := by
  obtain ⟨i0, hi, hI0, hI1, hI2⟩ := info_parts Hold.info
  have hgw := hc.lt
  have HB := Lib.hid (fun (n : Int) (hn : In64 n) (u : World) (hu : Cur u g) => l01Below_c g n u hu hn)
  have HC0 := Lib.hid (hc.ext ((Ext.refl w).alloc (.cells #[] 54)))
  have HT0 := Lib.hid (((Ext.refl w).alloc (.cells #[] 54)).turned g (g + 1))
  have HO0 := Lib.hid (owns_empty w 54 12)
  clear hc
  go_enter Try.func85, Try.ntmps85
  go_wp2_with fail
  refine (HB.out 5 (by unfold In64; omega) _ HC0.out).mono ?_
  rintro e w1 ⟨v1, rfl, ⟨hv1a, hv1b⟩, ht1, hc1⟩
  have HT1 := Lib.hid (HT0.out.trans ht1)
  have HC1 := Lib.hid hc1
  have hs1 := HT1.out.le
  have HO1 := Lib.hid (ownsT HO0.out ht1 (by omega))
  clear ht1 hc1
  go_wp2
  go_loopw [3, 4] (fun l nv wr => ∃ (m : Int) (A1 : Option Addr) (c1 : Nat) (acc : List Hold), 0 ≤ m ∧ nv = .int .i64 m ∧ l = .slice A1 acc.length c1 ∧ (acc.length : Int) + m ≤ 4 ∧ Hid (wr.ownsRow w.heap.size 54 12 (.slice A1 acc.length c1) acc.length (acc.flatMap Hold.enc)) ∧ Hid (∀ y ∈ acc, y.ok) ∧ Hid (Turned g (g + 1) w wr) ∧ Hid (Cur wr g)) (fun _ nv _ => (intOf nv).toNat)
  case atStart => exact ⟨v1, _, 0, [], by omega, rfl, rfl, by simp; omega, Lib.hid (by simpa using HO1.out), Lib.hid (fun y hy => by cases hy), HT1, HC1⟩
  case round =>
    clear HO0 HT0 HC0 HO1 HT1 HC1 hs1
    obtain ⟨m, A1, c1, acc, hm, rfl, rfl, hlen, HO0, HIN, HT0, HC0⟩ := hrel
    have hs0 := HT0.out.le
    by_cases hlt : 0 < m
    · have HSL := Lib.hid ((rowD_sl Hold.size HO0.out HIN.out).ext (Flat.mono _ _) ((Ext.refl wr).alloc (.cells #[] 54)))
      have HA0 := Lib.hid (owns_ext HO0.out ((Ext.refl wr).alloc (.cells #[] 54)))
      have HLT := Lib.hid HO0.out.lt
      have hgr : g < wr.heap.size := by omega
      go_wp2_with (first | (at_builtin; (refine wpList_append_list_t (ok := Hold.ok) (.tmp 13) (.tmp 14) _ wr.heap.size 54 i0 _ 12 104 (.slice (some ⟨wr.heap.size, 0, none⟩) 0 0) 0 [] A1 acc.length c1 acc rfl rfl Try.underlying50 hi hI0 hI1 hI2 rfl (by omega) rfl (owns_empty wr 54 12) rfl HSL.out Hold.size Hold.one (by unfold maxLen; omega) (by omega) (by simp) ?_); intro A3 c3 w3 ho3 ht3 hs3 hk3; simp only [Nat.zero_add, List.nil_append] at ho3; simp only [Nat.zero_add]; have HO3 := Lib.hid ho3; have HA3 := Lib.hid (owns_same HA0.out (fun b hb => hk3 b (fun e => absurd (HLT.out b hb).2 (by (have e2 : wr.heap.size = b := Option.some.inj e); omega)) (Nat.lt_of_lt_of_le (HLT.out b hb).2 (by simp)))); have HT3 := Lib.hid (turned_low (HT0.out.ext ((Ext.refl _).alloc _)) ht3 hs0); have HC3 := Lib.hid ((HC0.out.ext ((Ext.refl _).alloc _)).keep ht3 hgr); have hs3' := HT3.out.le; have hs3w : wr.heap.size ≤ w3.heap.size := (by simp at hs3; omega); clear ho3 ht3 hk3 hs3) | (go_at_call 58; refine (l14Hold_c g _ HC3.out).mono ?_; rintro e w4 ⟨x, rfl, hx, ht4, hc4⟩; have HXO := Lib.hid hx; have HT4 := Lib.hid (HT3.out.trans ht4); have HC4 := Lib.hid hc4; have HO4 := Lib.hid (ownsT HO3.out ht4 (by omega)); have HA4 := Lib.hid (ownsT HA3.out ht4 (by omega)); have hs4 := HT4.out.le; have hs4w := Nat.le_trans hs3w ht4.le; clear hx ht4 hc4) | (at_builtin; (refine wpList_append_list_t (ok := Hold.ok) (.tmp 15) (.tmp 18) _ wr.heap.size 54 i0 _ 12 104 (.slice A3 acc.length c3) acc.length _ _ 1 1 [x] rfl rfl Try.underlying50 hi hI0 hI1 hI2 rfl (by omega) (by first | rfl | simp) (owns_ext HO4.out ((Ext.refl _).alloc _)) rfl (sl_box (enc := Hold.enc) w4 x 54 rfl HXO.out) Hold.size Hold.one (by unfold maxLen; omega) (by omega) (by simp; omega) ?_); intro A5 c5 w5 ho5 ht5 hs5 hk5))
      have HA5 := Lib.hid (owns_same (owns_ext HA4.out ((Ext.refl w4).alloc (.cells #[.string x.Name, .int .i64 x.Job.Id, .int .i64 x.Job.Prio, .int .i64 x.Job.Nodes, .int .i64 x.Job.Need.A, .int .i64 x.Job.Need.B, .int .i64 x.Job.Need.C, .int .i64 x.Job.Lic.A, .int .i64 x.Job.Lic.B, .int .i64 x.Job.Lic.C, .int .i64 x.Job.Wall, .int .i64 x.Job.Level] 54))) (fun b hb => hk5 b (fun e => absurd (HO4.out.lt b e).1 (by have h7 := (HLT.out b hb).2; omega)) (Nat.lt_of_lt_of_le (HA4.out.lt b hb).2 (by simp))))
      have HT5 := Lib.hid (turned_low (HT4.out.ext ((Ext.refl _).alloc _)) ht5 hs0)
      have HC5 := Lib.hid ((HC4.out.ext ((Ext.refl _).alloc _)).keep ht5 hgr)
      have HIN5 := Lib.hid (all_snoc HIN.out HXO.out)
      have HO5 := Lib.hid ho5
      clear ho5 ht5 hk5
      refine (sHoldsOk_c (acc ++ [x]) A5 (acc.length + 1) c5 _ (may_sl HO5.out HIN5.out) (by unfold maxLen; omega) (may_cap HO5.out)).mono ?_
      rintro e w6 ⟨rfl, hb6⟩
      have HT6 := Lib.hid (HT5.out.ext hb6)
      have HC6 := Lib.hid (HC5.out.ext hb6)
      have HO6 : Hid (w6.ownsRow w.heap.size 54 12 (.slice A5 (acc ++ [x]).length c5) (acc ++ [x]).length ((acc ++ [x]).flatMap Hold.enc)) := Lib.hid (by rw [List.flatMap_append, List.length_append]; exact owns_base (owns_ext HO5.out hb6) hs0)
      have HA6 := Lib.hid (owns_ext HA5.out hb6)
      clear hb6
      have hl6 : (acc ++ [x]).length = acc.length + 1 := by simp
      have HL6 := Lib.hid hl6
      clear hl6
      rcases (Bool.eq_false_or_eq_true (holdsB (acc ++ [x]))).symm with h1 | h1
      all_goals
        rw [h1]
        clear h1
      · go_wp2
        go_roundw
        case rel => exact ⟨m - 1, A1, c1, acc, by omega, by go_num, rfl, by omega, HA6, HIN, HT6, HC6⟩
        case measure => simp [intOf]; omega
      · go_wp2
        go_roundw
        case rel => exact ⟨m - 1, A5, c5, acc ++ [x], by omega, by go_num, by rw [HL6.out], by have := HL6.out; omega, HO6, HIN5, HT6, HC6⟩
        case measure => simp [intOf]; omega
    · have HRR := Lib.hid (show RetHolds 4 w g (.returned (.slice A1 acc.length c1)) wr from ⟨A1, c1, acc, rfl, HO0.out, HIN.out, by omega, HT0.out, HC0.out⟩)
      go_wp2
      exact ret_post rfl HRR.out
set_option maxHeartbeats 8000000 in
set_option maxRecDepth 20000 in
theorem l14AnyHolds_c (g : Nat) (w : World) (hc : Cur w g) : Calls Try.prog 57 #[.pointer (some ⟨g, 0, none⟩)] w (RetHolds 5 w g) := by
  obtain ⟨i0, hi, hI0, hI1, hI2⟩ := info_parts Hold.info
  have hgw := hc.lt
  have HB := Lib.hid (fun (n : Int) (hn : In64 n) (u : World) (hu : Cur u g) => l01Below_c g n u hu hn)
  have HD := Lib.hid (l14Holds_c g w hc)
  clear hc
  go_enter Try.func57, Try.ntmps57
  go_wp2_with fail
  refine HD.out.mono ?_
  rintro e w1 ⟨A1, c1, xs, rfl, ho1, hin, hl4, ht1, hc1⟩
  have HO1 := Lib.hid ho1
  have HIN := Lib.hid hin
  have HT1 := Lib.hid ht1
  have HC1 := Lib.hid hc1
  have hs1 := HT1.out.le
  clear ho1 hin ht1 hc1
  go_wp2_with fail
  refine (HB.out 14 (by unfold In64; omega) _ HC1.out).mono ?_
  rintro e w2 ⟨v2, rfl, ⟨hv2a, hv2b⟩, ht2, hc2⟩
  have HT2 := Lib.hid (HT1.out.trans ht2)
  have HC2 := Lib.hid hc2
  have hs2 := HT2.out.le
  have HO2 := Lib.hid (ownsT HO1.out ht2 (by omega))
  clear ht2 hc2
  by_cases h0 : xs.length = 0
  · have HRR := Lib.hid (show RetHolds 5 w g (.returned (.slice A1 xs.length c1)) w2 from ⟨A1, c1, xs, rfl, HO2.out, HIN.out, by omega, HT2.out, HC2.out⟩)
    rw [h0] at *
    go_wp2
    exact ret_post rfl HRR.out
  obtain ⟨gb, rfl, hgb, hgl⟩ := down_form HO2.out (by omega)
  have hz : (((xs.length : Nat) : Int) == 0) = false := by rw [beq_eq_false_iff_ne]; omega
  obtain ⟨x, hx⟩ : ∃ x, xs[0]? = some x := ⟨_, List.getElem?_eq_getElem (by omega)⟩
  have HX := Lib.hid hx
  have HXO := Lib.hid (HIN.out x (List.mem_of_getElem? hx))
  have HLS := Lib.hid (fun y : Hold => show (xs.set 0 y).length ≤ 5 by rw [List.length_set]; omega)
  clear hx
  rcases (show v2 = 0 ∨ v2 = 1 ∨ v2 = 2 ∨ v2 = 3 ∨ 3 < v2 by omega) with rfl | rfl | rfl | rfl | hv
  · have HS2 := Lib.hid (rowD_sl Hold.size HO2.out HIN.out)
    obtain ⟨b, o, x0, cs, eb, hbw, hx0, _, hcb, hr⟩ := HS2.out.at_ (show 0 < xs.length by omega)
    obtain ⟨rfl, hx0k⟩ := hr
    injection eb with eb
    injection eb with eb eo
    subst eb eo
    have y0 := hcb 0 _ rfl
    have y1 := hcb 1 _ rfl
    have y2 := hcb 2 _ rfl
    have y3 := hcb 3 _ rfl
    have y4 := hcb 4 _ rfl
    have y5 := hcb 5 _ rfl
    have y6 := hcb 6 _ rfl
    have y7 := hcb 7 _ rfl
    have y8 := hcb 8 _ rfl
    have y9 := hcb 9 _ rfl
    have y10 := hcb 10 _ rfl
    have y11 := hcb 11 _ rfl
    simp only [Nat.add_zero] at y0
    have HK0 := Lib.hid hx0k
    clear hcb hx0 hx0k
    go_wp2_with (at_builtin; go_must (refine wpList_append_one_t (.tmp 15) (.tmp 19) _ w.heap.size 54 i0 _ 12 104 _ xs.length _ (Hold.enc x0) rfl rfl Try.underlying50 hi hI0 hI1 hI2 rfl (by omega) rfl (HO2.out) _ rfl (by first | rfl | simp) rfl (Hold.one _) (by unfold maxLen; omega) (by omega) hs2 ?_); intro A7 c7 w7 ho7 ht7 hs7 hk7)
    have HRR := Lib.hid (show RetHolds 5 w g (.returned (.slice A7 (xs.length + 1) c7)) w7 from ⟨A7, c7, xs ++ [x0], by simp, own_snoc ho7, all_snoc HIN.out HK0.out, by simp; omega, turned_low HT2.out ht7 (Nat.le_refl _), HC2.out.keep ht7 hgw⟩)
    clear ho7 ht7 hk7
    go_wp2
    exact ret_post rfl HRR.out
  · skip
    obtain ⟨q0, hq0⟩ := owns_cell HO2.out (j := 0) (by omega)
    have hf0 := HO2.out.frozenAt 0
    have HP0 := Lib.hid (owns_put (k := 0) (j := 0) (x := x) Hold.size (by omega) HX.out (hold_set0 _ ⟨#[]⟩) HO2.out)
    have HRR := Lib.hid (show RetHolds 5 w g (.returned (.slice (some ⟨gb, 0, none⟩) xs.length c1)) (w2.setCell ⟨gb, 0, none⟩ (.string ⟨#[]⟩)) from ⟨_, c1, xs.set 0 (⟨⟨#[]⟩, ⟨x.Job.Id, x.Job.Prio, x.Job.Nodes, ⟨x.Job.Need.A, x.Job.Need.B, x.Job.Need.C⟩, ⟨x.Job.Lic.A, x.Job.Lic.B, x.Job.Lic.C⟩, x.Job.Wall, x.Job.Level⟩⟩ : Hold), by rw [List.length_set], by simpa using HP0.out, all_set HIN.out ⟨(show (⟨#[]⟩ : ByteArray).size ≤ maxLen by unfold maxLen; decide), HXO.out.2⟩, HLS.out _, (turned_own HT2.out (by omega)), (Cur.put HC2.out (by omega))⟩)
    clear HP0
    go_wp2
    exact ret_post rfl HRR.out
  · go_wp2_with fail
    refine (l04AnyJob_c g _ HC2.out).mono ?_
    rintro e w3 ⟨y, rfl, hy, ht3, hc3⟩
    have HYO := Lib.hid hy
    have HT3 := Lib.hid (HT2.out.trans ht3)
    have HC3 := Lib.hid hc3
    have HO3 := Lib.hid (ownsT HO2.out ht3 (by omega))
    have hs3 := HT3.out.le
    clear ht3 hc3 hy
    obtain ⟨q0, hq0⟩ := owns_cell HO3.out (j := 1) (by omega)
    have hf0 := HO3.out.frozenAt 1
    obtain ⟨q1, hq1⟩ := owns_cell HO3.out (j := 2) (by omega)
    have hf1 := HO3.out.frozenAt 2
    obtain ⟨q2, hq2⟩ := owns_cell HO3.out (j := 3) (by omega)
    have hf2 := HO3.out.frozenAt 3
    obtain ⟨q3, hq3⟩ := owns_cell HO3.out (j := 4) (by omega)
    have hf3 := HO3.out.frozenAt 4
    obtain ⟨q4, hq4⟩ := owns_cell HO3.out (j := 5) (by omega)
    have hf4 := HO3.out.frozenAt 5
    obtain ⟨q5, hq5⟩ := owns_cell HO3.out (j := 6) (by omega)
    have hf5 := HO3.out.frozenAt 6
    obtain ⟨q6, hq6⟩ := owns_cell HO3.out (j := 7) (by omega)
    have hf6 := HO3.out.frozenAt 7
    obtain ⟨q7, hq7⟩ := owns_cell HO3.out (j := 8) (by omega)
    have hf7 := HO3.out.frozenAt 8
    obtain ⟨q8, hq8⟩ := owns_cell HO3.out (j := 9) (by omega)
    have hf8 := HO3.out.frozenAt 9
    obtain ⟨q9, hq9⟩ := owns_cell HO3.out (j := 10) (by omega)
    have hf9 := HO3.out.frozenAt 10
    obtain ⟨q10, hq10⟩ := owns_cell HO3.out (j := 11) (by omega)
    have hf10 := HO3.out.frozenAt 11
    have HP0 := Lib.hid (owns_put (k := 0) (j := 1) (x := x) Hold.size (by omega) HX.out (hold_set1 _ y.Id) HO3.out)
    have HP1 := Lib.hid (owns_put (k := 0) (j := 2) (x := (⟨x.Name, ⟨y.Id, x.Job.Prio, x.Job.Nodes, ⟨x.Job.Need.A, x.Job.Need.B, x.Job.Need.C⟩, ⟨x.Job.Lic.A, x.Job.Lic.B, x.Job.Lic.C⟩, x.Job.Wall, x.Job.Level⟩⟩ : Hold)) Hold.size (by omega) (by rw [List.getElem?_set_self (by first | omega | (simp only [List.length_set]; omega))]) (hold_set2 _ y.Prio) HP0.out)
    have HP2 := Lib.hid (owns_put (k := 0) (j := 3) (x := (⟨x.Name, ⟨y.Id, y.Prio, x.Job.Nodes, ⟨x.Job.Need.A, x.Job.Need.B, x.Job.Need.C⟩, ⟨x.Job.Lic.A, x.Job.Lic.B, x.Job.Lic.C⟩, x.Job.Wall, x.Job.Level⟩⟩ : Hold)) Hold.size (by omega) (by rw [List.getElem?_set_self (by first | omega | (simp only [List.length_set]; omega))]) (hold_set3 _ y.Nodes) HP1.out)
    have HP3 := Lib.hid (owns_put (k := 0) (j := 4) (x := (⟨x.Name, ⟨y.Id, y.Prio, y.Nodes, ⟨x.Job.Need.A, x.Job.Need.B, x.Job.Need.C⟩, ⟨x.Job.Lic.A, x.Job.Lic.B, x.Job.Lic.C⟩, x.Job.Wall, x.Job.Level⟩⟩ : Hold)) Hold.size (by omega) (by rw [List.getElem?_set_self (by first | omega | (simp only [List.length_set]; omega))]) (hold_set4 _ y.Need.A) HP2.out)
    have HP4 := Lib.hid (owns_put (k := 0) (j := 5) (x := (⟨x.Name, ⟨y.Id, y.Prio, y.Nodes, ⟨y.Need.A, x.Job.Need.B, x.Job.Need.C⟩, ⟨x.Job.Lic.A, x.Job.Lic.B, x.Job.Lic.C⟩, x.Job.Wall, x.Job.Level⟩⟩ : Hold)) Hold.size (by omega) (by rw [List.getElem?_set_self (by first | omega | (simp only [List.length_set]; omega))]) (hold_set5 _ y.Need.B) HP3.out)
    have HP5 := Lib.hid (owns_put (k := 0) (j := 6) (x := (⟨x.Name, ⟨y.Id, y.Prio, y.Nodes, ⟨y.Need.A, y.Need.B, x.Job.Need.C⟩, ⟨x.Job.Lic.A, x.Job.Lic.B, x.Job.Lic.C⟩, x.Job.Wall, x.Job.Level⟩⟩ : Hold)) Hold.size (by omega) (by rw [List.getElem?_set_self (by first | omega | (simp only [List.length_set]; omega))]) (hold_set6 _ y.Need.C) HP4.out)
    have HP6 := Lib.hid (owns_put (k := 0) (j := 7) (x := (⟨x.Name, ⟨y.Id, y.Prio, y.Nodes, ⟨y.Need.A, y.Need.B, y.Need.C⟩, ⟨x.Job.Lic.A, x.Job.Lic.B, x.Job.Lic.C⟩, x.Job.Wall, x.Job.Level⟩⟩ : Hold)) Hold.size (by omega) (by rw [List.getElem?_set_self (by first | omega | (simp only [List.length_set]; omega))]) (hold_set7 _ y.Lic.A) HP5.out)
    have HP7 := Lib.hid (owns_put (k := 0) (j := 8) (x := (⟨x.Name, ⟨y.Id, y.Prio, y.Nodes, ⟨y.Need.A, y.Need.B, y.Need.C⟩, ⟨y.Lic.A, x.Job.Lic.B, x.Job.Lic.C⟩, x.Job.Wall, x.Job.Level⟩⟩ : Hold)) Hold.size (by omega) (by rw [List.getElem?_set_self (by first | omega | (simp only [List.length_set]; omega))]) (hold_set8 _ y.Lic.B) HP6.out)
    have HP8 := Lib.hid (owns_put (k := 0) (j := 9) (x := (⟨x.Name, ⟨y.Id, y.Prio, y.Nodes, ⟨y.Need.A, y.Need.B, y.Need.C⟩, ⟨y.Lic.A, y.Lic.B, x.Job.Lic.C⟩, x.Job.Wall, x.Job.Level⟩⟩ : Hold)) Hold.size (by omega) (by rw [List.getElem?_set_self (by first | omega | (simp only [List.length_set]; omega))]) (hold_set9 _ y.Lic.C) HP7.out)
    have HP9 := Lib.hid (owns_put (k := 0) (j := 10) (x := (⟨x.Name, ⟨y.Id, y.Prio, y.Nodes, ⟨y.Need.A, y.Need.B, y.Need.C⟩, ⟨y.Lic.A, y.Lic.B, y.Lic.C⟩, x.Job.Wall, x.Job.Level⟩⟩ : Hold)) Hold.size (by omega) (by rw [List.getElem?_set_self (by first | omega | (simp only [List.length_set]; omega))]) (hold_set10 _ y.Wall) HP8.out)
    have HP10 := Lib.hid (owns_put (k := 0) (j := 11) (x := (⟨x.Name, ⟨y.Id, y.Prio, y.Nodes, ⟨y.Need.A, y.Need.B, y.Need.C⟩, ⟨y.Lic.A, y.Lic.B, y.Lic.C⟩, y.Wall, x.Job.Level⟩⟩ : Hold)) Hold.size (by omega) (by rw [List.getElem?_set_self (by first | omega | (simp only [List.length_set]; omega))]) (hold_set11 _ y.Level) HP9.out)
    have HRR := Lib.hid (show RetHolds 5 w g (.returned (.slice (some ⟨gb, 0, none⟩) xs.length c1)) (((((((((((w3.setCell ⟨gb, 1, none⟩ (.int .i64 y.Id)).setCell ⟨gb, 2, none⟩ (.int .i64 y.Prio)).setCell ⟨gb, 3, none⟩ (.int .i64 y.Nodes)).setCell ⟨gb, 4, none⟩ (.int .i64 y.Need.A)).setCell ⟨gb, 5, none⟩ (.int .i64 y.Need.B)).setCell ⟨gb, 6, none⟩ (.int .i64 y.Need.C)).setCell ⟨gb, 7, none⟩ (.int .i64 y.Lic.A)).setCell ⟨gb, 8, none⟩ (.int .i64 y.Lic.B)).setCell ⟨gb, 9, none⟩ (.int .i64 y.Lic.C)).setCell ⟨gb, 10, none⟩ (.int .i64 y.Wall)).setCell ⟨gb, 11, none⟩ (.int .i64 y.Level)) from ⟨_, c1, xs.set 0 (⟨x.Name, ⟨y.Id, y.Prio, y.Nodes, ⟨y.Need.A, y.Need.B, y.Need.C⟩, ⟨y.Lic.A, y.Lic.B, y.Lic.C⟩, y.Wall, y.Level⟩⟩ : Hold), by rw [List.length_set], by simpa using HP10.out, all_set HIN.out ⟨HXO.out.1, HYO.out⟩, HLS.out _, (turned_own (turned_own (turned_own (turned_own (turned_own (turned_own (turned_own (turned_own (turned_own (turned_own (turned_own HT3.out (by omega)) (by omega)) (by omega)) (by omega)) (by omega)) (by omega)) (by omega)) (by omega)) (by omega)) (by omega)) (by omega)), (Cur.put (Cur.put (Cur.put (Cur.put (Cur.put (Cur.put (Cur.put (Cur.put (Cur.put (Cur.put (Cur.put HC3.out (by omega)) (by omega)) (by omega)) (by omega)) (by omega)) (by omega)) (by omega)) (by omega)) (by omega)) (by omega)) (by omega))⟩)
    clear HP0 HP1 HP2 HP3 HP4 HP5 HP6 HP7 HP8 HP9 HP10
    go_wp2
    exact ret_post rfl HRR.out
  · skip
    obtain ⟨q0, hq0⟩ := owns_cell HO2.out (j := 4) (by omega)
    have hf0 := HO2.out.frozenAt 4
    obtain ⟨q1, hq1⟩ := owns_cell HO2.out (j := 5) (by omega)
    have hf1 := HO2.out.frozenAt 5
    obtain ⟨q2, hq2⟩ := owns_cell HO2.out (j := 6) (by omega)
    have hf2 := HO2.out.frozenAt 6
    have HP0 := Lib.hid (owns_put (k := 0) (j := 4) (x := x) Hold.size (by omega) HX.out (hold_set4 _ 1000000) HO2.out)
    have HP1 := Lib.hid (owns_put (k := 0) (j := 5) (x := (⟨x.Name, ⟨x.Job.Id, x.Job.Prio, x.Job.Nodes, ⟨1000000, x.Job.Need.B, x.Job.Need.C⟩, ⟨x.Job.Lic.A, x.Job.Lic.B, x.Job.Lic.C⟩, x.Job.Wall, x.Job.Level⟩⟩ : Hold)) Hold.size (by omega) (by rw [List.getElem?_set_self (by first | omega | (simp only [List.length_set]; omega))]) (hold_set5 _ 0) HP0.out)
    have HP2 := Lib.hid (owns_put (k := 0) (j := 6) (x := (⟨x.Name, ⟨x.Job.Id, x.Job.Prio, x.Job.Nodes, ⟨1000000, 0, x.Job.Need.C⟩, ⟨x.Job.Lic.A, x.Job.Lic.B, x.Job.Lic.C⟩, x.Job.Wall, x.Job.Level⟩⟩ : Hold)) Hold.size (by omega) (by rw [List.getElem?_set_self (by first | omega | (simp only [List.length_set]; omega))]) (hold_set6 _ 0) HP1.out)
    have HRR := Lib.hid (show RetHolds 5 w g (.returned (.slice (some ⟨gb, 0, none⟩) xs.length c1)) (((w2.setCell ⟨gb, 4, none⟩ (.int .i64 1000000)).setCell ⟨gb, 5, none⟩ (.int .i64 0)).setCell ⟨gb, 6, none⟩ (.int .i64 0)) from ⟨_, c1, xs.set 0 (⟨x.Name, ⟨x.Job.Id, x.Job.Prio, x.Job.Nodes, ⟨1000000, 0, 0⟩, ⟨x.Job.Lic.A, x.Job.Lic.B, x.Job.Lic.C⟩, x.Job.Wall, x.Job.Level⟩⟩ : Hold), by rw [List.length_set], by simpa using HP2.out, all_set HIN.out ⟨HXO.out.1, HXO.out.2.1, HXO.out.2.2.1, HXO.out.2.2.2.1, in64_of (n := 1000000) (by omega) (by omega), in64_of (n := 0) (by omega) (by omega), in64_of (n := 0) (by omega) (by omega), HXO.out.2.2.2.2.2.2.2.1, HXO.out.2.2.2.2.2.2.2.2.1, HXO.out.2.2.2.2.2.2.2.2.2.1, HXO.out.2.2.2.2.2.2.2.2.2.2.1, HXO.out.2.2.2.2.2.2.2.2.2.2.2⟩, HLS.out _, (turned_own (turned_own (turned_own HT2.out (by omega)) (by omega)) (by omega)), (Cur.put (Cur.put (Cur.put HC2.out (by omega)) (by omega)) (by omega))⟩)
    clear HP0 HP1 HP2
    go_wp2
    exact ret_post rfl HRR.out
  · have HRR := Lib.hid (show RetHolds 5 w g (.returned (.slice (some ⟨gb, 0, none⟩) xs.length c1)) w2 from ⟨_, c1, xs, rfl, HO2.out, HIN.out, by omega, HT2.out, HC2.out⟩)
    go_wp2
    exact ret_post rfl HRR.out
end Go.Proofs.Ytbfambeoboiifaa
