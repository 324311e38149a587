/- Contracts of the draws: a list of dependencies and one more. -/
import Derived.Test.YtgnbjnlcikpknaaDrawDeps2
namespace Go.Proofs.Ytgnbjnlcikpknaa
open Go.RowKit
set_option linter.unusedVariables false
def RetDrawAdd (w : World) : Ending → World → Prop := fun e w' => ∃ (A : Option Addr) (c : Nat) (xs : List Dep) (d : Dep), e = .returned (.tuple #[.slice A xs.length c, .agg #[.int .i64 d.Id, .int .i64 d.For]]) ∧ SlAt RDep 2 w' A xs.length xs ∧ xs.length ≤ 100 ∧ d.ok ∧ Ext w w'
theorem law_frozen {w : World} {b : Nat} {cs : List Value} {e : TypeId} (h : w.heap[b]? = some (Obj.cells cs.toArray e)) (j : Nat) : w.frozen? ⟨b, j, none⟩ = false := by simp [World.frozen?, h]
theorem RetDrawAdd.drew {w w' : World} {e : Ending} (h : RetDrawAdd w e w') : RetDrawAdd w e w'.drew := by
  obtain ⟨A, c, xs, d, he, hs, hl, hd, hb⟩ := h
  exact ⟨A, c, xs, d, he, hs.ext (Flat.mono _ _) (Ext.refl _).drew, hl, hd, hb.drew⟩
set_option maxHeartbeats 4000000 in
set_option maxRecDepth 20000 in
theorem DrawDepsAdd_c (bs : List Int) (A : Option Addr) (n c : Nat) (w : World) (hs : SlAt RU8 1 w A n bs) (hn : n ≤ 1048576) : Calls Try.prog 11 #[.slice A n c] w (RetDrawAdd w) := by
  obtain ⟨i0, hi, hI0, hI1, hI2⟩ := info_parts Dep.info
  have HB := Lib.hid (fun (g : Nat) (n : Int) (hn : In64 n) (u : World) (hu : Cur u g) => l01Below_c g n u hu hn)
  have HN := Lib.hid (l01New_c bs A n c (w.alloc (.cells #[.int .i64 0, .int .i64 0] 31)) (hs.ext RU8.mono ((Ext.refl w).alloc _)) hn)
  have H9 : Hid (∀ n : Int, -1000000 ≤ n → n ≤ 1000000 → In64 n) := Lib.hid (fun n h1 h2 => by unfold In64; omega)
  clear hs
  go_enter Try.func11, Try.ntmps11
  go_wp2_with fail
  refine HN.out.mono ?_
  rintro e w0 ⟨g, rfl, hg, hb0, hc0⟩
  have hg1 : g < w0.heap.size := hc0.lt
  have hgw : w.heap.size < g := by simp at hg; omega
  have HE0 := Lib.hid (((Ext.refl w).alloc (.cells #[.int .i64 0, .int .i64 0] 31)).trans hb0)
  have HY0 := Lib.hid (heapE hb0 (heap_alloc_new w (.cells #[.int .i64 0, .int .i64 0] 31)))
  go_wp2_with fail
  refine (l12Any_c g _ hc0).mono ?_
  rintro e w1 ⟨A2, c2, xs, rfl, ho1, hin, hl2, ht1, hc1⟩
  have HO1 := Lib.hid ho1
  have HIN := Lib.hid hin
  have HT1 := Lib.hid ht1
  have HC1 := Lib.hid hc1
  have HY1 := Lib.hid (heapT ht1 HY0.out (by omega))
  have hs1 := HT1.out.le
  clear ho1 hin ht1 hc1 hc0 hb0 HY0
  go_wp2_with fail
  refine (l12One_c g _ HC1.out).mono ?_
  rintro e w2 ⟨v2, rfl, hv2, ht2, hc2⟩
  have HT2 := Lib.hid (HT1.out.trans ht2)
  have HC2 := Lib.hid hc2
  have hs2 := HT2.out.le
  have HO2 := Lib.hid (ownsT HO1.out ht2 (by omega))
  have HY2 := Lib.hid (heapT ht2 HY1.out (by omega))
  clear ht2 hc2
  go_wp2_with fail
  refine (l12One_c g _ HC2.out).mono ?_
  rintro e w3 ⟨v3, rfl, hv3, ht3, hc3⟩
  have HT3 := Lib.hid (HT2.out.trans ht3)
  have HC3 := Lib.hid hc3
  have hs3 := HT3.out.le
  have HO3 := Lib.hid (ownsT HO2.out ht3 (by omega))
  have HY3 := Lib.hid (heapT ht3 HY2.out (by omega))
  clear ht3 hc3
  have HV2 := Lib.hid hv2
  have HV3 := Lib.hid hv3
  clear hv2 hv3
  go_wp2_with fail
  refine (HB.out g 40 (H9.out _ (by omega) (by omega)) _ (HC3.out.ext ((Ext.refl w3).alloc _))).mono ?_
  rintro e w4 ⟨v4, rfl, ⟨hv4a, hv4b⟩, ht4, hc4⟩
  have HT4 := Lib.hid ((HT3.out.ext ((Ext.refl w3).alloc _)).trans ht4)
  have HC4 := Lib.hid hc4
  have hs4 := HT4.out.le
  have HO4 := Lib.hid (ownsT (owns_ext HO3.out ((Ext.refl w3).alloc _)) ht4 (by omega))
  have HY4 := Lib.hid (heapT ht4 (heapE ((Ext.refl w3).alloc _) HY3.out) (by omega))
  have HX4 := Lib.hid (heapT ht4 (heap_alloc_new w3 _) (by omega))
  clear ht4 hc4
  by_cases hv : v4 = 0
  · subst hv
    clear HO1 HO2 HO3 HO4 HIN hl2
    go_wp2
    go_loopw [5, 7] (fun l iv wr => ∃ (k : Nat) (A1 : Option Addr) (c1 : Nat) (acc : List Dep), k ≤ 100 ∧ iv = .int .i64 k ∧ l = .slice A1 acc.length c1 ∧ acc.length ≤ k ∧ Hid (wr.ownsRow w4.heap.size 31 2 (.slice A1 acc.length c1) acc.length (acc.flatMap Dep.enc)) ∧ Hid (∀ y ∈ acc, y.ok) ∧ Hid (Turned g (g + 1) w0 wr) ∧ Hid (Cur wr g) ∧ w4.heap.size ≤ wr.heap.size ∧ Hid (wr.heap[w.heap.size]? = some (.cells #[.int .i64 0, .int .i64 0] 31)) ∧ Hid (wr.heap[w3.heap.size]? = some (.cells #[.int .i64 v2, .int .i64 v3] 31))) (fun _ iv _ => (101 - intOf iv).toNat)
    case atStart => exact ⟨0, none, 0, [], by omega, rfl, rfl, by simp, Lib.hid (World.ownsRow_nil _ _ _ _), Lib.hid (fun y hy => by cases hy), HT4, HC4, Nat.le_refl _, HY4, HX4⟩
    case round =>
      have hs34 : w3.heap.size < w4.heap.size := heap_lt HX4.out
      have hs04 : w0.heap.size ≤ w3.heap.size := hs3
      clear HT4 HC4 HY4 HX4 HT1 HT2 HT3 HC1 HC2 HC3 HY1 HY2 HY3 hs4
      obtain ⟨k, A1, c1, acc, hk, rfl, rfl, hla, HO0, HIN, HT0, HC0, hww, HY0, HX0⟩ := hrel
      have hs0 := HT0.out.le
      go_wp2_with fail
      refine (HB.out g 2 (H9.out _ (by omega) (by omega)) _ HC0.out).mono ?_
      rintro e w5 ⟨v5, rfl, ⟨hv5a, hv5b⟩, ht5, hc5⟩
      have HT5 := Lib.hid (HT0.out.trans ht5)
      have HC5 := Lib.hid hc5
      have hs5 := HT5.out.le
      have HO5 := Lib.hid (ownsT HO0.out ht5 (by omega))
      have HY5 := Lib.hid (heapT ht5 HY0.out (by omega))
      have HX5 := Lib.hid (heapT ht5 HX0.out (by omega))
      have hw5 := ht5.le
      clear ht5 hc5
      by_cases hlt : (k : Int) < 99 + v5
      · have hs45 : w4.heap.size ≤ w5.heap.size := by omega
        have HKK := Lib.hid (show (⟨2 + k, 1⟩ : Dep).ok from ⟨in64_of (n := 2 + (k : Int)) (by omega) (by omega), in64_of (n := 1) (by omega) (by omega)⟩)
        go_wp2_with (at_builtin; go_must (refine wpList_append_one_t (.tmp 27) (.tmp 31) _ w4.heap.size 31 i0 _ 2 16 _ acc.length _ (Dep.enc ⟨2 + k, 1⟩) rfl rfl Try.underlying23 hi hI0 hI1 hI2 rfl (by omega) rfl (HO5.out) _ rfl (by first | rfl | simp) rfl (Dep.one _) (by unfold maxLen; omega) (by omega) hs45 ?_); intro A7 c7 w7 ho7 ht7 hs7 hk7)
        have HO7 := Lib.hid (own_snoc ho7)
        have HT7 := Lib.hid (turned_low HT5.out ht7 (by omega))
        have HC7 := Lib.hid (HC5.out.keep ht7 (by omega))
        have HY7 := Lib.hid ((ht7.block w.heap.size (heap_lt HY5.out) (.inl (by omega))).trans HY5.out)
        have HX7 := Lib.hid ((ht7.block w3.heap.size (heap_lt HX5.out) (.inl (by omega))).trans HX5.out)
        have HIN7 := Lib.hid (all_snoc HIN.out HKK.out)
        clear ho7 ht7 hk7
        go_wp2
        go_roundw
        case rel => exact ⟨k + 1, A7, c7, _, by omega, by go_num, by simp, by simp; omega, HO7, HIN7, HT7, HC7, by omega, HY7, HX7⟩
        case measure => simp [intOf]; omega
      · have y0 := cell_block HY5.out 0 _ rfl
        have y1 := cell_block HY5.out 1 _ rfl
        have x0 := cell_block HX5.out 0 _ rfl
        have x1 := cell_block HX5.out 1 _ rfl
        have yf0 := law_frozen HY5.out 0
        have yf1 := law_frozen HY5.out 1
        have HRR := Lib.hid (show RetDrawAdd w (.returned (.tuple #[.slice A1 acc.length c1, .agg #[.int .i64 v2, .int .i64 v3]])) ((w5.setCell ⟨w.heap.size, 0, none⟩ (.int .i64 v2)).setCell ⟨w.heap.size, 1, none⟩ (.int .i64 v3)) from ⟨A1, c1, acc, ⟨v2, v3⟩, rfl, rowD_sl Dep.size (owns_other (owns_other HO5.out (p := ⟨w.heap.size, 0, none⟩) (fun q hq => by have := (HO5.out.lt q hq).1; simp only []; omega) _) (p := ⟨w.heap.size, 1, none⟩) (fun q hq => by have := (HO5.out.lt q hq).1; simp only []; omega) _) HIN.out, by omega, ⟨HV2.out, HV3.out⟩, Ext.setCell (Ext.setCell (ext_turned HE0.out HT5.out (by omega)) (p := ⟨w.heap.size, 0, none⟩) (Nat.le_refl _) _) (p := ⟨w.heap.size, 1, none⟩) (Nat.le_refl _) _⟩)
        go_wp2
        go_region
        all_goals
          go_wp2
          exact bodyPost_ret (v := .tuple #[.slice A1 acc.length c1, .agg #[.int .i64 v2, .int .i64 v3]]) (by simp [results, Try.results11, go_sem, *]) rfl (by first | exact HRR.out | exact HRR.out.drew)
  · have y0 := cell_block HY4.out 0 _ rfl
    have y1 := cell_block HY4.out 1 _ rfl
    have x0 := cell_block HX4.out 0 _ rfl
    have x1 := cell_block HX4.out 1 _ rfl
    have yf0 := law_frozen HY4.out 0
    have yf1 := law_frozen HY4.out 1
    have HRR := Lib.hid (show RetDrawAdd w (.returned (.tuple #[.slice A2 xs.length c2, .agg #[.int .i64 v2, .int .i64 v3]])) ((w4.setCell ⟨w.heap.size, 0, none⟩ (.int .i64 v2)).setCell ⟨w.heap.size, 1, none⟩ (.int .i64 v3)) from ⟨A2, c2, xs, ⟨v2, v3⟩, rfl, rowD_sl Dep.size (owns_other (owns_other HO4.out (p := ⟨w.heap.size, 0, none⟩) (fun q hq => by have := (HO4.out.lt q hq).1; simp only []; omega) _) (p := ⟨w.heap.size, 1, none⟩) (fun q hq => by have := (HO4.out.lt q hq).1; simp only []; omega) _) HIN.out, by omega, ⟨HV2.out, HV3.out⟩, Ext.setCell (Ext.setCell (ext_turned HE0.out HT4.out (by omega)) (p := ⟨w.heap.size, 0, none⟩) (Nat.le_refl _) _) (p := ⟨w.heap.size, 1, none⟩) (Nat.le_refl _) _⟩)
    go_wp2
    go_region
    all_goals
      go_wp2
      exact bodyPost_ret (v := .tuple #[.slice A2 xs.length c2, .agg #[.int .i64 v2, .int .i64 v3]]) (by simp [results, Try.results11, go_sem, *]) rfl (by first | exact HRR.out | exact HRR.out.drew)
end Go.Proofs.Ytgnbjnlcikpknaa
