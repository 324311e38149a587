/- Contracts of the draws: spans; the law's draw. -/
import Derived.Test.YtbfambeoboiifaaDrawProf4
namespace Go.Proofs.Ytbfambeoboiifaa
open Go.RowKit
set_option linter.unusedVariables false
def RetSpanD (w : World) (g : Nat) : Ending → World → Prop := fun e w' => ∃ a b : Int, e = .returned (.tuple #[.int .i64 a, .int .i64 b]) ∧ In64 a ∧ In64 b ∧ Turned g (g + 1) w w' ∧ Cur w' g
set_option maxHeartbeats 4000000 in
theorem l03Span_c (g : Nat) (w : World) (hc : Cur w g) : Calls Try.prog 49 #[.pointer (some ⟨g, 0, none⟩)] w (RetSpanD w g) := by
  have hgw := hc.lt
  have HB := Lib.hid (fun (n : Int) (hn : In64 n) (u : World) (hu : Cur u g) => l01Below_c g n u hu hn)
  have HR := Lib.hid (fun (u : World) (hu : Cur u g) => l01Raw_c g u hu)
  have H9 : Hid (∀ n : Int, -1000000 ≤ n → n ≤ 1000000 → In64 n) := Lib.hid (fun n h1 h2 => by unfold In64; omega)
  have HC0 := Lib.hid hc
  have HT0 := Lib.hid (Turned.refl g (g + 1) w)
  clear hc
  go_enter Try.func49, Try.ntmps49
  go_wp2_with fail
  refine (HB.out 80 (H9.out _ (by omega) (by omega)) _ HC0.out).mono ?_
  rintro e w1 ⟨v1, rfl, ⟨hv1a, hv1b⟩, ht1, hc1⟩
  have HT1 := Lib.hid (HT0.out.trans ht1)
  have HC1 := Lib.hid hc1
  have hs1 := HT1.out.le
  clear ht1 hc1
  go_wp2_with fail
  refine (HB.out 50 (H9.out _ (by omega) (by omega)) _ HC1.out).mono ?_
  rintro e w2 ⟨v2, rfl, ⟨hv2a, hv2b⟩, ht2, hc2⟩
  have HT2 := Lib.hid (HT1.out.trans ht2)
  have HC2 := Lib.hid hc2
  have hs2 := HT2.out.le
  clear ht2 hc2
  go_wp2_with fail
  refine (HB.out 12 (H9.out _ (by omega) (by omega)) _ HC2.out).mono ?_
  rintro e w3 ⟨v3, rfl, ⟨hv3a, hv3b⟩, ht3, hc3⟩
  have HT3 := Lib.hid (HT2.out.trans ht3)
  have HC3 := Lib.hid hc3
  have hs3 := HT3.out.le
  clear ht3 hc3
  have I1 := Lib.hid (show In64 v1 from in64_of (by omega) (by omega))
  have I2 := Lib.hid (show In64 (v1 + 1 + v2) from in64_of (by omega) (by omega))
  by_cases h0 : v3 = 0
  · subst h0
    go_wp2_with fail
    refine (HR.out _ HC3.out).mono ?_
    rintro e w4 ⟨v4, rfl, hv4, ht4, hc4⟩
    have HT4 := Lib.hid (HT3.out.trans ht4)
    have HC4 := Lib.hid hc4
    have hs4 := HT4.out.le
    clear ht4 hc4
    have I4 := Lib.hid hv4
    clear hv4
    go_wp2
    exact bodyPost_ret (results_tmp2 rfl _ _ _) rfl ⟨v4, v1 + 1 + v2, rfl, I4.out, I2.out, HT4.out, HC4.out⟩
  by_cases h1 : v3 = 1
  · subst h1
    go_wp2_with fail
    refine (HR.out _ HC3.out).mono ?_
    rintro e w4 ⟨v4, rfl, hv4, ht4, hc4⟩
    have HT4 := Lib.hid (HT3.out.trans ht4)
    have HC4 := Lib.hid hc4
    have hs4 := HT4.out.le
    clear ht4 hc4
    have I4 := Lib.hid hv4
    clear hv4
    go_wp2
    exact bodyPost_ret (results_tmp2 rfl _ _ _) rfl ⟨v1, v4, rfl, I1.out, I4.out, HT4.out, HC4.out⟩
  by_cases h2 : v3 = 2
  · subst h2
    go_wp2
    exact bodyPost_ret (results_tmp2 rfl _ _ _) rfl ⟨v1, 1000000000, rfl, I1.out, in64_of (n := 1000000000) (by omega) (by omega), HT3.out, HC3.out⟩
  · go_wp2
    exact bodyPost_ret (results_tmp2 rfl _ _ _) rfl ⟨v1, v1 + 1 + v2, rfl, I1.out, I2.out, HT3.out, HC3.out⟩
def RetDrawUsed (w : World) : Ending → World → Prop := fun e w' => ∃ (A : Option Addr) (c : Nat) (xs : List Pt) (v : Vec) (fr to : Int), e = .returned (.tuple #[.agg #[.slice A xs.length c], .agg #[.int .i64 v.A, .int .i64 v.B, .int .i64 v.C], .int .i64 fr, .int .i64 to]) ∧ SlAt RPt 4 w' A xs.length xs ∧ xs.length ≤ 201 ∧ v.ok ∧ In64 fr ∧ In64 to ∧ Ext w w'
set_option maxHeartbeats 4000000 in
theorem DrawUsedOver_c (bs : List Int) (A : Option Addr) (n c : Nat) (w : World) (hs : SlAt RU8 1 w A n bs) (hn : n ≤ 1048576) : Calls Try.prog 18 #[.slice A n c] w (RetDrawUsed w) := by
  have HB := Lib.hid (fun (g : Nat) (n : Int) (hn : In64 n) (u : World) (hu : Cur u g) => l01Below_c g n u hu hn)
  have H9 : Hid (∀ n : Int, -1000000 ≤ n → n ≤ 1000000 → In64 n) := Lib.hid (fun n h1 h2 => by unfold In64; omega)
  have HN := Lib.hid (fun (u : World) (e : Ext w u) => l01New_c bs A n c u (hs.ext RU8.mono e) hn)
  clear hs
  go_enter Try.func18, Try.ntmps18
  go_wp2_with fail
  refine (HN.out _ (((Ext.refl _).alloc _).alloc _)).mono ?_
  rintro e w0 ⟨g, rfl, hg, hb0, hc0⟩
  have hg1 : g < w0.heap.size := hc0.lt
  have hg0 : w.heap.size + 1 + 1 ≤ g := by simpa using hg
  have HE0 := Lib.hid ((((Ext.refl w).alloc (.cells #[.slice none 0 0] 40)).alloc (.cells #[.int .i64 0, .int .i64 0, .int .i64 0] 42)).trans hb0)
  have p0 := (((Ext.refl _).alloc _).trans hb0).cell (cell_box_at w (w.heap.size) (by simp) [.slice none 0 0] 40 0 _ rfl)
  have pf0 := ((((Ext.refl _).alloc _).trans hb0).frozenEq (a := ⟨w.heap.size, 0, none⟩) (by simp)).trans (frozen_box_at w (w.heap.size) (by simp) #[.slice none 0 0] 40 0)
  have q0 := (hb0).cell (cell_box_at (w.alloc (.cells #[.slice none 0 0] 40)) (w.heap.size + 1) (by simp) [.int .i64 0, .int .i64 0, .int .i64 0] 42 0 _ rfl)
  have q1 := (hb0).cell (cell_box_at (w.alloc (.cells #[.slice none 0 0] 40)) (w.heap.size + 1) (by simp) [.int .i64 0, .int .i64 0, .int .i64 0] 42 1 _ rfl)
  have q2 := (hb0).cell (cell_box_at (w.alloc (.cells #[.slice none 0 0] 40)) (w.heap.size + 1) (by simp) [.int .i64 0, .int .i64 0, .int .i64 0] 42 2 _ rfl)
  have qf0 := ((hb0).frozenEq (a := ⟨w.heap.size + 1, 0, none⟩) (by simp)).trans (frozen_box_at (w.alloc (.cells #[.slice none 0 0] 40)) (w.heap.size + 1) (by simp) #[.int .i64 0, .int .i64 0, .int .i64 0] 42 0)
  have qf1 := ((hb0).frozenEq (a := ⟨w.heap.size + 1, 1, none⟩) (by simp)).trans (frozen_box_at (w.alloc (.cells #[.slice none 0 0] 40)) (w.heap.size + 1) (by simp) #[.int .i64 0, .int .i64 0, .int .i64 0] 42 1)
  have qf2 := ((hb0).frozenEq (a := ⟨w.heap.size + 1, 2, none⟩) (by simp)).trans (frozen_box_at (w.alloc (.cells #[.slice none 0 0] 40)) (w.heap.size + 1) (by simp) #[.int .i64 0, .int .i64 0, .int .i64 0] 42 2)
  have HP0 := Lib.hid (show w0.cell? ⟨w.heap.size, 0, none⟩ = some (.slice none 0 0) ∧ w0.frozen? ⟨w.heap.size, 0, none⟩ = false from ⟨p0, pf0⟩)
  have HQ0 := Lib.hid (show (w0.cell? ⟨w.heap.size + 1, 0, none⟩ = some (.int .i64 0) ∧ w0.cell? ⟨w.heap.size + 1, 1, none⟩ = some (.int .i64 0) ∧ w0.cell? ⟨w.heap.size + 1, 2, none⟩ = some (.int .i64 0)) ∧ (w0.frozen? ⟨w.heap.size + 1, 0, none⟩ = false ∧ w0.frozen? ⟨w.heap.size + 1, 1, none⟩ = false ∧ w0.frozen? ⟨w.heap.size + 1, 2, none⟩ = false) from ⟨⟨q0, q1, q2⟩, qf0, qf1, qf2⟩)
  clear p0 pf0 q0 q1 q2 qf0 qf1 qf2 hb0 hg
  go_wp2_with fail
  refine (l03Any_c g _ hc0).mono ?_
  rintro e w1 ⟨A1, c1, p1, rfl, ho1, hk1, hl1, ht1, hc1⟩
  have HO1 := Lib.hid ho1
  have HK1 := Lib.hid hk1
  have HT1 := Lib.hid ht1
  have HC1 := Lib.hid hc1
  clear ho1 hk1 ht1 hc1 hc0
  go_wp2_with fail
  refine (l03Span_c g _ (HC1.out.ext ((Ext.refl _).alloc _))).mono ?_
  rintro e w2 ⟨fr, to, rfl, hf, ht, ht2, hc2⟩
  have HX2 := Lib.hid (cellT ht2 (dcell_box w1 [.slice A1 p1.length c1] 40 0 _ rfl) (by have := HT1.out.le; omega))
  have HT2 := Lib.hid ((HT1.out.ext ((Ext.refl _).alloc (.cells #[.slice A1 p1.length c1] 40))).trans ht2)
  have HS2 := Lib.hid ((HT1.out.ext ((Ext.refl _).alloc (.cells #[.slice A1 p1.length c1] 40))).le)
  have HC2 := Lib.hid hc2
  have HF := Lib.hid hf
  have HTO := Lib.hid ht
  have HO2 := Lib.hid (ownsT (owns_ext HO1.out ((Ext.refl _).alloc (.cells #[.slice A1 p1.length c1] 40))) ht2 hg1)
  have hs12 := ht2.le
  simp at hs12
  clear ht2 hc2 hf ht
  go_wp2_with fail
  refine (HB.out g 4 (H9.out _ (by omega) (by omega)) _ (HC2.out.ext ((Ext.refl _).alloc _))).mono ?_
  rintro e w3 ⟨v3, rfl, ⟨hv3a, hv3b⟩, ht3, hc3⟩
  have HV3 := Lib.hid (show w3.cell? ⟨w2.heap.size, 0, none⟩ = some (.int .i64 8) ∧ w3.cell? ⟨w2.heap.size, 1, none⟩ = some (.int .i64 16) ∧ w3.cell? ⟨w2.heap.size, 2, none⟩ = some (.int .i64 2) from ⟨cellT ht3 (dcell_box w2 [.int .i64 8, .int .i64 16, .int .i64 2] 42 0 _ rfl) (by have := HT2.out.le; omega), cellT ht3 (dcell_box w2 [.int .i64 8, .int .i64 16, .int .i64 2] 42 1 _ rfl) (by have := HT2.out.le; omega), cellT ht3 (dcell_box w2 [.int .i64 8, .int .i64 16, .int .i64 2] 42 2 _ rfl) (by have := HT2.out.le; omega)⟩)
  have HW3 := Lib.hid (show w3.frozen? ⟨w2.heap.size, 0, none⟩ = false ∧ w3.frozen? ⟨w2.heap.size, 1, none⟩ = false ∧ w3.frozen? ⟨w2.heap.size, 2, none⟩ = false from ⟨frozenT ht3 (dfrozen_box w2 [.int .i64 8, .int .i64 16, .int .i64 2] 42 0) (by simp) (by have := HT2.out.le; omega), frozenT ht3 (dfrozen_box w2 [.int .i64 8, .int .i64 16, .int .i64 2] 42 1) (by simp) (by have := HT2.out.le; omega), frozenT ht3 (dfrozen_box w2 [.int .i64 8, .int .i64 16, .int .i64 2] 42 2) (by simp) (by have := HT2.out.le; omega)⟩)
  have HX3 := Lib.hid (cellT ht3 (((Ext.refl _).alloc _).cell HX2.out) (by have := HT1.out.le; omega))
  have HT3 := Lib.hid ((HT2.out.ext ((Ext.refl _).alloc (.cells #[.int .i64 8, .int .i64 16, .int .i64 2] 42))).trans ht3)
  have HC3 := Lib.hid hc3
  have HO3 := Lib.hid (ownsT (owns_ext HO2.out ((Ext.refl _).alloc (.cells #[.int .i64 8, .int .i64 16, .int .i64 2] 42))) ht3 hg1)
  have hs23 := ht3.le
  simp at hs23
  have hs01 := HT1.out.le
  have hsp : w.heap.size + 1 < w0.heap.size := by omega
  clear ht3 hc3
  have HFIN := Lib.hid (fun (u : World) (e : Turned g (g + 1) w0 u) => show (u.cell? ⟨w.heap.size, 0, none⟩ = some (.slice none 0 0) ∧ u.frozen? ⟨w.heap.size, 0, none⟩ = false) ∧ (u.cell? ⟨w.heap.size + 1, 0, none⟩ = some (.int .i64 0) ∧ u.cell? ⟨w.heap.size + 1, 1, none⟩ = some (.int .i64 0) ∧ u.cell? ⟨w.heap.size + 1, 2, none⟩ = some (.int .i64 0)) ∧ (u.frozen? ⟨w.heap.size + 1, 0, none⟩ = false ∧ u.frozen? ⟨w.heap.size + 1, 1, none⟩ = false ∧ u.frozen? ⟨w.heap.size + 1, 2, none⟩ = false) from ⟨⟨cellT e HP0.out.1 (by omega), frozenT e HP0.out.2 (by omega) (by omega)⟩, ⟨cellT e HQ0.out.1.1 (by omega), cellT e HQ0.out.1.2.1 (by omega), cellT e HQ0.out.1.2.2 (by omega)⟩, frozenT e HQ0.out.2.1 (by omega) (by omega), frozenT e HQ0.out.2.2.1 (by omega) (by omega), frozenT e HQ0.out.2.2.2 (by omega) (by omega)⟩)
  have n1 : ¬ w1.heap.size = w2.heap.size ∧ ¬ w2.heap.size = w1.heap.size ∧ ¬ w.heap.size = w1.heap.size ∧ ¬ w.heap.size = w2.heap.size ∧ ¬ w.heap.size + 1 = w1.heap.size ∧ ¬ w.heap.size + 1 = w2.heap.size := by omega
  have n2 : ¬ w1.heap.size = w.heap.size ∧ ¬ w2.heap.size = w.heap.size ∧ ¬ w1.heap.size = w.heap.size + 1 ∧ ¬ w2.heap.size = w.heap.size + 1 := by omega
  by_cases h0 : v3 = 0
  · subst h0
    go_wp2_with fail
    refine (l01Any_c g _ HC3.out).mono ?_
    rintro e w4 ⟨x, rfl, hx, ht4, hc4⟩
    have HT4 := Lib.hid (HT3.out.trans ht4)
    have q0 := cellT ht4 HV3.out.1 (by omega)
    have q1 := cellT ht4 HV3.out.2.1 (by omega)
    have q2 := cellT ht4 HV3.out.2.2 (by omega)
    have qf0 := frozenT ht4 HW3.out.1 (lt_of_cell HV3.out.1) (by omega)
    have qf1 := frozenT ht4 HW3.out.2.1 (lt_of_cell HV3.out.1) (by omega)
    have qf2 := frozenT ht4 HW3.out.2.2 (lt_of_cell HV3.out.1) (by omega)
    have x4 := cellT ht4 HX3.out (by omega)
    have HO4 := Lib.hid (ownsT HO3.out ht4 hg1)
    obtain ⟨⟨r0, rf0⟩, ⟨s0, s1, s2⟩, sf0, sf1, sf2⟩ := HFIN.out _ HT4.out
    have hl7 := lt_of_cell x4
    have hl2 := lt_of_cell q0
    have hl3 := lt_of_cell r0
    have hl4 := lt_of_cell s0
    have HXO := Lib.hid hx
    have HE4 := Lib.hid (ext_turned HE0.out HT4.out (by omega))
    clear hc4 ht4 hx
    go_wp2
    go_region
    all_goals
      go_wp2
      exact bodyPost_ret (v := .tuple #[.agg #[.slice A1 p1.length c1], .agg #[.int .i64 x.A, .int .i64 x.B, .int .i64 x.C], .int .i64 fr, .int .i64 to]) (by simp [results, Try.results18, go_sem, *]) rfl ⟨A1, c1, p1, x, fr, to, rfl, rowD_sl (enc := Pt.enc) (ok := Pt.ok) (base := w0.heap.size) (e := 93) (c := c1) Pt.size (by refine owns_ext ?_ ((Ext.refl _).drew); repeat (first | with_reducible exact HO4.out | (with_reducible refine owns_other ?_ (fun q hq => by have h1 := (HO2.out.lt q hq).1; have h2 := (HO2.out.lt q hq).2; simp only []; omega) _))) HK1.out, hl1, HXO.out, HF.out, HTO.out, (by repeat (first | with_reducible exact HE4.out | (with_reducible refine Ext.drew ?_) | (with_reducible refine Ext.setCell ?_ (by simp only []; omega) _)))⟩
  · have q0 := HV3.out.1
    have q1 := HV3.out.2.1
    have q2 := HV3.out.2.2
    have x4 := HX3.out
    obtain ⟨⟨r0, rf0⟩, ⟨s0, s1, s2⟩, sf0, sf1, sf2⟩ := HFIN.out _ HT3.out
    have hl7 := lt_of_cell x4
    have hl2 := lt_of_cell q0
    have hl3 := lt_of_cell r0
    have hl4 := lt_of_cell s0
    have HXO := Lib.hid (show Vec.ok ⟨8, 16, 2⟩ from ⟨in64_of (n := 8) (by omega) (by omega), in64_of (n := 16) (by omega) (by omega), in64_of (n := 2) (by omega) (by omega)⟩)
    have HE3 := Lib.hid (ext_turned HE0.out HT3.out (by omega))
    go_wp2
    go_region
    all_goals
      go_wp2
      exact bodyPost_ret (v := .tuple #[.agg #[.slice A1 p1.length c1], .agg #[.int .i64 8, .int .i64 16, .int .i64 2], .int .i64 fr, .int .i64 to]) (by simp [results, Try.results18, go_sem, *]) rfl ⟨A1, c1, p1, ⟨8, 16, 2⟩, fr, to, rfl, rowD_sl (enc := Pt.enc) (ok := Pt.ok) (base := w0.heap.size) (e := 93) (c := c1) Pt.size (by refine owns_ext ?_ ((Ext.refl _).drew); repeat (first | with_reducible exact HO3.out | (with_reducible refine owns_other ?_ (fun q hq => by have h1 := (HO2.out.lt q hq).1; have h2 := (HO2.out.lt q hq).2; simp only []; omega) _))) HK1.out, hl1, HXO.out, HF.out, HTO.out, (by repeat (first | with_reducible exact HE3.out | (with_reducible refine Ext.drew ?_) | (with_reducible refine Ext.setCell ?_ (by simp only []; omega) _)))⟩
end Go.Proofs.Ytbfambeoboiifaa
