/- Contracts of the draws: profiles, right ones or not. -/
import Derived.Test.YtbfambeoboiifaaDrawProf3
import Derived.Test.YtbfambeoboiifaaDrawS
import Derived.Deep.RegionLaw
namespace Go.Proofs.Ytbfambeoboiifaa
open Go.RowKit
set_option linter.unusedVariables false
theorem own_type_ne {w : World} {base n b : Nat} {e e' : TypeId} {sz : Nat} {v : Value} {L : List Value} {cs : Array Value} (h : w.ownsRow base e sz v n L) (hb : w.heap[b]? = some (Obj.cells cs e')) (hne : e ≠ e') : ∀ q, v.ownBlock = some q → q ≠ b := by
  intro q hq hqb
  subst hqb
  rcases h.2 with ⟨rfl, _⟩ | ⟨g, cap, cur, rfl, _, hh, _⟩
  · cases hq
  · have e1 : g = q := Option.some.inj hq
    subst e1
    rw [hh] at hb
    injection hb with hb
    injection hb with _ h2
    exact hne h2
def RetProfA (w : World) (g : Nat) : Ending → World → Prop := fun e w' => ∃ (A : Option Addr) (c : Nat) (pts : List Pt), e = .returned (.agg #[.slice A pts.length c]) ∧ w'.ownsRow w.heap.size 93 4 (.slice A pts.length c) pts.length (pts.flatMap Pt.enc) ∧ (∀ x ∈ pts, x.ok) ∧ pts.length ≤ 201 ∧ Turned g (g + 1) w w' ∧ Cur w' g
set_option maxHeartbeats 8000000 in
set_option maxRecDepth 10000 in
theorem l03Any_c (g : Nat) (w : World) (hc : Cur w g) : Calls Try.prog 48 #[.pointer (some ⟨g, 0, none⟩)] w (RetProfA w g) := by
  obtain ⟨i0, hi, hI0, hI1, hI2⟩ := info_parts Pt.info
  have hgw := hc.lt
  have HB := Lib.hid (fun (n : Int) (hn : In64 n) (u : World) (hu : Cur u g) => l01Below_c g n u hu hn)
  have HRW := Lib.hid (fun (u : World) (hu : Cur u g) => l01Raw_c g u hu)
  have HAY := Lib.hid (fun (u : World) (hu : Cur u g) => l01Any_c g u hu)
  have H9 : Hid (∀ n : Int, -1000000 ≤ n → n ≤ 1000000 → In64 n) := Lib.hid (fun n h1 h2 => by unfold In64; omega)
  have HDR := Lib.hid (l03Draw_c g _ (hc.ext ((Ext.refl w).alloc (.cells #[.slice none 0 0] 40))))
  clear hc
  go_enter Try.func48, Try.ntmps48
  go_wp2_with fail
  refine HDR.out.mono ?_
  rintro e w1 ⟨A1, c1, p1, rfl, ho1, hk1, hl1, hp1, ht1, hc1⟩
  have hs1 := ht1.le
  simp at hs1
  have HO1 := Lib.hid (owns_base ho1 (show w.heap.size + 1 ≤ (w.alloc (.cells #[.slice none 0 0] 40)).heap.size by simp))
  have HR1 := Lib.hid (cellT ht1 (dcell_box w [.slice none 0 0] 40 0 _ rfl) (by omega))
  have HF1 := Lib.hid (frozenT ht1 (dfrozen_box w [.slice none 0 0] 40 0) (by simp) (by omega))
  have HT1 := Lib.hid ((((Ext.refl w).alloc (.cells #[.slice none 0 0] 40)).turned g (g + 1)).trans ht1)
  have HC1 := Lib.hid hc1
  have HK1 := Lib.hid hk1
  clear ho1 ht1 hc1 hk1 HDR
  go_wp2_with fail
  refine (HB.out 12 (H9.out _ (by omega) (by omega)) _ (HC1.out.ext ((Ext.refl _).alloc _))).mono ?_
  rintro e w2 ⟨v2, rfl, ⟨hv2a, hv2b⟩, ht2, hc2⟩
  have HT2 := Lib.hid ((HT1.out.ext ((Ext.refl _).alloc (.cells #[.slice A1 p1.length c1] 40))).trans ht2)
  have HC2 := Lib.hid hc2
  have HX2 := Lib.hid (cellT ht2 (dcell_box w1 [.slice A1 p1.length c1] 40 0 _ rfl) (by omega))
  have HB2 := Lib.hid (heapT ht2 (heap_alloc_new w1 (.cells #[.slice A1 p1.length c1] 40)) (by omega))
  have HZ2 := Lib.hid (frozenT ht2 (dfrozen_box w1 [.slice A1 p1.length c1] 40 0) (by simp) (by omega))
  have HO2 := Lib.hid (ownsT (owns_ext HO1.out ((Ext.refl _).alloc (.cells #[.slice A1 p1.length c1] 40))) ht2 (by omega))
  have HR2 := Lib.hid (cellT ht2 (((Ext.refl _).alloc _).cell HR1.out) (by omega))
  have HF2 := Lib.hid (frozenT ht2 ((((Ext.refl _).alloc (.cells #[.slice A1 p1.length c1] 40)).frozenEq (lt_of_cell HR1.out)).trans HF1.out) (by simp; omega) (by omega))
  have HQ1 := Lib.hid (show ∀ q, (Value.slice A1 p1.length c1).ownBlock = some q → w.heap.size + 1 ≤ q ∧ q < w1.heap.size from fun q hq => HO1.out.lt q hq)
  clear ht2 hc2
  have x2 := HX2.out
  have z2 := HZ2.out
  have r2 := HR2.out
  have rf2 := HF2.out
  have hlx := lt_of_cell x2
  have hlr := lt_of_cell r2
  have n1 : ¬ w1.heap.size = w.heap.size := by omega
  have n2 : ¬ w.heap.size = w1.heap.size := by omega
  obtain ⟨b, rfl, hbl, hbh⟩ := down_form HO1.out (by omega)
  have hbw1 : b < w1.heap.size := by omega
  by_cases hk0 : v2 = 0
  · subst hk0
    go_wp2
    have hs2 : w1.heap.size < w2.heap.size := hlx
    clear r2 rf2 z2
    go_region_held3 (fun u => u.cell? ⟨w1.heap.size, 0, none⟩ = some (.slice (some ⟨b, 0, none⟩) p1.length c1)) ((first | exact x4 | exact x3 | exact x2 | exact Ext.cell ((Ext.refl _).drew) x2 | (rw [World.cell?_setCell_other] <;> first | exact x4 | (intro e; injection e with e; omega)))) (first | (go_at_call 37; (with_reducible refine (HB.out p1.length (H9.out _ (by omega) (by omega)) _ (HC2.out.ext (by repeat (first | exact Ext.refl _ | apply Ext.alloc | apply Ext.drew | apply Ext.drewN)))).mono ?_); rintro e w3 ⟨v3, rfl, ⟨hv3a, hv3b⟩, ht3, hc3⟩; have HQ3 := Lib.hid ((Ext.turned (w := w2) (by repeat (first | exact Ext.refl _ | apply Ext.alloc | apply Ext.drew | apply Ext.drewN)) g (g + 1)).trans ht3); have HC3 := Lib.hid hc3; have x3 := cellT HQ3.out HX2.out (by omega); obtain ⟨j, rfl⟩ := Int.eq_ofNat_of_zero_le hv3a; have hj : j < p1.length := (by omega); clear ht3 hc3) | (go_at_call 38; (with_reducible refine (HRW.out _ HC3.out).mono ?_); rintro e w4 ⟨v4, rfl, hv4, ht4, hc4⟩; have HQ4 := Lib.hid (HQ3.out.trans ht4); have HC4 := Lib.hid hc4; have x4 := cellT HQ4.out HX2.out (by omega); have HV4 := Lib.hid hv4; have HO4 := Lib.hid (ownsT HO2.out HQ4.out (by omega)); obtain ⟨y0, hy0⟩ := owns_cell HO4.out (j := j * 4) (by omega); have yf0 := HO4.out.frozenAt (j * 4); clear ht4 hc4 hv4))
    all_goals
      have x5 := x4
      have z5 := frozenT HQ4.out HZ2.out hs2 (by omega)
      have r5 := cellT HQ4.out HR2.out (by omega)
      have rf5 := frozenT HQ4.out HF2.out hlr (by omega)
      have hl5 := lt_of_cell x5
      have hl6 := lt_of_cell r5
      have n3 : ¬ b = w1.heap.size ∧ ¬ w1.heap.size = b ∧ ¬ b = w.heap.size ∧ ¬ w.heap.size = b := by omega
      obtain ⟨xx, hxx⟩ : ∃ xx, p1[j]? = some xx := ⟨_, List.getElem?_eq_getElem hj⟩
      have HW := Lib.hid (owns_put (j := 0) (x' := ⟨v4, xx.Free⟩) Pt.size (by omega) hxx (u := .int .i64 v4) rfl HO4.out)
      have HKK := Lib.hid (all_set (k := j) HK1.out (show Pt.ok ⟨v4, xx.Free⟩ from ⟨HV4.out, (HK1.out xx (List.mem_of_getElem? hxx)).2⟩))
      have HT5 := Lib.hid (HT2.out.trans HQ4.out)
      clear x3 x4 hxx
      go_wp2
      exact bodyPost_ret (v := .agg #[.slice (some ⟨b, 0, none⟩) p1.length c1]) (by simp [results, Try.results48, go_sem, *]) rfl ⟨_, c1, p1.set j ⟨v4, xx.Free⟩, by rw [List.length_set], owns_other (p := ⟨w.heap.size, 0, none⟩) (owns_base HW.out (by omega)) (fun q hq => by have := (HW.out.lt q hq).1; simp only []; omega) _, HKK.out, by rw [List.length_set]; omega, turned_own (turned_own HT5.out (by omega)) (Nat.le_refl _), (HC4.out.put (by omega)).put hgw⟩
  by_cases hk1 : v2 = 1
  · subst hk1
    go_wp2
    have hs2 : w1.heap.size < w2.heap.size := hlx
    clear r2 rf2 z2 hk0
    go_region_held3 (fun u => u.cell? ⟨w1.heap.size, 0, none⟩ = some (.slice (some ⟨b, 0, none⟩) p1.length c1)) ((first | exact x4 | exact x3 | exact x2 | exact Ext.cell ((Ext.refl _).drew) x2 | (repeat (first | exact x4 | (rw [World.cell?_setCell_other] <;> try (intro e; injection e with e; omega)))))) (first | (go_at_call 37; (with_reducible refine (HB.out p1.length (H9.out _ (by omega) (by omega)) _ (HC2.out.ext (by repeat (first | exact Ext.refl _ | apply Ext.alloc | apply Ext.drew | apply Ext.drewN)))).mono ?_); rintro e w3 ⟨v3, rfl, ⟨hv3a, hv3b⟩, ht3, hc3⟩; have HQ3 := Lib.hid ((Ext.turned (w := w2) (by repeat (first | exact Ext.refl _ | apply Ext.alloc | apply Ext.drew | apply Ext.drewN)) g (g + 1)).trans ht3); have HC3 := Lib.hid hc3; have x3 := cellT HQ3.out HX2.out (by omega); obtain ⟨j, rfl⟩ := Int.eq_ofNat_of_zero_le hv3a; have hj : j < p1.length := (by omega); clear ht3 hc3) | (go_at_call 50; (with_reducible refine (HAY.out _ HC3.out).mono ?_); rintro e w4 ⟨v4, rfl, hv4, ht4, hc4⟩; have HQ4 := Lib.hid (HQ3.out.trans ht4); have HC4 := Lib.hid hc4; have x4 := cellT HQ4.out HX2.out (by omega); have HV4 := Lib.hid hv4; have HO4 := Lib.hid (ownsT HO2.out HQ4.out (by omega)); obtain ⟨y1, hy1⟩ := owns_cell HO4.out (j := j * 4 + 1) (by omega); obtain ⟨y2, hy2⟩ := owns_cell HO4.out (j := j * 4 + 2) (by omega); obtain ⟨y3, hy3⟩ := owns_cell HO4.out (j := j * 4 + 3) (by omega); have yf1 := HO4.out.frozenAt (j * 4 + 1); have yf2 := HO4.out.frozenAt (j * 4 + 2); have yf3 := HO4.out.frozenAt (j * 4 + 3); clear ht4 hc4 hv4))
    all_goals
      have x5 := x4
      have z5 := frozenT HQ4.out HZ2.out hs2 (by omega)
      have r5 := cellT HQ4.out HR2.out (by omega)
      have rf5 := frozenT HQ4.out HF2.out hlr (by omega)
      have hl5 := lt_of_cell x5
      have hl6 := lt_of_cell r5
      have n3 : ¬ b = w1.heap.size ∧ ¬ w1.heap.size = b ∧ ¬ b = w.heap.size ∧ ¬ w.heap.size = b := by omega
      obtain ⟨xx, hxx⟩ : ∃ xx, p1[j]? = some xx := ⟨_, List.getElem?_eq_getElem hj⟩
      have hx1 : (p1.set j ⟨xx.At, ⟨v4.A, xx.Free.B, xx.Free.C⟩⟩)[j]? = some ⟨xx.At, ⟨v4.A, xx.Free.B, xx.Free.C⟩⟩ := by rw [List.getElem?_set_self (by omega)]
      have hx2 : ((p1.set j ⟨xx.At, ⟨v4.A, xx.Free.B, xx.Free.C⟩⟩).set j ⟨xx.At, ⟨v4.A, v4.B, xx.Free.C⟩⟩)[j]? = some ⟨xx.At, ⟨v4.A, v4.B, xx.Free.C⟩⟩ := by rw [List.getElem?_set_self (by rw [List.length_set]; omega)]
      have HW1 := Lib.hid (owns_put (j := 1) (x' := ⟨xx.At, ⟨v4.A, xx.Free.B, xx.Free.C⟩⟩) Pt.size (by omega) hxx (u := .int .i64 v4.A) rfl HO4.out)
      have HW2 := Lib.hid (owns_put (j := 2) (x' := ⟨xx.At, ⟨v4.A, v4.B, xx.Free.C⟩⟩) Pt.size (by omega) hx1 (u := .int .i64 v4.B) rfl HW1.out)
      have HW := Lib.hid (owns_put (j := 3) (x' := ⟨xx.At, ⟨v4.A, v4.B, v4.C⟩⟩) Pt.size (by omega) hx2 (u := .int .i64 v4.C) rfl HW2.out)
      have hxo := HK1.out xx (List.mem_of_getElem? hxx)
      have HKK := Lib.hid (all_set (k := j) (all_set (k := j) (all_set (k := j) HK1.out (show Pt.ok ⟨xx.At, ⟨v4.A, xx.Free.B, xx.Free.C⟩⟩ from ⟨hxo.1, HV4.out.1, hxo.2.2.1, hxo.2.2.2⟩)) (show Pt.ok ⟨xx.At, ⟨v4.A, v4.B, xx.Free.C⟩⟩ from ⟨hxo.1, HV4.out.1, HV4.out.2.1, hxo.2.2.2⟩)) (show Pt.ok ⟨xx.At, ⟨v4.A, v4.B, v4.C⟩⟩ from ⟨hxo.1, HV4.out.1, HV4.out.2.1, HV4.out.2.2⟩))
      have HT5 := Lib.hid (HT2.out.trans HQ4.out)
      clear x3 x4 hxx hx1 hx2 hxo
      go_wp2
      exact bodyPost_ret (v := .agg #[.slice (some ⟨b, 0, none⟩) p1.length c1]) (by simp [results, Try.results48, go_sem, *]) rfl ⟨_, c1, ((p1.set j ⟨xx.At, ⟨v4.A, xx.Free.B, xx.Free.C⟩⟩).set j ⟨xx.At, ⟨v4.A, v4.B, xx.Free.C⟩⟩).set j ⟨xx.At, ⟨v4.A, v4.B, v4.C⟩⟩, by rw [List.length_set, List.length_set, List.length_set], owns_other (p := ⟨w.heap.size, 0, none⟩) (owns_base HW.out (by omega)) (fun q hq => by have := (HW.out.lt q hq).1; simp only []; omega) _, HKK.out, by rw [List.length_set, List.length_set, List.length_set]; omega, turned_own (turned_own (turned_own (turned_own HT5.out (by omega)) (by omega)) (by omega)) (Nat.le_refl _), (((HC4.out.put (by omega)).put (by omega)).put (by omega)).put hgw⟩
  by_cases hk2 : v2 = 2
  · subst hk2
    go_wp2
    have hs2 : w1.heap.size < w2.heap.size := hlx
    obtain ⟨b', o', y, cs, e, hbw, hyx, _, hcq, rfl, hyok⟩ := (rowD_sl (enc := Pt.enc) (ok := Pt.ok) Pt.size HO2.out HK1.out).at_ (show p1.length - 1 < p1.length by omega)
    simp only [Option.some.injEq, Addr.mk.injEq, and_true] at e
    obtain ⟨rfl, rfl⟩ := e
    have d0 := hcq 0 _ rfl
    have d1 := hcq 1 _ rfl
    have d2 := hcq 2 _ rfl
    have d3 := hcq 3 _ rfl
    simp only [Nat.add_zero] at d0
    simp only [Nat.zero_add] at d0 d1 d2 d3
    have HYK := Lib.hid hyok
    have hbw2 : b < w2.heap.size := by omega
    have hm5 : IntKind.i64.wrap ((p1.length : Int) - 1) = ((p1.length - 1 : Nat) : Int) := by rw [IntWalk.i64_in _ (by omega)]; omega
    have hm3 : p1.length - 1 < p1.length := by omega
    have HOE := Lib.hid (owns_ext HO2.out (((Ext.refl w2).drew).alloc (.cells #[.int .i64 y.At, .int .i64 y.Free.A, .int .i64 y.Free.B, .int .i64 y.Free.C] 93)))
    have HFAR := Lib.hid (fun (w4 : World) (hg : (w2.drew.alloc (.cells #[.int .i64 y.At, .int .i64 y.Free.A, .int .i64 y.Free.B, .int .i64 y.Free.C] 93)).grownBy w4 (Value.slice (some ⟨b, 0, none⟩) p1.length c1).ownBlock) (q : Nat) (u : Value) (hq : w2.cell? ⟨q, 0, none⟩ = some u) (hne : ¬ q = b) => show w4.cell? ⟨q, 0, none⟩ = some u from by
      rw [hg.cell_far ⟨q, 0, none⟩ (by have := lt_of_cell hq; simp at this ⊢; omega) (by intro e; have e2 : q = b := by simpa [Value.ownBlock] using e
                                                                                         exact hne e2)]
      exact Ext.cell (((Ext.refl _).drew).alloc _) hq)
    have HFZ := Lib.hid (fun (w4 : World) (hg : (w2.drew.alloc (.cells #[.int .i64 y.At, .int .i64 y.Free.A, .int .i64 y.Free.B, .int .i64 y.Free.C] 93)).grownBy w4 (Value.slice (some ⟨b, 0, none⟩) p1.length c1).ownBlock) (q : Nat) (hl : q < w2.heap.size) (hq : w2.frozen? ⟨q, 0, none⟩ = false) (hne : ¬ q = b) => show w4.frozen? ⟨q, 0, none⟩ = false from by
      rw [World.frozen?_of_block (a := ⟨q, 0, none⟩) (hg.block q (by simp; omega) (by intro e; have e2 : q = b := by simpa [Value.ownBlock] using e
                                                                                      exact hne e2))]
      exact (Ext.frozenEq (a := ⟨q, 0, none⟩) (((Ext.refl w2).drew).alloc _) hl).trans hq)
    have HBF := Lib.hid (fun (w4 : World) (hg : (w2.drew.alloc (.cells #[.int .i64 y.At, .int .i64 y.Free.A, .int .i64 y.Free.B, .int .i64 y.Free.C] 93)).grownBy w4 (Value.slice (some ⟨b, 0, none⟩) p1.length c1).ownBlock) (hne : ¬ w1.heap.size = b) => show w4.heap[w1.heap.size]? = some (.cells #[.slice (some ⟨b, 0, none⟩) p1.length c1] 40) from by
      rw [hg.block w1.heap.size (by simp; omega) (by intro e; have e2 : w1.heap.size = b := by simpa [Value.ownBlock] using e
                                                     exact hne e2)]
      exact heapE (((Ext.refl w2).drew).alloc _) HB2.out)
    have hnb : ¬ w1.heap.size = b := by omega
    have hnb2 : ¬ w.heap.size = b := by omega
    clear r2 rf2 z2 hk0 hk1 hcq hyx hyok
    go_region_law (first | (refine step_append_list_t (enc := Pt.enc) (ok := Pt.ok) (by rfl) _ _ _ (by rfl) (w.heap.size + 1) 93 i0 _ 4 32 Try.underlying38 hi hI0 hI1 hI2 rfl (by omega) _ p1.length _ _ 1 1 [y] (p1.length + 1) rfl (by rfl) (by rfl) (HOE.out) (by exact sl_one_t w2.drew y 93 (Pt.size y) HYK.out) Pt.size Pt.one (by unfold maxLen; omega) (by omega) (by simp; omega) ?_; intro A4 c4 w4 ho4 hz4 hg4; have x4 := HFAR.out w4 hg4 _ _ x2 hnb; have z4 := HFZ.out w4 hg4 _ hlx HZ2.out hnb; have hl4 := lt_of_cell x4))
    all_goals
      have r4 := HFAR.out w4 hg4 _ _ HR2.out hnb2
      have rf4 := HFZ.out w4 hg4 _ hlr HF2.out hnb2
      have hl5 := lt_of_cell r4
      have HO4 := Lib.hid ho4
      have HTG := Lib.hid (grown_turned HOE.out hg4)
      have HT4 := Lib.hid (turned_low (HT2.out.ext (((Ext.refl _).drew).alloc _)) HTG.out (by omega))
      have HC4 := Lib.hid ((HC2.out.ext (((Ext.refl _).drew).alloc _)).keep HTG.out (by omega))
      have HKK := Lib.hid (all_snoc HK1.out HYK.out)
      have HW := Lib.hid (show (w4.setCell ⟨w1.heap.size, 0, none⟩ (.slice A4 (p1.length + 1) c4)).ownsRow (w.heap.size + 1) 93 4 (.slice A4 (p1 ++ [y]).length c4) (p1 ++ [y]).length ((p1 ++ [y]).flatMap Pt.enc) from by
        rw [List.flatMap_append, List.length_append]
        exact owns_other (by simpa using HO4.out) (fun q hq => own_type_ne HO4.out (HBF.out w4 hg4 hnb) (by decide) q hq) _)
      clear ho4 hg4 hz4 x2 d0 d1 d2 d3 hm5
      go_wp2
      exact bodyPost_ret (v := .agg #[.slice A4 (p1.length + 1) c4]) (by simp [results, Try.results48, go_sem, *]) rfl ⟨A4, c4, p1 ++ [y], by rw [List.length_append]; rfl, owns_other (p := ⟨w.heap.size, 0, none⟩) (owns_base HW.out (by omega)) (fun q hq => by have := (HW.out.lt q hq).1; simp only []; omega) _, HKK.out, by rw [List.length_append]; simp; omega, turned_own (turned_own HT4.out (by omega)) (Nat.le_refl _), (HC4.out.put (by omega)).put hgw⟩
  by_cases hk3 : v2 = 3
  · subst hk3
    go_wp2
    exact bodyPost_ret (v := .agg #[.slice none 0 0]) (by simp [results, Try.results48, go_sem, *]) rfl ⟨none, 0, [], rfl, World.ownsRow_nil _ _ _ _, (fun y hy => by cases hy), by simp, turned_own (turned_own HT2.out (by omega)) (Nat.le_refl _), (HC2.out.put (by omega)).put hgw⟩
  · go_wp2
    exact bodyPost_ret (v := .agg #[.slice (some ⟨b, 0, none⟩) p1.length c1]) (by simp [results, Try.results48, go_sem, *]) rfl ⟨_, c1, p1, rfl, owns_other (p := ⟨w.heap.size, 0, none⟩) (owns_base HO2.out (by omega)) (fun q hq => by have := (HO2.out.lt q hq).1; simp only []; omega) _, HK1.out, by omega, turned_own HT2.out (Nat.le_refl _), HC2.out.put hgw⟩
end Go.Proofs.Ytbfambeoboiifaa
