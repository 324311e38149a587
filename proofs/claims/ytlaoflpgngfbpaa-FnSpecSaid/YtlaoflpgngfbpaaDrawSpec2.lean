/- Contracts of the draws: arrays, right ones or not. -/
import Derived.Test.YtlaoflpgngfbpaaDrawSpec
import Derived.Deep.RegionLaw
namespace Go.Proofs.Ytlaoflpgngfbpaa
open Go.RowKit
set_option linter.unusedVariables false
theorem span_at {w : World} {base b n c : Nat} {l : List Span} (h : w.ownsRow base 46 3 (.slice (some ⟨b, 0, none⟩) n c) n (l.flatMap Span.enc)) {j : Nat} {x : Span} (hx : l[j]? = some x) (hj : j < n) : w.cell? ⟨b, j * 3, none⟩ = some (.int .i64 x.Lo) ∧ w.cell? ⟨b, j * 3 + 1, none⟩ = some (.int .i64 x.Hi) ∧ w.cell? ⟨b, j * 3 + 2, none⟩ = some (.int .i64 x.Step) := by
  refine ⟨?_, ?_, ?_⟩
  · rw [h.cellAt (j * 3) (by omega)]
    have := flatMap_get (enc := Span.enc) (j := 0) Span.size (by omega) hx
    rw [Nat.add_zero] at this; rw [this]; rfl
  · rw [h.cellAt (j * 3 + 1) (by omega), flatMap_get (enc := Span.enc) (j := 1) Span.size (by omega) hx]; rfl
  · rw [h.cellAt (j * 3 + 2) (by omega), flatMap_get (enc := Span.enc) (j := 2) Span.size (by omega) hx]; rfl
theorem owns_off {w w' : World} {base lo hi : Nat} {e : TypeId} {sz n : Nat} {v : Value} {L : List Value} (h : w.ownsRow base e sz v n L) (ht : Turned lo hi w w') (hd : ∀ q, v.ownBlock = some q → q < lo ∨ hi ≤ q) : w'.ownsRow base e sz v n L := by
  have hlt := h.lt
  obtain ⟨h1, h2⟩ := h
  refine ⟨h1, ?_⟩
  rcases h2 with h2 | ⟨g, cap, cur, rfl, hg, hh, r⟩
  · exact .inl h2
  · exact .inr ⟨g, cap, cur, rfl, hg, (ht.block g (hlt g rfl).2 (hd g rfl)).trans hh, r⟩
set_option maxHeartbeats 8000000 in
set_option maxRecDepth 10000 in
theorem l13Any_c (g : Nat) (w : World) (hc : Cur w g) : Calls Try.prog 12 #[.pointer (some ⟨g, 0, none⟩)] w (RetSpecD 4 w g) := by
  obtain ⟨i0, hi, hz0, hz1, hz2⟩ := info_parts DSpan.info
  have hgw := hc.lt
  have HB := Lib.hid (fun (n : Int) (hn : In64 n) (u : World) (hu : Cur u g) => l01Below_c g n u hu hn)
  have HRW := Lib.hid (fun (u : World) (hu : Cur u g) => l01Raw_c g u hu)
  have H9 : Hid (∀ n : Int, -1000000 ≤ n → n ≤ 1000000 → In64 n) := Lib.hid (fun n h1 h2 => by unfold In64; omega)
  have HDR := Lib.hid (l13Draw_c g _ (hc.ext ((Ext.refl w).alloc (.cells #[.slice none 0 0, .int .i64 0] 25))))
  have HR0 := Lib.hid (dbox2 w (.slice none 0 0) (.int .i64 0) 25)
  clear hc
  go_enter Try.func12, Try.ntmps12
  go_wp2_with fail
  refine HDR.out.mono ?_
  rintro e w1 ⟨A1, c1, l, k, rfl, ho1, hk1, hl1, hl2, hik, ht1, hc1⟩
  have hs1 := ht1.le
  simp at hs1
  have HR1 := Lib.hid (ownsT HR0.out ht1 (by omega))
  have HO1 := Lib.hid (show w1.ownsRow (w.heap.size + 1) 46 3 (.slice A1 l.length c1) l.length (l.flatMap Span.enc) from by simpa using ho1)
  have HT1 := Lib.hid ((((Ext.refl w).alloc (.cells #[.slice none 0 0, .int .i64 0] 25)).turned g (g + 1)).trans ht1)
  have HC1 := Lib.hid hc1
  have HK := Lib.hid hk1
  have HIK := Lib.hid hik
  clear ho1 hk1 hik ht1 hc1 HDR HR0
  obtain ⟨b, rfl, hbl, hbh⟩ := down_form HO1.out (by omega)
  go_wp2_with fail
  refine (HB.out 14 (H9.out _ (by omega) (by omega)) _ (HC1.out.ext ((Ext.refl w1).alloc (.cells #[.slice (some ⟨b, 0, none⟩) l.length c1, .int .i64 k] 25)))).mono ?_
  rintro e w2 ⟨v2, rfl, ⟨hv2a, hv2b⟩, ht2, hc2⟩
  have HT2 := Lib.hid ((HT1.out.ext ((Ext.refl w1).alloc (.cells #[.slice (some ⟨b, 0, none⟩) l.length c1, .int .i64 k] 25))).trans ht2)
  have HC2 := Lib.hid hc2
  have hs2 := HT2.out.le
  have HR2 := Lib.hid (ownsT (owns_ext HR1.out ((Ext.refl w1).alloc (.cells #[.slice (some ⟨b, 0, none⟩) l.length c1, .int .i64 k] 25))) ht2 (by omega))
  have HO2 := Lib.hid (ownsT (owns_ext HO1.out ((Ext.refl w1).alloc (.cells #[.slice (some ⟨b, 0, none⟩) l.length c1, .int .i64 k] 25))) ht2 (by omega))
  have HS2 := Lib.hid (ownsT (dbox2 w1 (.slice (some ⟨b, 0, none⟩) l.length c1) (.int .i64 k) 25) ht2 (by omega))
  clear ht2 hc2
  obtain ⟨d0, d1, e0, e1, hd⟩ := dbox2_cells HS2.out
  go_wp2_with fail
  refine (HB.out (l.length : Int) (H9.out _ (by omega) (by omega)) _ HC2.out).mono ?_
  rintro e w3 ⟨v3, rfl, ⟨hv3a, hv3b⟩, ht3, hc3⟩
  have HT3 := Lib.hid (HT2.out.trans ht3)
  have HC3 := Lib.hid hc3
  have hs3 := HT3.out.le
  have HR3 := Lib.hid (ownsT HR2.out ht3 (by omega))
  have HO3 := Lib.hid (ownsT HO2.out ht3 (by omega))
  have HS3 := Lib.hid (ownsT HS2.out ht3 (by omega))
  clear ht3 hc3
  clear d0 d1 e0 e1 hd
  obtain ⟨d0, d1, e0, e1, hd⟩ := dbox2_cells HS3.out
  obtain ⟨r0, r1, q0, q1, hr⟩ := dbox2_cells HR3.out
  obtain ⟨j, rfl⟩ := Int.eq_ofNat_of_zero_le hv3a
  have hj : j < l.length := by omega
  obtain ⟨x, hx⟩ : ∃ x, l[j]? = some x := ⟨_, List.getElem?_eq_getElem hj⟩
  have HX := Lib.hid hx
  have HXO := Lib.hid (HK.out x (List.mem_of_getElem? hx))
  clear hx
  have n1 : ¬ w1.heap.size = w.heap.size ∧ ¬ w.heap.size = w1.heap.size ∧ ¬ b = w1.heap.size ∧ ¬ w1.heap.size = b ∧ ¬ b = w.heap.size ∧ ¬ w.heap.size = b := by omega
  by_cases hk0 : v2 = 0
  · subst hk0
    go_wp2
    clear e1 d1 q0 q1 r0 r1 e0
    go_region_held3 (fun z => z.cell? ⟨w1.heap.size, 0, none⟩ = some (.slice (some ⟨b, 0, none⟩) l.length c1)) ((first | exact x4 | exact d0 | exact Ext.cell ((Ext.refl _).drew) d0 | (rw [World.cell?_setCell_other] <;> first | exact x4 | (intro e; injection e with e; omega)))) (first | (go_at_call 24; (with_reducible refine (HRW.out _ (HC3.out.ext (by repeat (first | exact Ext.refl _ | apply Ext.alloc | apply Ext.drew | apply Ext.drewN)))).mono ?_); rintro e w4 ⟨v4, rfl, hv4, ht4, hc4⟩; have HQ4 := Lib.hid ((Ext.turned (w := w3) (by repeat (first | exact Ext.refl _ | apply Ext.alloc | apply Ext.drew | apply Ext.drewN)) g (g + 1)).trans ht4); have HC4 := Lib.hid hc4; have HV4 := Lib.hid hv4; have x4 := cellT HQ4.out d0 (by omega); have HO4 := Lib.hid (ownsT HO3.out HQ4.out (by omega)); obtain ⟨y0, hy0⟩ := owns_cell HO4.out (j := j * 3) (by omega); have yf0 := HO4.out.frozenAt (j * 3); clear ht4 hc4 hv4))
    all_goals
      have HR4 := Lib.hid (ownsT HR3.out HQ4.out (by omega))
      have HS4 := Lib.hid (ownsT HS3.out HQ4.out (by omega))
      have HT4 := Lib.hid (HT3.out.trans HQ4.out)
      have HW := Lib.hid (show (w4.setCell ⟨b, j * 3, none⟩ (.int .i64 v4)).ownsRow (w.heap.size + 1) 46 3 (.slice (some ⟨b, 0, none⟩) l.length c1) l.length ((l.set j ⟨v4, x.Hi, x.Step⟩).flatMap Span.enc) from by have := owns_put (j := 0) (x' := ⟨v4, x.Hi, x.Step⟩) Span.size (by omega) HX.out (u := .int .i64 v4) rfl HO4.out; rw [List.length_set] at this; exact this)
      have HKK := Lib.hid (all_set (k := j) HK.out (show Span.ok ⟨v4, x.Hi, x.Step⟩ from ⟨HV4.out, HXO.out.2.1, HXO.out.2.2⟩))
      have HRW4 := Lib.hid (dbox_far HR4.out (g := b) (p := j * 3) (u := .int .i64 v4) (fun e => down_apart HR4.out HO4.out (by decide) _ e rfl))
      obtain ⟨d0', d1', e0', e1', hd'⟩ := dbox2_cells HS4.out
      obtain ⟨r0', r1', q0', q1', hr'⟩ := dbox2_cells HR4.out
      clear x4 d0
      go_wp2
      exact bodyPost_ret (v := .agg #[.slice (some ⟨b, 0, none⟩) l.length c1, .int .i64 k]) (by simp [results, Try.results12, go_sem, *]) rfl ⟨_, c1, l.set j ⟨v4, x.Hi, x.Step⟩, k, by rw [List.length_set], owns_base (by rw [List.length_set]; exact dbox_far (dbox_far HW.out (g := w.heap.size) (p := 0) (fun e => down_apart HO4.out HR4.out (by decide) _ e rfl)) (g := w.heap.size) (p := 1) (fun e => down_apart HO4.out HR4.out (by decide) _ e rfl)) (by omega), HKK.out, by rw [List.length_set]; omega, by rw [List.length_set]; omega, HIK.out, turned_own (turned_own (turned_own HT4.out (by omega)) (Nat.le_refl _)) (Nat.le_refl _), ((HC4.out.put (by omega)).put hgw).put hgw⟩
  by_cases hk1 : v2 = 1
  · subst hk1
    go_wp2
    clear e1 d1 q0 q1 r0 r1 e0
    go_region_held3 (fun z => z.cell? ⟨w1.heap.size, 0, none⟩ = some (.slice (some ⟨b, 0, none⟩) l.length c1)) ((first | exact x4 | exact d0 | exact Ext.cell ((Ext.refl _).drew) d0 | (rw [World.cell?_setCell_other] <;> first | exact x4 | (intro e; injection e with e; omega)))) (first | (go_at_call 24; (with_reducible refine (HRW.out _ (HC3.out.ext (by repeat (first | exact Ext.refl _ | apply Ext.alloc | apply Ext.drew | apply Ext.drewN)))).mono ?_); rintro e w4 ⟨v4, rfl, hv4, ht4, hc4⟩; have HQ4 := Lib.hid ((Ext.turned (w := w3) (by repeat (first | exact Ext.refl _ | apply Ext.alloc | apply Ext.drew | apply Ext.drewN)) g (g + 1)).trans ht4); have HC4 := Lib.hid hc4; have HV4 := Lib.hid hv4; have x4 := cellT HQ4.out d0 (by omega); have HO4 := Lib.hid (ownsT HO3.out HQ4.out (by omega)); obtain ⟨y0, hy0⟩ := owns_cell HO4.out (j := j * 3 + 1) (by omega); have yf0 := HO4.out.frozenAt (j * 3 + 1); clear ht4 hc4 hv4))
    all_goals
      have HR4 := Lib.hid (ownsT HR3.out HQ4.out (by omega))
      have HS4 := Lib.hid (ownsT HS3.out HQ4.out (by omega))
      have HT4 := Lib.hid (HT3.out.trans HQ4.out)
      have HW := Lib.hid (show (w4.setCell ⟨b, j * 3 + 1, none⟩ (.int .i64 v4)).ownsRow (w.heap.size + 1) 46 3 (.slice (some ⟨b, 0, none⟩) l.length c1) l.length ((l.set j ⟨x.Lo, v4, x.Step⟩).flatMap Span.enc) from by have := owns_put (j := 1) (x' := ⟨x.Lo, v4, x.Step⟩) Span.size (by omega) HX.out (u := .int .i64 v4) rfl HO4.out; rw [List.length_set] at this; exact this)
      have HKK := Lib.hid (all_set (k := j) HK.out (show Span.ok ⟨x.Lo, v4, x.Step⟩ from ⟨HXO.out.1, HV4.out, HXO.out.2.2⟩))
      have HRW4 := Lib.hid (dbox_far HR4.out (g := b) (p := j * 3 + 1) (u := .int .i64 v4) (fun e => down_apart HR4.out HO4.out (by decide) _ e rfl))
      obtain ⟨d0', d1', e0', e1', hd'⟩ := dbox2_cells HS4.out
      obtain ⟨r0', r1', q0', q1', hr'⟩ := dbox2_cells HR4.out
      clear x4 d0
      go_wp2
      exact bodyPost_ret (v := .agg #[.slice (some ⟨b, 0, none⟩) l.length c1, .int .i64 k]) (by simp [results, Try.results12, go_sem, *]) rfl ⟨_, c1, l.set j ⟨x.Lo, v4, x.Step⟩, k, by rw [List.length_set], owns_base (by rw [List.length_set]; exact dbox_far (dbox_far HW.out (g := w.heap.size) (p := 0) (fun e => down_apart HO4.out HR4.out (by decide) _ e rfl)) (g := w.heap.size) (p := 1) (fun e => down_apart HO4.out HR4.out (by decide) _ e rfl)) (by omega), HKK.out, by rw [List.length_set]; omega, by rw [List.length_set]; omega, HIK.out, turned_own (turned_own (turned_own HT4.out (by omega)) (Nat.le_refl _)) (Nat.le_refl _), ((HC4.out.put (by omega)).put hgw).put hgw⟩
  by_cases hk2 : v2 = 2
  · subst hk2
    go_wp2
    clear e1 d1 q0 q1 r0 r1 e0
    go_region_held3 (fun z => z.cell? ⟨w1.heap.size, 0, none⟩ = some (.slice (some ⟨b, 0, none⟩) l.length c1)) ((first | exact x4 | exact d0 | exact Ext.cell ((Ext.refl _).drew) d0 | (rw [World.cell?_setCell_other] <;> first | exact x4 | (intro e; injection e with e; omega)))) (first | (go_at_call 24; (with_reducible refine (HRW.out _ (HC3.out.ext (by repeat (first | exact Ext.refl _ | apply Ext.alloc | apply Ext.drew | apply Ext.drewN)))).mono ?_); rintro e w4 ⟨v4, rfl, hv4, ht4, hc4⟩; have HQ4 := Lib.hid ((Ext.turned (w := w3) (by repeat (first | exact Ext.refl _ | apply Ext.alloc | apply Ext.drew | apply Ext.drewN)) g (g + 1)).trans ht4); have HC4 := Lib.hid hc4; have HV4 := Lib.hid hv4; have x4 := cellT HQ4.out d0 (by omega); have HO4 := Lib.hid (ownsT HO3.out HQ4.out (by omega)); obtain ⟨y0, hy0⟩ := owns_cell HO4.out (j := j * 3 + 2) (by omega); have yf0 := HO4.out.frozenAt (j * 3 + 2); clear ht4 hc4 hv4))
    all_goals
      have HR4 := Lib.hid (ownsT HR3.out HQ4.out (by omega))
      have HS4 := Lib.hid (ownsT HS3.out HQ4.out (by omega))
      have HT4 := Lib.hid (HT3.out.trans HQ4.out)
      have HW := Lib.hid (show (w4.setCell ⟨b, j * 3 + 2, none⟩ (.int .i64 v4)).ownsRow (w.heap.size + 1) 46 3 (.slice (some ⟨b, 0, none⟩) l.length c1) l.length ((l.set j ⟨x.Lo, x.Hi, v4⟩).flatMap Span.enc) from by have := owns_put (j := 2) (x' := ⟨x.Lo, x.Hi, v4⟩) Span.size (by omega) HX.out (u := .int .i64 v4) rfl HO4.out; rw [List.length_set] at this; exact this)
      have HKK := Lib.hid (all_set (k := j) HK.out (show Span.ok ⟨x.Lo, x.Hi, v4⟩ from ⟨HXO.out.1, HXO.out.2.1, HV4.out⟩))
      have HRW4 := Lib.hid (dbox_far HR4.out (g := b) (p := j * 3 + 2) (u := .int .i64 v4) (fun e => down_apart HR4.out HO4.out (by decide) _ e rfl))
      obtain ⟨d0', d1', e0', e1', hd'⟩ := dbox2_cells HS4.out
      obtain ⟨r0', r1', q0', q1', hr'⟩ := dbox2_cells HR4.out
      clear x4 d0
      go_wp2
      exact bodyPost_ret (v := .agg #[.slice (some ⟨b, 0, none⟩) l.length c1, .int .i64 k]) (by simp [results, Try.results12, go_sem, *]) rfl ⟨_, c1, l.set j ⟨x.Lo, x.Hi, v4⟩, k, by rw [List.length_set], owns_base (by rw [List.length_set]; exact dbox_far (dbox_far HW.out (g := w.heap.size) (p := 0) (fun e => down_apart HO4.out HR4.out (by decide) _ e rfl)) (g := w.heap.size) (p := 1) (fun e => down_apart HO4.out HR4.out (by decide) _ e rfl)) (by omega), HKK.out, by rw [List.length_set]; omega, by rw [List.length_set]; omega, HIK.out, turned_own (turned_own (turned_own HT4.out (by omega)) (Nat.le_refl _)) (Nat.le_refl _), ((HC4.out.put (by omega)).put hgw).put hgw⟩
  by_cases hk3 : v2 = 3
  · subst hk3
    go_wp2_with fail
    refine (HRW.out _ HC3.out).mono ?_
    rintro e w4 ⟨v4, rfl, hv4, ht4, hc4⟩
    have HT4 := Lib.hid (HT3.out.trans ht4)
    have HC4 := Lib.hid hc4
    have hs4 := HT4.out.le
    have HR4 := Lib.hid (ownsT HR3.out ht4 (by omega))
    have HO4 := Lib.hid (ownsT HO3.out ht4 (by omega))
    have HS4 := Lib.hid (ownsT HS3.out ht4 (by omega))
    clear ht4 hc4
    have HV4 := Lib.hid hv4
    clear hv4 d0 d1 e0 e1 hd r0 r1 q0 q1 hr
    obtain ⟨d0, d1, e0, e1, hd⟩ := dbox2_cells HS4.out
    obtain ⟨r0, r1, q0, q1, hr⟩ := dbox2_cells HR4.out
    have HOW := Lib.hid (dbox_far HO4.out (g := w1.heap.size) (p := 1) (u := .int .i64 v4) (fun e => by have e1 : b = w1.heap.size := Option.some.inj e; omega))
    go_wp2
    exact bodyPost_ret (v := .agg #[.slice (some ⟨b, 0, none⟩) l.length c1, .int .i64 v4]) (by simp [results, Try.results12, go_sem, *]) rfl ⟨_, c1, l, v4, rfl, owns_base (dbox_far (dbox_far HOW.out (g := w.heap.size) (p := 0) (fun e => down_apart HO4.out HR4.out (by decide) _ e rfl)) (g := w.heap.size) (p := 1) (fun e => down_apart HO4.out HR4.out (by decide) _ e rfl)) (by omega), HK.out, hl1, by omega, HV4.out, turned_own (turned_own (turned_own HT4.out (by omega)) (Nat.le_refl _)) (Nat.le_refl _), ((HC4.out.put (by omega)).put hgw).put hgw⟩
  by_cases hk4 : v2 = 4
  · subst hk4
    obtain ⟨y, hy⟩ : ∃ y, l[0]? = some y := ⟨_, List.getElem?_eq_getElem (by omega)⟩
    have HYK := Lib.hid (HK.out y (List.mem_of_getElem? hy))
    obtain ⟨z0, z1, z2⟩ := span_at HO3.out hy (by omega)
    simp only [Nat.zero_mul, Nat.zero_add] at z0 z1 z2
    have hbl3 := (HO3.out.lt b rfl).2
    clear hy
    go_wp2
    have hl0 : 0 < l.length := by omega
    go_region_law (first | (refine step_append_r (enc := Span.enc) (ok := Span.ok) (by rfl) _ _ _ (by rfl) (w.heap.size + 1) 46 i0 _ 3 24 Try.underlying23 hi hz0 hz1 hz2 rfl (by omega) (.slice (some ⟨b, 0, none⟩) l.length c1) l.length (l.flatMap Span.enc) _ 1 1 [y] (l.length + 1) rfl (by rfl) (by rfl) (owns_ext HO3.out (((Ext.refl _).drew).alloc _)) (by exact sl_one_r (enc := Span.enc) w3.drew y 46 rfl HYK.out) Span.size DSpan.one (by unfold maxLen; omega) (by omega) (by simp; omega) ?_; intro A4 c4 w4 hr4; have x4 : w4.cell? ⟨w1.heap.size, 0, none⟩ = some (.slice (some ⟨b, 0, none⟩) l.length c1) := hr4.cell (Ext.cell (((Ext.refl _).drew).alloc _) d0) (fun e => by have e1 : b = w1.heap.size := Option.some.inj e; omega); have f4 : w4.frozen? ⟨w1.heap.size, 0, none⟩ = false := hr4.frozen (((((Ext.refl w3).drew).alloc (.cells #[.int .i64 y.Lo, .int .i64 y.Hi, .int .i64 y.Step] 46)).frozenEq (a := ⟨w1.heap.size, 0, none⟩) hd).trans e0) (by simp; omega) (fun e => by have e1 : b = w1.heap.size := Option.some.inj e; omega)))
    all_goals
      have HR4' := Lib.hid hr4
      clear hr4 x4 f4 d0 d1 e0 e1 r0 r1 q0 q1 z0 z1 z2
      have a3 := ((Ext.refl w3).drew).alloc (.cells #[.int .i64 y.Lo, .int .i64 y.Hi, .int .i64 y.Step] 46)
      have HS4 := Lib.hid (HR4'.out.other (owns_ext HS3.out a3) (down_apart HS3.out HO3.out (by decide)))
      have HR4 := Lib.hid (HR4'.out.other (owns_ext HR3.out a3) (down_apart HR3.out HO3.out (by decide)))
      have HO5 := Lib.hid (show (w4.setCell ⟨w1.heap.size, 0, none⟩ (.slice A4 (l.length + 1) c4)).ownsRow (w.heap.size + 1) 46 3 (.slice A4 (l.length + 1) c4) (l.length + 1) ((l ++ [y]).flatMap Span.enc) from dbox_far (by have := HR4'.out.row; rw [List.flatMap_append]; simpa using this) (fun e => down_apart HR4'.out.row HS4.out (by decide) _ e rfl))
      have HR5 := Lib.hid (dbox_far HR4.out (g := w1.heap.size) (p := 0) (u := .slice A4 (l.length + 1) c4) (fun e => by have e1 : w.heap.size = w1.heap.size := Option.some.inj e; omega))
      have HT5 := Lib.hid (turned_own (j := 0) (u := .slice A4 (l.length + 1) c4) (base := w1.heap.size) (turned_low (HT3.out.ext a3) (HR4'.out.turned (lo := w.heap.size + 1) (fun q e => (HO3.out.lt q e).1)) (by omega)) (by omega))
      have HC5 := Lib.hid ((cur_appR (HC3.out.ext a3) HR4'.out (fun q e => (HO3.out.lt q e).1) (by omega)).put (j := 0) (u := .slice A4 (l.length + 1) c4) (b := w1.heap.size) (by omega))
      obtain ⟨d0, d1, e0, e1, hd'⟩ := dbox2_cells HS4.out
      obtain ⟨r0, r1, q0, q1, hr'⟩ := dbox2_cells HR4.out
      clear a3
      go_wp2
      exact bodyPost_ret (v := .agg #[.slice A4 (l.length + 1) c4, .int .i64 k]) (by simp [results, Try.results12, go_sem, *]) rfl ⟨A4, c4, l ++ [y], k, by rw [List.length_append]; rfl, owns_base (by rw [List.length_append]; exact dbox_far (dbox_far HO5.out (g := w.heap.size) (p := 0) (fun e => down_apart HO5.out HR5.out (by decide) _ e rfl)) (g := w.heap.size) (p := 1) (fun e => down_apart HO5.out HR5.out (by decide) _ e rfl)) (by omega), all_snoc HK.out HYK.out, by rw [List.length_append]; omega, by rw [List.length_append]; simp; omega, HIK.out, turned_own (turned_own HT5.out (Nat.le_refl _)) (Nat.le_refl _), (HC5.out.put hgw).put hgw⟩
  by_cases hk5 : v2 = 5
  · subst hk5
    obtain ⟨y, hy⟩ : ∃ y, l[l.length - 1]? = some y := ⟨_, List.getElem?_eq_getElem (by omega)⟩
    have HY := Lib.hid hy
    have HYK := Lib.hid (HK.out y (List.mem_of_getElem? hy))
    obtain ⟨z0, z1, z2⟩ := span_at HO3.out hy (by omega)
    have zf := HO3.out.frozenAt ((l.length - 1) * 3 + 1)
    have hbl3 := (HO3.out.lt b rfl).2
    have hm5 : IntKind.i64.wrap ((l.length : Int) - 1) = ((l.length - 1 : Nat) : Int) := by rw [IntWalk.i64_in _ (by omega)]; omega
    have hm3 : l.length - 1 < l.length := by omega
    clear hy
    go_wp2
    go_region
    all_goals
      have HW := Lib.hid (show ((w3.setCell ⟨b, (l.length - 1) * 3 + 1, none⟩ (.int .i64 (wrap64 (y.Lo + 55)))).drew).ownsRow (w.heap.size + 1) 46 3 (.slice (some ⟨b, 0, none⟩) l.length c1) l.length ((l.set (l.length - 1) ⟨y.Lo, wrap64 (y.Lo + 55), y.Step⟩).flatMap Span.enc) from by have := owns_put (j := 1) (x' := ⟨y.Lo, wrap64 (y.Lo + 55), y.Step⟩) Span.size (by omega) HY.out (u := .int .i64 (wrap64 (y.Lo + 55))) rfl HO3.out; rw [List.length_set] at this; exact owns_ext this ((Ext.refl _).drew))
      have HKK := Lib.hid (all_set (k := l.length - 1) HK.out (show Span.ok ⟨y.Lo, wrap64 (y.Lo + 55), y.Step⟩ from ⟨HYK.out.1, in_wrap _, HYK.out.2.2⟩))
      have HR5 := Lib.hid (owns_ext (dbox_far HR3.out (g := b) (p := (l.length - 1) * 3 + 1) (u := .int .i64 (wrap64 (y.Lo + 55))) (fun e => down_apart HR3.out HO3.out (by decide) _ e rfl)) ((Ext.refl _).drew))
      have HT5 := Lib.hid ((turned_own (j := (l.length - 1) * 3 + 1) (u := .int .i64 (wrap64 (y.Lo + 55))) (base := b) HT3.out (by omega)).ext ((Ext.refl _).drew))
      have HC5 := Lib.hid ((HC3.out.put (j := (l.length - 1) * 3 + 1) (u := .int .i64 (wrap64 (y.Lo + 55))) (b := b) (by omega)).ext ((Ext.refl _).drew))
      clear z0 z1 z2 zf
      go_wp2
      exact bodyPost_ret (v := .agg #[.slice (some ⟨b, 0, none⟩) l.length c1, .int .i64 k]) (by simp [results, Try.results12, go_sem, *]) rfl ⟨_, c1, l.set (l.length - 1) ⟨y.Lo, wrap64 (y.Lo + 55), y.Step⟩, k, by rw [List.length_set], owns_base (by rw [List.length_set]; exact dbox_far (dbox_far HW.out (g := w.heap.size) (p := 0) (fun e => down_apart HW.out HR5.out (by decide) _ e rfl)) (g := w.heap.size) (p := 1) (fun e => down_apart HW.out HR5.out (by decide) _ e rfl)) (by omega), HKK.out, by rw [List.length_set]; omega, by rw [List.length_set]; omega, HIK.out, turned_own (turned_own HT5.out (Nat.le_refl _)) (Nat.le_refl _), (HC5.out.put hgw).put hgw⟩
  · go_wp2
    exact bodyPost_ret (v := .agg #[.slice (some ⟨b, 0, none⟩) l.length c1, .int .i64 k]) (by simp [results, Try.results12, go_sem, *]) rfl ⟨_, c1, l, k, rfl, owns_base (dbox_far (dbox_far HO3.out (g := w.heap.size) (p := 0) (fun e => down_apart HO3.out HR3.out (by decide) _ e rfl)) (g := w.heap.size) (p := 1) (fun e => down_apart HO3.out HR3.out (by decide) _ e rfl)) (by omega), HK.out, hl1, by omega, HIK.out, turned_own (turned_own HT3.out (Nat.le_refl _)) (Nat.le_refl _), (HC3.out.put hgw).put hgw⟩
def RetDrawSpec (w : World) : Ending → World → Prop := fun e w' => ∃ (A : Option Addr) (c : Nat) (l : List Span) (k : Int), e = .returned (.agg #[.slice A l.length c, .int .i64 k]) ∧ SlAt RSpan 3 w' A l.length l ∧ 1 ≤ l.length ∧ l.length ≤ 4 ∧ In64 k ∧ Ext w w'
set_option maxHeartbeats 4000000 in
theorem DrawSpecText_c (bs : List Int) (A : Option Addr) (n c : Nat) (w : World) (hs : SlAt RU8 1 w A n bs) (hn : n ≤ 1048576) : Calls Try.prog 4 #[.slice A n c] w (RetDrawSpec w) := by
  have HN := Lib.hid (l01New_c bs A n c (w.alloc (.cells #[.slice none 0 0, .int .i64 0] 25)) (hs.ext RU8.mono ((Ext.refl w).alloc _)) hn)
  have HR0 := Lib.hid (dbox2 w (.slice none 0 0) (.int .i64 0) 25)
  clear hs
  go_enter Try.func4, Try.ntmps4
  go_wp2_with fail
  refine HN.out.mono ?_
  rintro e w0 ⟨g, rfl, hg, hb0, hc0⟩
  have hg0 : w.heap.size + 1 ≤ g := by simpa using hg
  have HE0 := Lib.hid (((Ext.refl w).alloc (.cells #[.slice none 0 0, .int .i64 0] 25)).trans hb0)
  have HR1 := Lib.hid (owns_ext HR0.out hb0)
  have hlt := hc0.lt
  clear hb0
  go_wp2_with fail
  refine (l13Any_c g _ hc0).mono ?_
  rintro e w1 ⟨A1, c1, l, k, rfl, ho1, hk1, hl1, hl2, hik, ht1, hc1⟩
  have HR2 := Lib.hid (show w1.ownsRow w.heap.size 25 2 (.slice (some ⟨w.heap.size, 0, none⟩) 1 1) 1 [.slice none 0 0, .int .i64 0] from owns_off HR1.out ht1 (fun q e => .inl (by have e1 : w.heap.size = q := Option.some.inj e; omega)))
  have HO := Lib.hid ho1
  have HK := Lib.hid hk1
  have HE1 := Lib.hid (ext_turned HE0.out ht1 (by omega))
  have hs1 := ht1.le
  clear ho1 hk1 ht1 hc1
  obtain ⟨r0, r1, q0, q1, hr⟩ := dbox2_cells HR2.out
  go_wp2
  exact bodyPost_ret (v := .agg #[.slice A1 l.length c1, .int .i64 k]) (by simp [results, Try.results4, go_sem, *]) rfl ⟨A1, c1, l, k, rfl, rowD_sl Span.size (owns_ext (dbox_far (dbox_far HO.out (g := w.heap.size) (p := 0) (fun e => down_apart HO.out HR2.out (by decide) _ e rfl)) (g := w.heap.size) (p := 1) (fun e => down_apart HO.out HR2.out (by decide) _ e rfl)) ((Ext.refl _).alloc _)) HK.out, hl1, hl2, hik, ((HE1.out.setCell (p := ⟨w.heap.size, 0, none⟩) (Nat.le_refl _) _).setCell (p := ⟨w.heap.size, 1, none⟩) (Nat.le_refl _) _).alloc _⟩
end Go.Proofs.Ytlaoflpgngfbpaa
