/- Contract: an array out of a text, the reference's way. -/
import Derived.Test.YtafccgnaifhnkaaTextS
import Derived.Deep.RegionLaw
namespace Go.Proofs.Ytafccgnaifhnkaa
open Go.RowKit
set_option linter.unusedVariables false
theorem specS_yes {s : ByteArray} (h0 : specB (spansS s) (mostS s) = true) (h : specText (spansS s) (mostS s) = s) : specS s = (⟨spansS s, mostS s⟩, true) := by unfold specS; rw [if_pos ⟨h0, h⟩]
theorem specS_no {s : ByteArray} (h : ¬ (specB (spansS s) (mostS s) = true ∧ specText (spansS s) (mostS s) = s)) : specS s = (⟨[], 0⟩, false) := by unfold specS; rw [if_neg h]
set_option maxHeartbeats 8000000 in
set_option maxRecDepth 8000 in
theorem sTextSpec_c (s : ByteArray) (w : World) (hs : s.size ≤ 1048576) : Calls Try.prog 28 #[.string s] w (RetSpec w (specS s)) := by
  obtain ⟨i0, hi, hz0, hz1, hz2⟩ := info_parts SpanR.info
  have HP := Lib.hid (sParts_c s 37 (w.alloc (.cells #[.slice none 0 0, .int .i64 0] 53)) hs)
  obtain ⟨hl1, hl2⟩ := partsS_len s 37
  have HSZ := Lib.hid (partsS_size s 37)
  have HMS := Lib.hid (show mostS s = if (partsS s 37).length = 2 then (textN (snd (partsS s 37))).1 else 0 from rfl)
  have HSP := Lib.hid (show spansS s = (partsS (hd (partsS s 37)) 44).map spanS from rfl)
  generalize partsS s 37 = pp at *
  go_enter Try.func28, Try.ntmps28
  go_wp2_with fail
  refine HP.out.mono ?_
  rintro e w1 ⟨A, c, rfl, ho, hb1⟩
  have HS := Lib.hid ho.slAt
  have HO2 := Lib.hid (owns_ext (owns_box2 w (.slice none 0 0) (.int .i64 0) 53) hb1)
  have hw1 := hb1.le
  simp at hw1
  have HB1 := Lib.hid (((Ext.refl w).alloc (.cells #[.slice none 0 0, .int .i64 0] 53)).trans hb1)
  obtain ⟨b0, o0, p0, rfl, hbl, hx0, c0⟩ := str_at HS.out (k := 0) (by omega)
  rw [Nat.add_zero] at c0
  have HH := Lib.hid (show hd pp = p0 from by
    cases pp with
    | nil => simp at hx0
    | cons a r => simp at hx0; rw [hx0]; rfl)
  rw [HH.out] at HSP
  have hp0 : p0.size ≤ 1048576 := by have := HSZ.out p0 (List.mem_of_getElem? hx0); omega
  have HP2 := Lib.hid (fun u => sParts_c p0 44 u hp0)
  have HQL := Lib.hid (partsS_len p0 44)
  have HQS := Lib.hid (partsS_size p0 44)
  clear ho hb1 hx0
  by_cases h2 : pp.length = 2
  · obtain ⟨b1, o1, p1, e1, _, hx1, c1⟩ := str_at HS.out (k := 1) (by omega)
    injection e1 with e1
    injection e1 with e1 e2
    subst e1 e2
    have HH1 := Lib.hid (show snd pp = p1 from by
      cases pp with
      | nil => simp at hx1
      | cons a r =>
        cases r with
        | nil => simp at hx1
        | cons d q => simp at hx1; rw [hx1]; rfl)
    rw [if_pos h2, HH1.out] at HMS
    have hp1 : p1.size ≤ 1048576 := by have := HSZ.out p1 (List.mem_of_getElem? hx1); omega
    have HT := Lib.hid (fun u => sTextNum_c p1 u (by unfold maxLen; omega))
    have hq1 : ((pp.length : Int) == 2) = true := by rw [beq_iff_eq]; omega
    have hL1 : 1 < pp.length := by omega
    generalize textN p1 = r1 at *
    clear h2 hx1
    go_wp2_with fail
    refine (HT.out _).mono ?_
    rintro e w2 ⟨rfl, hb2⟩
    have hO5 := owns_ext (owns_box2 w1 (.slice none 0 0) (.int .i64 0) 53) hb2
    have k0 := hb2.cell (((Ext.refl w1).alloc (.cells #[.slice none 0 0, .int .i64 0] 53)).cell c0)
    have hE2 := (((Ext.refl w1).alloc (.cells #[.slice none 0 0, .int .i64 0] 53)).trans hb2)
    have hz2' := hb2.le
    simp at hz2'
    obtain ⟨k0', k1', f0', f1', hk'⟩ := box2_cells hO5
    have HO5a := Lib.hid (show (w2.setCell ⟨w1.heap.size, 1, none⟩ (.int .i64 r1.1)).ownsRow w1.heap.size 53 2 (.slice (some ⟨w1.heap.size, 0, none⟩) 1 1) 1 [.slice none 0 0, .int .i64 r1.1] from (hO5.stored 1 (.int .i64 r1.1)).1)
    have HO2a := Lib.hid (box_far (owns_ext HO2.out hE2) (g := w1.heap.size) (p := 1) (u := .int .i64 r1.1) (fun e => by have e1 : w.heap.size = w1.heap.size := Option.some.inj e; omega))
    have HBa := Lib.hid ((HB1.out.trans hE2).setCell (p := ⟨w1.heap.size, 1, none⟩) (by simp only []; omega) (.int .i64 r1.1))
    clear hb2 hE2 hO5 c0 c1
    go_wp2_with fail
    refine (HP2.out _).mono ?_
    rintro e w3 ⟨AP, cP, rfl, ho3, hb3⟩
    clear k0 k0' k1' f0' f1'
    have HO5 := Lib.hid (show w3.ownsRow w1.heap.size 53 2 (.slice (some ⟨w1.heap.size, 0, none⟩) 1 1) 1 [.slice none 0 0, .int .i64 r1.1] from owns_ext HO5a.out hb3)
    have HO2' := Lib.hid (show w3.ownsRow w.heap.size 53 2 (.slice (some ⟨w.heap.size, 0, none⟩) 1 1) 1 [.slice none 0 0, .int .i64 0] from owns_ext HO2a.out hb3)
    have HB3 := Lib.hid (show Ext w w3 from HBa.out.trans hb3)
    have hrow := own_rows encStr_size (by decide) ho3
    have HOP := Lib.hid (owns_widen (base' := w1.heap.size) hrow.1 (fun q e => by have := (hrow.1.lt q e).1; simp at this; omega))
    have HOPK := Lib.hid hrow.2
    have HMO := Lib.hid (show mostS s = r1.1 from HMS.out)
    obtain ⟨hpl1, hpl2⟩ := HQL.out
    generalize partsS p0 44 = ps at *
    clear hrow ho3 hb3
    go_wp2
    go_loopw [27] (fun i wr => ∃ (k : Nat) (A1 : Option Addr) (c1 : Nat) (acc : List Span), k ≤ ps.length ∧ i = .int .i64 k ∧ Hid (acc.length = k) ∧ Hid (acc = (ps.take k).map spanS) ∧ Hid (wr.ownsRow w1.heap.size 90 3 (.slice A1 acc.length c1) acc.length (acc.flatMap Span.enc)) ∧ Hid (wr.ownsRow w1.heap.size 53 2 (.slice (some ⟨w1.heap.size, 0, none⟩) 1 1) 1 [.slice A1 acc.length c1, .int .i64 r1.1]) ∧ Hid (wr.ownsRow w.heap.size 53 2 (.slice (some ⟨w.heap.size, 0, none⟩) 1 1) 1 [.slice none 0 0, .int .i64 0]) ∧ Hid (wr.ownsRow w1.heap.size 9 1 (.slice AP ps.length cP) ps.length (ps.flatMap encStr)) ∧ Ext w wr) (fun i _ => ps.length - (intOf i).toNat)
    case atStart => exact ⟨0, none, 0, [], Nat.zero_le _, rfl, Lib.hid rfl, Lib.hid rfl, Lib.hid (World.ownsRow_nil _ _ _ _), HO5, HO2', HOP, HB3.out⟩
    case round =>
      clear HO5 HO2' HB3 HOP
      obtain ⟨k, A1, c1, acc, hk, rfl, HLEN, HACC, HOA, HO6, HO2, HOP, hb⟩ := hrel
      have hla : acc.length ≤ ps.length := by have := HLEN.out; omega
      obtain ⟨e60, e61, f60, f61, h6⟩ := box2_cells HO6.out
      by_cases hlt : k < ps.length
      · obtain ⟨bt, ot, t, rfl, hbt, hx, ct⟩ := str_at (OwnAt.flat encStr_size HOPK.out HOP.out).slAt hlt
        have hts : t.size ≤ 1048576 := by have := HQS.out t (List.mem_of_getElem? hx); omega
        have HSI := Lib.hid (fun u => l13Span_c t u hts)
        have HX3 := Lib.hid (spanS_ok t)
        have HA1 := Lib.hid (show acc ++ [spanS t] = (ps.take (k + 1)).map spanS by rw [take_succ hx, List.map_append, HACC.out, List.map_singleton])
        generalize spanS t = x at *
        clear hx
        have hwz := h6
        go_wp2
        go_region_law (first
          | (go_simp; go_at_call 63; (with_reducible refine (HSI.out _).mono ?_); rintro e w4 ⟨rfl, hb4⟩; have HE4 := Lib.hid (((Ext.refl wr).drew).trans hb4); have HA4 := Lib.hid (owns_ext HOA.out HE4.out); have HO64 := Lib.hid (owns_ext HO6.out HE4.out); have x4 := HE4.out.cell e60; have hl4 : w1.heap.size < w4.heap.size := lt_of_cell x4; clear hb4)
          | (refine step_append_r (enc := Span.enc) (ok := Span.ok) (by rfl) _ _ _ (by rfl) w1.heap.size 90 i0 _ 3 24 Try.underlying51 hi hz0 hz1 hz2 rfl (by omega) (.slice A1 acc.length c1) acc.length (acc.flatMap Span.enc) _ 1 1 [x] (acc.length + 1) rfl (by rfl) (by rfl) (owns_ext HA4.out ((Ext.refl _).alloc _)) (by exact sl_one_r (enc := Span.enc) w4 x 90 rfl HX3.out) Span.size Span.one (by unfold maxLen; omega) (by omega) (by simp; omega) ?_; intro A5 c5 w5 hr5; have x5 : w5.cell? ⟨w1.heap.size, 0, none⟩ = some (.slice A1 acc.length c1) := hr5.cell (((Ext.refl w4).alloc (.cells #[.int .i64 x.Lo, .int .i64 x.Hi, .int .i64 x.Step] 90)).cell (box2_cells HO64.out).1) (fun e => own_apart HA4.out HO64.out (by decide) _ e rfl); have y5 : w5.frozen? ⟨w1.heap.size, 0, none⟩ = false := hr5.frozen ((((Ext.refl w4).alloc (.cells #[.int .i64 x.Lo, .int .i64 x.Hi, .int .i64 x.Step] 90)).frozenEq (a := ⟨w1.heap.size, 0, none⟩) (by simp only []; omega)).trans (box2_cells HO64.out).2.2.1) (by simp; omega) (fun e => own_apart HA4.out HO64.out (by decide) _ e rfl); have hl5 := lt_of_cell x5))
        all_goals
          have HR5 := Lib.hid hr5
          clear hr5 x5 y5 hl5 e60 e61 f60 f61 x4
          have a2 := (Ext.refl w4).alloc (.cells (Span.enc x).toArray 90)
          have HA5 := Lib.hid (show w5.ownsRow w1.heap.size 90 3 (.slice A5 (acc.length + 1) c5) (acc.length + 1) ((acc ++ [x]).flatMap Span.enc) from by have := HR5.out.row; rw [List.flatMap_append]; simpa using this)
          have HB5 := HR5.out.other (owns_ext HO64.out a2) (own_apart HO64.out HA4.out (by decide))
          have H66 := Lib.hid (show (w5.setCell ⟨w1.heap.size, 0, none⟩ (.slice A5 (acc.length + 1) c5)).ownsRow w1.heap.size 53 2 (.slice (some ⟨w1.heap.size, 0, none⟩) 1 1) 1 [.slice A5 (acc.length + 1) c5, .int .i64 r1.1] from (HB5.stored 0 _).1)
          have H26 := Lib.hid (box_far (HR5.out.other (owns_ext (owns_ext HO2.out HE4.out) a2) (own_apart (owns_ext HO2.out HE4.out) HA4.out (by decide))) (g := w1.heap.size) (p := 0) (u := .slice A5 (acc.length + 1) c5) (fun e => by have e1 : w.heap.size = w1.heap.size := Option.some.inj e; omega))
          have HP6 := Lib.hid (box_far (HR5.out.other (owns_ext (owns_ext HOP.out HE4.out) a2) (own_apart (owns_ext HOP.out HE4.out) HA4.out (by decide))) (g := w1.heap.size) (p := 0) (u := .slice A5 (acc.length + 1) c5) (fun e => own_apart (owns_ext HOP.out HE4.out) HO64.out (by decide) _ e rfl))
          have HA6 := Lib.hid (box_far HA5.out (g := w1.heap.size) (p := 0) (u := .slice A5 (acc.length + 1) c5) (fun e => own_apart HA5.out HB5 (by decide) _ e rfl))
          have HE6 := Lib.hid ((ext_turned ((hb.trans HE4.out).trans a2) (HR5.out.turned (lo := w.heap.size) (fun q e => by have := (HOA.out.lt q e).1; omega)) (Nat.le_refl _)).setCell (p := ⟨w1.heap.size, 0, none⟩) (by simp only []; omega) (.slice A5 (acc.length + 1) c5))
          clear a2 HB5
          go_wp2
          go_roundw
          case rel => exact ⟨k + 1, A5, c5, acc ++ [x], by omega, by go_num, Lib.hid (by rw [List.length_append, HLEN.out]; rfl), HA1, by simpa using HA6, by simpa using H66, H26, HP6, HE6.out⟩
          case measure => simp [intOf]; omega
      · have HK := Lib.hid (show acc = spansS s by rw [HACC.out, List.take_of_length_le (by omega), HSP.out])
        have hOK := Lib.hid (show ∀ x ∈ acc, x.ok from fun x hx => by
          rw [HACC.out] at hx
          obtain ⟨t, _, rfl⟩ := List.mem_map.1 hx
          exact spanS_ok t)
        have HSO := Lib.hid (sSpecOk_c acc (r1.1) A1 acc.length c1 wr (OwnAt.flat Span.size hOK.out HOA.out).slAt (by unfold maxLen; omega))
        have HST := Lib.hid (fun (u : World) (e : Ext wr u) => sSpecText_c acc (r1.1) A1 acc.length c1 u ((OwnAt.flat Span.size hOK.out HOA.out).slAt.ext (Flat.mono _ _) e) (by unfold maxLen; omega))
        rcases Bool.eq_false_or_eq_true (specB acc (r1.1)) with hB | hB
        · rw [hB] at HSO
          rcases Classical.em (specText acc (r1.1) = s) with he | he
          · have HYES := Lib.hid (show specS s = (⟨acc, r1.1⟩, true) by rw [specS_yes (by rw [← HK.out, HMO.out]; exact hB) (by rw [← HK.out, HMO.out]; exact he), ← HK.out, HMO.out])
            have hq2 := str_beq_true he
            generalize specText acc (r1.1) = tx at *
            clear he hB
            go_wp2_with fail
            refine HSO.out.mono ?_
            rintro e w7 ⟨rfl, hb7⟩
            obtain ⟨k60, k61, j60, j61, hj6⟩ := box2_cells (owns_ext HO6.out hb7)
            go_wp2_with fail
            refine (HST.out _ hb7).mono ?_
            rintro e w8 ⟨rfl, hb8⟩
            have hb9 := hb7.trans hb8
            clear k60 k61 j60 j61 hj6
            obtain ⟨r20, r21, s20, s21, hr2⟩ := box2_cells (owns_ext HO2.out hb9)
            obtain ⟨k60, k61, j60, j61, hj6⟩ := box2_cells (owns_ext HO6.out hb9)
            have HFR := Lib.hid (box_far (box_far (owns_ext HOA.out hb9) (g := w.heap.size) (p := 0) (u := .slice A1 acc.length c1) (fun e => own_apart HOA.out HO2.out (by decide) _ e rfl)) (g := w.heap.size) (p := 1) (u := .int .i64 (r1.1)) (fun e => own_apart HOA.out HO2.out (by decide) _ e rfl))
            have hEW := hb.trans hb9
            clear hb7 hb8 hb9
            go_wp2
            rw [HYES.out]
            exact bodyPost_ret (by simp [results, Try.results28, go_sem, r20, r21] <;> rfl) rfl ⟨A1, c1, rfl, owns_base HFR.out (by omega), hOK.out, by repeat (first | with_reducible exact hEW | with_reducible refine Ext.setCell ?_ (by simp only []; omega) _)⟩
          · have HNO := Lib.hid (show specS s = (⟨[], 0⟩, false) from specS_no (fun h => he (by rw [HK.out, ← HMO.out]; exact h.2)))
            have hq2 := str_beq_false he
            generalize specText acc (r1.1) = tx at *
            clear he hB
            go_wp2_with fail
            refine HSO.out.mono ?_
            rintro e w7 ⟨rfl, hb7⟩
            obtain ⟨k60, k61, j60, j61, hj6⟩ := box2_cells (owns_ext HO6.out hb7)
            go_wp2_with fail
            refine (HST.out _ hb7).mono ?_
            rintro e w8 ⟨rfl, hb8⟩
            have hb9 := hb7.trans hb8
            obtain ⟨r20, r21, s20, s21, hr2⟩ := box2_cells (owns_ext HO2.out hb9)
            have hEW := hb.trans hb9
            clear hb7 hb8 hb9
            go_wp2
            rw [HNO.out]
            exact bodyPost_ret (by simp [results, Try.results28, go_sem, r20, r21] <;> rfl) rfl ⟨none, 0, rfl, World.ownsRow_nil _ _ _ _, (fun x hx => by cases hx), by repeat (first | with_reducible exact hEW | with_reducible refine Ext.setCell ?_ (by simp only []; omega) _)⟩
        · rw [hB] at HSO
          have HNO := Lib.hid (show specS s = (⟨[], 0⟩, false) from specS_no (fun h => by rw [← HK.out, HMO.out, hB] at h; cases h.1))
          clear hB
          go_wp2_with fail
          refine HSO.out.mono ?_
          rintro e w7 ⟨rfl, hb7⟩
          obtain ⟨r20, r21, s20, s21, hr2⟩ := box2_cells (owns_ext HO2.out hb7)
          have hEW := hb.trans hb7
          clear hb7
          go_wp2
          rw [HNO.out]
          exact bodyPost_ret (by simp [results, Try.results28, go_sem, r20, r21] <;> rfl) rfl ⟨none, 0, rfl, World.ownsRow_nil _ _ _ _, (fun x hx => by cases hx), by repeat (first | with_reducible exact hEW | with_reducible refine Ext.setCell ?_ (by simp only []; omega) _)⟩
  · rw [if_neg h2] at HMS
    have hq1 : ((pp.length : Int) == 2) = false := by rw [beq_eq_false_iff_ne]; omega
    clear h2
    go_wp2_with fail
    refine (HP2.out _).mono ?_
    rintro e w3 ⟨AP, cP, rfl, ho3, hb3⟩
    have hz3 := hb3.le
    simp at hz3
    clear c0
    have HO5 := Lib.hid (show w3.ownsRow w1.heap.size 53 2 (.slice (some ⟨w1.heap.size, 0, none⟩) 1 1) 1 [.slice none 0 0, .int .i64 0] from owns_ext (owns_box2 w1 (.slice none 0 0) (.int .i64 0) 53) hb3)
    have HO2' := Lib.hid (show w3.ownsRow w.heap.size 53 2 (.slice (some ⟨w.heap.size, 0, none⟩) 1 1) 1 [.slice none 0 0, .int .i64 0] from owns_ext HO2.out (((Ext.refl w1).alloc _).trans hb3))
    have HB3 := Lib.hid (show Ext w w3 from HB1.out.trans (((Ext.refl w1).alloc _).trans hb3))
    have hrow := own_rows encStr_size (by decide) ho3
    have HOP := Lib.hid (owns_widen (base' := w1.heap.size) hrow.1 (fun q e => by have := (hrow.1.lt q e).1; simp at this; omega))
    have HOPK := Lib.hid hrow.2
    have HMO := Lib.hid (show mostS s = 0 from HMS.out)
    obtain ⟨hpl1, hpl2⟩ := HQL.out
    generalize partsS p0 44 = ps at *
    clear hrow ho3 hb3
    go_wp2
    go_loopw [27] (fun i wr => ∃ (k : Nat) (A1 : Option Addr) (c1 : Nat) (acc : List Span), k ≤ ps.length ∧ i = .int .i64 k ∧ Hid (acc.length = k) ∧ Hid (acc = (ps.take k).map spanS) ∧ Hid (wr.ownsRow w1.heap.size 90 3 (.slice A1 acc.length c1) acc.length (acc.flatMap Span.enc)) ∧ Hid (wr.ownsRow w1.heap.size 53 2 (.slice (some ⟨w1.heap.size, 0, none⟩) 1 1) 1 [.slice A1 acc.length c1, .int .i64 0]) ∧ Hid (wr.ownsRow w.heap.size 53 2 (.slice (some ⟨w.heap.size, 0, none⟩) 1 1) 1 [.slice none 0 0, .int .i64 0]) ∧ Hid (wr.ownsRow w1.heap.size 9 1 (.slice AP ps.length cP) ps.length (ps.flatMap encStr)) ∧ Ext w wr) (fun i _ => ps.length - (intOf i).toNat)
    case atStart => exact ⟨0, none, 0, [], Nat.zero_le _, rfl, Lib.hid rfl, Lib.hid rfl, Lib.hid (World.ownsRow_nil _ _ _ _), HO5, HO2', HOP, HB3.out⟩
    case round =>
      clear HO5 HO2' HB3 HOP
      obtain ⟨k, A1, c1, acc, hk, rfl, HLEN, HACC, HOA, HO6, HO2, HOP, hb⟩ := hrel
      have hla : acc.length ≤ ps.length := by have := HLEN.out; omega
      obtain ⟨e60, e61, f60, f61, h6⟩ := box2_cells HO6.out
      by_cases hlt : k < ps.length
      · obtain ⟨bt, ot, t, rfl, hbt, hx, ct⟩ := str_at (OwnAt.flat encStr_size HOPK.out HOP.out).slAt hlt
        have hts : t.size ≤ 1048576 := by have := HQS.out t (List.mem_of_getElem? hx); omega
        have HSI := Lib.hid (fun u => l13Span_c t u hts)
        have HX3 := Lib.hid (spanS_ok t)
        have HA1 := Lib.hid (show acc ++ [spanS t] = (ps.take (k + 1)).map spanS by rw [take_succ hx, List.map_append, HACC.out, List.map_singleton])
        generalize spanS t = x at *
        clear hx
        have hwz := h6
        go_wp2
        go_region_law (first
          | (go_simp; go_at_call 63; (with_reducible refine (HSI.out _).mono ?_); rintro e w4 ⟨rfl, hb4⟩; have HE4 := Lib.hid (((Ext.refl wr).drew).trans hb4); have HA4 := Lib.hid (owns_ext HOA.out HE4.out); have HO64 := Lib.hid (owns_ext HO6.out HE4.out); have x4 := HE4.out.cell e60; have hl4 : w1.heap.size < w4.heap.size := lt_of_cell x4; clear hb4)
          | (refine step_append_r (enc := Span.enc) (ok := Span.ok) (by rfl) _ _ _ (by rfl) w1.heap.size 90 i0 _ 3 24 Try.underlying51 hi hz0 hz1 hz2 rfl (by omega) (.slice A1 acc.length c1) acc.length (acc.flatMap Span.enc) _ 1 1 [x] (acc.length + 1) rfl (by rfl) (by rfl) (owns_ext HA4.out ((Ext.refl _).alloc _)) (by exact sl_one_r (enc := Span.enc) w4 x 90 rfl HX3.out) Span.size Span.one (by unfold maxLen; omega) (by omega) (by simp; omega) ?_; intro A5 c5 w5 hr5; have x5 : w5.cell? ⟨w1.heap.size, 0, none⟩ = some (.slice A1 acc.length c1) := hr5.cell (((Ext.refl w4).alloc (.cells #[.int .i64 x.Lo, .int .i64 x.Hi, .int .i64 x.Step] 90)).cell (box2_cells HO64.out).1) (fun e => own_apart HA4.out HO64.out (by decide) _ e rfl); have y5 : w5.frozen? ⟨w1.heap.size, 0, none⟩ = false := hr5.frozen ((((Ext.refl w4).alloc (.cells #[.int .i64 x.Lo, .int .i64 x.Hi, .int .i64 x.Step] 90)).frozenEq (a := ⟨w1.heap.size, 0, none⟩) (by simp only []; omega)).trans (box2_cells HO64.out).2.2.1) (by simp; omega) (fun e => own_apart HA4.out HO64.out (by decide) _ e rfl); have hl5 := lt_of_cell x5))
        all_goals
          have HR5 := Lib.hid hr5
          clear hr5 x5 y5 hl5 e60 e61 f60 f61 x4
          have a2 := (Ext.refl w4).alloc (.cells (Span.enc x).toArray 90)
          have HA5 := Lib.hid (show w5.ownsRow w1.heap.size 90 3 (.slice A5 (acc.length + 1) c5) (acc.length + 1) ((acc ++ [x]).flatMap Span.enc) from by have := HR5.out.row; rw [List.flatMap_append]; simpa using this)
          have HB5 := HR5.out.other (owns_ext HO64.out a2) (own_apart HO64.out HA4.out (by decide))
          have H66 := Lib.hid (show (w5.setCell ⟨w1.heap.size, 0, none⟩ (.slice A5 (acc.length + 1) c5)).ownsRow w1.heap.size 53 2 (.slice (some ⟨w1.heap.size, 0, none⟩) 1 1) 1 [.slice A5 (acc.length + 1) c5, .int .i64 0] from (HB5.stored 0 _).1)
          have H26 := Lib.hid (box_far (HR5.out.other (owns_ext (owns_ext HO2.out HE4.out) a2) (own_apart (owns_ext HO2.out HE4.out) HA4.out (by decide))) (g := w1.heap.size) (p := 0) (u := .slice A5 (acc.length + 1) c5) (fun e => by have e1 : w.heap.size = w1.heap.size := Option.some.inj e; omega))
          have HP6 := Lib.hid (box_far (HR5.out.other (owns_ext (owns_ext HOP.out HE4.out) a2) (own_apart (owns_ext HOP.out HE4.out) HA4.out (by decide))) (g := w1.heap.size) (p := 0) (u := .slice A5 (acc.length + 1) c5) (fun e => own_apart (owns_ext HOP.out HE4.out) HO64.out (by decide) _ e rfl))
          have HA6 := Lib.hid (box_far HA5.out (g := w1.heap.size) (p := 0) (u := .slice A5 (acc.length + 1) c5) (fun e => own_apart HA5.out HB5 (by decide) _ e rfl))
          have HE6 := Lib.hid ((ext_turned ((hb.trans HE4.out).trans a2) (HR5.out.turned (lo := w.heap.size) (fun q e => by have := (HOA.out.lt q e).1; omega)) (Nat.le_refl _)).setCell (p := ⟨w1.heap.size, 0, none⟩) (by simp only []; omega) (.slice A5 (acc.length + 1) c5))
          clear a2 HB5
          go_wp2
          go_roundw
          case rel => exact ⟨k + 1, A5, c5, acc ++ [x], by omega, by go_num, Lib.hid (by rw [List.length_append, HLEN.out]; rfl), HA1, by simpa using HA6, by simpa using H66, H26, HP6, HE6.out⟩
          case measure => simp [intOf]; omega
      · have HK := Lib.hid (show acc = spansS s by rw [HACC.out, List.take_of_length_le (by omega), HSP.out])
        have hOK := Lib.hid (show ∀ x ∈ acc, x.ok from fun x hx => by
          rw [HACC.out] at hx
          obtain ⟨t, _, rfl⟩ := List.mem_map.1 hx
          exact spanS_ok t)
        have HSO := Lib.hid (sSpecOk_c acc (0) A1 acc.length c1 wr (OwnAt.flat Span.size hOK.out HOA.out).slAt (by unfold maxLen; omega))
        have HST := Lib.hid (fun (u : World) (e : Ext wr u) => sSpecText_c acc (0) A1 acc.length c1 u ((OwnAt.flat Span.size hOK.out HOA.out).slAt.ext (Flat.mono _ _) e) (by unfold maxLen; omega))
        rcases Bool.eq_false_or_eq_true (specB acc (0)) with hB | hB
        · rw [hB] at HSO
          rcases Classical.em (specText acc (0) = s) with he | he
          · have HYES := Lib.hid (show specS s = (⟨acc, 0⟩, true) by rw [specS_yes (by rw [← HK.out, HMO.out]; exact hB) (by rw [← HK.out, HMO.out]; exact he), ← HK.out, HMO.out])
            have hq2 := str_beq_true he
            generalize specText acc (0) = tx at *
            clear he hB
            go_wp2_with fail
            refine HSO.out.mono ?_
            rintro e w7 ⟨rfl, hb7⟩
            obtain ⟨k60, k61, j60, j61, hj6⟩ := box2_cells (owns_ext HO6.out hb7)
            go_wp2_with fail
            refine (HST.out _ hb7).mono ?_
            rintro e w8 ⟨rfl, hb8⟩
            have hb9 := hb7.trans hb8
            clear k60 k61 j60 j61 hj6
            obtain ⟨r20, r21, s20, s21, hr2⟩ := box2_cells (owns_ext HO2.out hb9)
            obtain ⟨k60, k61, j60, j61, hj6⟩ := box2_cells (owns_ext HO6.out hb9)
            have HFR := Lib.hid (box_far (box_far (owns_ext HOA.out hb9) (g := w.heap.size) (p := 0) (u := .slice A1 acc.length c1) (fun e => own_apart HOA.out HO2.out (by decide) _ e rfl)) (g := w.heap.size) (p := 1) (u := .int .i64 (0)) (fun e => own_apart HOA.out HO2.out (by decide) _ e rfl))
            have hEW := hb.trans hb9
            clear hb7 hb8 hb9
            go_wp2
            rw [HYES.out]
            exact bodyPost_ret (by simp [results, Try.results28, go_sem, r20, r21] <;> rfl) rfl ⟨A1, c1, rfl, owns_base HFR.out (by omega), hOK.out, by repeat (first | with_reducible exact hEW | with_reducible refine Ext.setCell ?_ (by simp only []; omega) _)⟩
          · have HNO := Lib.hid (show specS s = (⟨[], 0⟩, false) from specS_no (fun h => he (by rw [HK.out, ← HMO.out]; exact h.2)))
            have hq2 := str_beq_false he
            generalize specText acc (0) = tx at *
            clear he hB
            go_wp2_with fail
            refine HSO.out.mono ?_
            rintro e w7 ⟨rfl, hb7⟩
            obtain ⟨k60, k61, j60, j61, hj6⟩ := box2_cells (owns_ext HO6.out hb7)
            go_wp2_with fail
            refine (HST.out _ hb7).mono ?_
            rintro e w8 ⟨rfl, hb8⟩
            have hb9 := hb7.trans hb8
            obtain ⟨r20, r21, s20, s21, hr2⟩ := box2_cells (owns_ext HO2.out hb9)
            have hEW := hb.trans hb9
            clear hb7 hb8 hb9
            go_wp2
            rw [HNO.out]
            exact bodyPost_ret (by simp [results, Try.results28, go_sem, r20, r21] <;> rfl) rfl ⟨none, 0, rfl, World.ownsRow_nil _ _ _ _, (fun x hx => by cases hx), by repeat (first | with_reducible exact hEW | with_reducible refine Ext.setCell ?_ (by simp only []; omega) _)⟩
        · rw [hB] at HSO
          have HNO := Lib.hid (show specS s = (⟨[], 0⟩, false) from specS_no (fun h => by rw [← HK.out, HMO.out, hB] at h; cases h.1))
          clear hB
          go_wp2_with fail
          refine HSO.out.mono ?_
          rintro e w7 ⟨rfl, hb7⟩
          obtain ⟨r20, r21, s20, s21, hr2⟩ := box2_cells (owns_ext HO2.out hb7)
          have hEW := hb.trans hb7
          clear hb7
          go_wp2
          rw [HNO.out]
          exact bodyPost_ret (by simp [results, Try.results28, go_sem, r20, r21] <;> rfl) rfl ⟨none, 0, rfl, World.ownsRow_nil _ _ _ _, (fun x hx => by cases hx), by repeat (first | with_reducible exact hEW | with_reducible refine Ext.setCell ?_ (by simp only []; omega) _)⟩
end Go.Proofs.Ytafccgnaifhnkaa
