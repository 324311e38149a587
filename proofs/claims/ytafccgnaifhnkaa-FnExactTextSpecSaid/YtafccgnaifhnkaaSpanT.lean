/- Contracts: a span out of a text, the reference's way. -/
import Derived.Test.YtafccgnaifhnkaaTwoC
namespace Go.Proofs.Ytafccgnaifhnkaa
open Go.RowKit
set_option linter.unusedVariables false
theorem owns_box3 (w : World) (a b c : Value) (e : TypeId) : (w.alloc (.cells #[a, b, c] e)).ownsRow w.heap.size e 3 (.slice (some ⟨w.heap.size, 0, none⟩) 1 1) 1 [a, b, c] :=
  World.ownsRow_lit w #[a, b, c] 1 (Nat.le_refl _) (by unfold maxLen; omega) (by simp)
theorem box3_cells {w : World} {base b : Nat} {e : TypeId} {u0 u1 u2 : Value} (h : w.ownsRow base e 3 (.slice (some ⟨b, 0, none⟩) 1 1) 1 [u0, u1, u2]) : w.cell? ⟨b, 0, none⟩ = some u0 ∧ w.cell? ⟨b, 1, none⟩ = some u1 ∧ w.cell? ⟨b, 2, none⟩ = some u2 ∧ w.frozen? ⟨b, 0, none⟩ = false ∧ w.frozen? ⟨b, 1, none⟩ = false ∧ w.frozen? ⟨b, 2, none⟩ = false ∧ b < w.heap.size :=
  ⟨by rw [h.cellAt 0 (by omega)]; rfl, by rw [h.cellAt 1 (by omega)]; rfl, by rw [h.cellAt 2 (by omega)]; rfl, h.frozenAt 0, h.frozenAt 1, h.frozenAt 2, (h.lt b rfl).2⟩
theorem box_far {w : World} {lo n : Nat} {e : TypeId} {sz : Nat} {v : Value} {L : List Value} {g p : Nat} {u : Value} (h : w.ownsRow lo e sz v n L) (hne : v.ownBlock ≠ some g) : (w.setCell ⟨g, p, none⟩ u).ownsRow lo e sz v n L := by
  obtain ⟨h1, h2⟩ := h
  refine ⟨h1, ?_⟩
  rcases h2 with h2 | ⟨b, cap, cur, rfl, hg, hh, r⟩
  · exact .inl h2
  · refine .inr ⟨b, cap, cur, rfl, hg, (Below.heap_setCell _ _ _ _ (fun e => hne ?_)).trans hh, r⟩
    simp only [] at e
    rw [e]; rfl
set_option maxHeartbeats 4000000 in
set_option maxRecDepth 4000 in
theorem l13Span_c (t : ByteArray) (w : World) (hs : t.size ≤ 1048576) : Calls Try.prog 63 #[.string t] w (Ret w (.agg #[.int .i64 (spanS t).Lo, .int .i64 (spanS t).Hi, .int .i64 (spanS t).Step])) := by
  have HP := Lib.hid (sParts_c t 58 (w.alloc (.cells #[.int .i64 0, .int .i64 0, .int .i64 0] 90)) hs)
  obtain ⟨hl1, hl2⟩ := partsS_len t 58
  have HSZ := Lib.hid (partsS_size t 58)
  have HE := Lib.hid (show spanS t = ⟨(textN (hd (partsS (hd (partsS t 58)) 45))).1, if (partsS (hd (partsS t 58)) 45).length = 2 then (textN (snd (partsS (hd (partsS t 58)) 45))).1 else (textN (hd (partsS (hd (partsS t 58)) 45))).1, if (partsS t 58).length = 2 then (textN (snd (partsS t 58))).1 else 1⟩ from rfl)
  generalize spanS t = x at *
  generalize partsS t 58 = ps at *
  go_enter Try.func63, Try.ntmps63
  go_wp2_with fail
  refine HP.out.mono ?_
  rintro e w1 ⟨A, c, rfl, ho, hb1⟩
  have HS := Lib.hid ho.slAt
  have HO2 := Lib.hid (owns_ext (owns_box3 w (.int .i64 0) (.int .i64 0) (.int .i64 0) 90) hb1)
  have hw1 := hb1.le
  simp at hw1
  have HB1 := Lib.hid (((Ext.refl w).alloc (.cells #[.int .i64 0, .int .i64 0, .int .i64 0] 90)).trans hb1)
  obtain ⟨b0, o0, p0, rfl, hbl, hx0, c0⟩ := str_at HS.out (k := 0) (by omega)
  rw [Nat.add_zero] at c0
  have HH := Lib.hid (show hd ps = p0 from by
    cases ps with
    | nil => simp at hx0
    | cons a r => simp at hx0; rw [hx0]; rfl)
  rw [HH.out] at HE
  have hp0 : p0.size ≤ 1048576 := by have := HSZ.out p0 (List.mem_of_getElem? hx0); omega
  have HP2 := Lib.hid (fun u => sParts_c p0 45 u hp0)
  have HQL := Lib.hid (partsS_len p0 45)
  have HQS := Lib.hid (partsS_size p0 45)
  generalize partsS p0 45 = qs at *
  clear ho hb1 hx0
  by_cases h2 : ps.length = 2
  · obtain ⟨b1, o1, p1, e1, _, hx1, c1⟩ := str_at HS.out (k := 1) (by omega)
    injection e1 with e1
    injection e1 with e1 e2
    subst e1 e2
    have HH1 := Lib.hid (show snd ps = p1 from by
      cases ps with
      | nil => simp at hx1
      | cons a r =>
        cases r with
        | nil => simp at hx1
        | cons d q => simp at hx1; rw [hx1]; rfl)
    rw [if_pos h2, HH1.out] at HE
    have hp1 : p1.size ≤ 1048576 := by have := HSZ.out p1 (List.mem_of_getElem? hx1); omega
    have HT := Lib.hid (fun u => sTextNum_c p1 u (by unfold maxLen; omega))
    have hq1 : ((ps.length : Int) == 2) = true := by rw [beq_iff_eq]; omega
    have hL1 : 1 < ps.length := by omega
    generalize textN p1 = r1 at *
    clear h2 hx1
    go_wp2_with fail
    refine (HT.out _).mono ?_
    rintro e w2 ⟨rfl, hb2⟩
    have hO4 := owns_ext (owns_box3 w1 (.int .i64 0) (.int .i64 0) (.int .i64 1) 90) hb2
    have k0 := hb2.cell (((Ext.refl w1).alloc (.cells #[.int .i64 0, .int .i64 0, .int .i64 1] 90)).cell c0)
    have hE2 := (((Ext.refl w1).alloc (.cells #[.int .i64 0, .int .i64 0, .int .i64 1] 90)).trans hb2)
    have hz2 := hb2.le
    simp at hz2
    obtain ⟨k0', k1', k2', f0', f1', f2', hk'⟩ := box3_cells hO4
    have HO4a := Lib.hid (show (w2.setCell ⟨w1.heap.size, 2, none⟩ (.int .i64 r1.1)).ownsRow w1.heap.size 90 3 (.slice (some ⟨w1.heap.size, 0, none⟩) 1 1) 1 [.int .i64 0, .int .i64 0, .int .i64 r1.1] from (hO4.stored 2 (.int .i64 r1.1)).1)
    have HO2a := Lib.hid (box_far (owns_ext HO2.out hE2) (g := w1.heap.size) (p := 2) (u := .int .i64 r1.1) (fun e => by have e1 : w.heap.size = w1.heap.size := Option.some.inj e; omega))
    have HBa := Lib.hid ((HB1.out.trans hE2).setCell (p := ⟨w1.heap.size, 2, none⟩) (by simp only []; omega) (.int .i64 r1.1))
    clear hb2 hE2 hO4 c0 c1
    go_wp2_with fail
    refine (HP2.out _).mono ?_
    rintro e w3 ⟨A3, c3, rfl, ho3, hb3⟩
    clear k0 k0' k1' k2' f0' f1' f2'
    have HO4 := Lib.hid (show w3.ownsRow w1.heap.size 90 3 (.slice (some ⟨w1.heap.size, 0, none⟩) 1 1) 1 [.int .i64 0, .int .i64 0, .int .i64 r1.1] from owns_ext HO4a.out hb3)
    have HO2 := Lib.hid (show w3.ownsRow w.heap.size 90 3 (.slice (some ⟨w.heap.size, 0, none⟩) 1 1) 1 [.int .i64 0, .int .i64 0, .int .i64 0] from owns_ext HO2a.out hb3)
    have HB3 := Lib.hid (show Ext w w3 from HBa.out.trans hb3)
    have HQ := Lib.hid ho3.slAt
    have HQB := Lib.hid (fun k e => (ho3.block k e).1)
    obtain ⟨hq1', hq2'⟩ := HQL.out
    obtain ⟨bq, oq, q0, rfl, hbq, hy0, d0⟩ := str_at HQ.out (k := 0) (by omega)
    rw [Nat.add_zero] at d0
    have hbq4 : w1.heap.size < bq := by have := HQB.out bq rfl; simp at this; omega
    have HH0 := Lib.hid (show hd qs = q0 from by
      cases qs with
      | nil => simp at hy0
      | cons a r => simp at hy0; rw [hy0]; rfl)
    have hz0 : q0.size ≤ 1048576 := by have := HQS.out q0 (List.mem_of_getElem? hy0); omega
    have HT0 := Lib.hid (fun u => sTextNum_c q0 u (by unfold maxLen; omega))
    rw [HH0.out] at HE
    generalize textN q0 = v0 at *
    by_cases hqq : qs.length = 2
    · obtain ⟨bq1, oq1, q1, e1, _, hy1, d1⟩ := str_at HQ.out (k := 1) (by omega)
      injection e1 with e1
      injection e1 with e1 e2
      subst e1 e2
      have HH1 := Lib.hid (show snd qs = q1 from by
        cases qs with
        | nil => simp at hy1
        | cons a r =>
          cases r with
          | nil => simp at hy1
          | cons d q => simp at hy1; rw [hy1]; rfl)
      have hz1 : q1.size ≤ 1048576 := by have := HQS.out q1 (List.mem_of_getElem? hy1); omega
      have HT1 := Lib.hid (fun u => sTextNum_c q1 u (by unfold maxLen; omega))
      rw [if_pos hqq, HH1.out] at HE
      have hqb : ((qs.length : Int) == 2) = true := by rw [beq_iff_eq]; omega
      have hL1 : 1 < qs.length := by omega
      have hL0 : 0 < qs.length := by omega
      generalize textN q1 = v1 at *
      clear hqq hy0 hy1 ho3 hb3
      go_wp2_with fail
      refine (HT0.out _).mono ?_
      rintro e w4 ⟨rfl, hb4⟩
      have HO42 := Lib.hid (owns_ext HO4.out hb4)
      have HO22 := Lib.hid (owns_ext HO2.out hb4)
      obtain ⟨k0, k1, k2, f0, f1, f2, hk⟩ := box3_cells HO42.out
      have g1 := hb4.cell d1
      have HB4 := Lib.hid ((HB3.out.trans hb4).setCell (p := ⟨w1.heap.size, 0, none⟩) (by simp only []; omega) (.int .i64 v0.1))
      have HB5 := Lib.hid (HB4.out.setCell (p := ⟨w1.heap.size, 1, none⟩) (by simp only []; omega) (.int .i64 v0.1))
      clear d0 d1 hb4
      go_wp2_with fail
      refine (HT1.out _).mono ?_
      rintro e w5 ⟨rfl, hb5⟩
      have HO45 := Lib.hid (owns_ext (((HO42.out.stored 0 (.int .i64 v0.1)).1).stored 1 (.int .i64 v0.1)).1 hb5)
      have HO25 := Lib.hid (owns_ext (box_far (box_far HO22.out (g := w1.heap.size) (p := 0) (u := .int .i64 v0.1) (fun e => by have e1 : w.heap.size = w1.heap.size := Option.some.inj e; omega)) (g := w1.heap.size) (p := 1) (u := .int .i64 v0.1) (fun e => by have e1 : w.heap.size = w1.heap.size := Option.some.inj e; omega)) hb5)
      obtain ⟨m0, m1, m2, n0, n1, n2, hm⟩ := box3_cells (show w5.ownsRow w1.heap.size 90 3 (.slice (some ⟨w1.heap.size, 0, none⟩) 1 1) 1 [.int .i64 v0.1, .int .i64 v0.1, .int .i64 r1.1] from HO45.out)
      obtain ⟨r0, r1', r2', s0, s1, s2, hr⟩ := box3_cells HO25.out
      have HB6 := Lib.hid (HB5.out.trans hb5)
      clear k0 k1 k2 f0 f1 f2 g1 hb5
      go_wp2
      rw [HE.out]
      exact bodyPost_ret (by simp [results, Try.results63, go_sem, r0, r1', r2']) rfl ⟨rfl, by repeat (first | with_reducible exact HB6.out | with_reducible refine Ext.setCell ?_ (by simp only []; omega) _)⟩
    · rw [if_neg hqq] at HE
      have hqb : ((qs.length : Int) == 2) = false := by rw [beq_eq_false_iff_ne]; omega
      have hL0 : 0 < qs.length := by omega
      clear hqq hy0 ho3 hb3
      go_wp2_with fail
      refine (HT0.out _).mono ?_
      rintro e w4 ⟨rfl, hb4⟩
      have HO42 := Lib.hid (owns_ext HO4.out hb4)
      have HO22 := Lib.hid (owns_ext HO2.out hb4)
      obtain ⟨k0, k1, k2, f0, f1, f2, hk⟩ := box3_cells HO42.out
      obtain ⟨r0, r1', r2', s0, s1, s2, hr⟩ := box3_cells HO22.out
      have HB4 := Lib.hid ((HB3.out.trans hb4).setCell (p := ⟨w1.heap.size, 0, none⟩) (by simp only []; omega) (.int .i64 v0.1))
      have HB5 := Lib.hid (HB4.out.setCell (p := ⟨w1.heap.size, 1, none⟩) (by simp only []; omega) (.int .i64 v0.1))
      clear d0 hb4
      go_wp2
      rw [HE.out]
      exact bodyPost_ret (by simp [results, Try.results63, go_sem, r0, r1', r2']) rfl ⟨rfl, by repeat (first | with_reducible exact HB5.out | with_reducible refine Ext.setCell ?_ (by simp only []; omega) _)⟩
  · rw [if_neg h2] at HE
    have hq1 : ((ps.length : Int) == 2) = false := by rw [beq_eq_false_iff_ne]; omega
    clear h2
    go_wp2_with fail
    refine (HP2.out _).mono ?_
    rintro e w3 ⟨A3, c3, rfl, ho3, hb3⟩
    have hz3 := hb3.le
    simp at hz3
    clear c0
    have HO4 := Lib.hid (show w3.ownsRow w1.heap.size 90 3 (.slice (some ⟨w1.heap.size, 0, none⟩) 1 1) 1 [.int .i64 0, .int .i64 0, .int .i64 1] from owns_ext (owns_box3 w1 (.int .i64 0) (.int .i64 0) (.int .i64 1) 90) hb3)
    have HO2 := Lib.hid (show w3.ownsRow w.heap.size 90 3 (.slice (some ⟨w.heap.size, 0, none⟩) 1 1) 1 [.int .i64 0, .int .i64 0, .int .i64 0] from owns_ext HO2.out (((Ext.refl w1).alloc _).trans hb3))
    have HB3 := Lib.hid (show Ext w w3 from HB1.out.trans (((Ext.refl w1).alloc _).trans hb3))
    have HQ := Lib.hid ho3.slAt
    have HQB := Lib.hid (fun k e => (ho3.block k e).1)
    obtain ⟨hq1', hq2'⟩ := HQL.out
    obtain ⟨bq, oq, q0, rfl, hbq, hy0, d0⟩ := str_at HQ.out (k := 0) (by omega)
    rw [Nat.add_zero] at d0
    have hbq4 : w1.heap.size < bq := by have := HQB.out bq rfl; simp at this; omega
    have HH0 := Lib.hid (show hd qs = q0 from by
      cases qs with
      | nil => simp at hy0
      | cons a r => simp at hy0; rw [hy0]; rfl)
    have hz0 : q0.size ≤ 1048576 := by have := HQS.out q0 (List.mem_of_getElem? hy0); omega
    have HT0 := Lib.hid (fun u => sTextNum_c q0 u (by unfold maxLen; omega))
    rw [HH0.out] at HE
    generalize textN q0 = v0 at *
    by_cases hqq : qs.length = 2
    · obtain ⟨bq1, oq1, q1, e1, _, hy1, d1⟩ := str_at HQ.out (k := 1) (by omega)
      injection e1 with e1
      injection e1 with e1 e2
      subst e1 e2
      have HH1 := Lib.hid (show snd qs = q1 from by
        cases qs with
        | nil => simp at hy1
        | cons a r =>
          cases r with
          | nil => simp at hy1
          | cons d q => simp at hy1; rw [hy1]; rfl)
      have hz1 : q1.size ≤ 1048576 := by have := HQS.out q1 (List.mem_of_getElem? hy1); omega
      have HT1 := Lib.hid (fun u => sTextNum_c q1 u (by unfold maxLen; omega))
      rw [if_pos hqq, HH1.out] at HE
      have hqb : ((qs.length : Int) == 2) = true := by rw [beq_iff_eq]; omega
      have hL1 : 1 < qs.length := by omega
      have hL0 : 0 < qs.length := by omega
      generalize textN q1 = v1 at *
      clear hqq hy0 hy1 ho3 hb3
      go_wp2_with fail
      refine (HT0.out _).mono ?_
      rintro e w4 ⟨rfl, hb4⟩
      have HO42 := Lib.hid (owns_ext HO4.out hb4)
      have HO22 := Lib.hid (owns_ext HO2.out hb4)
      obtain ⟨k0, k1, k2, f0, f1, f2, hk⟩ := box3_cells HO42.out
      have g1 := hb4.cell d1
      have HB4 := Lib.hid ((HB3.out.trans hb4).setCell (p := ⟨w1.heap.size, 0, none⟩) (by simp only []; omega) (.int .i64 v0.1))
      have HB5 := Lib.hid (HB4.out.setCell (p := ⟨w1.heap.size, 1, none⟩) (by simp only []; omega) (.int .i64 v0.1))
      clear d0 d1 hb4
      go_wp2_with fail
      refine (HT1.out _).mono ?_
      rintro e w5 ⟨rfl, hb5⟩
      have HO45 := Lib.hid (owns_ext (((HO42.out.stored 0 (.int .i64 v0.1)).1).stored 1 (.int .i64 v0.1)).1 hb5)
      have HO25 := Lib.hid (owns_ext (box_far (box_far HO22.out (g := w1.heap.size) (p := 0) (u := .int .i64 v0.1) (fun e => by have e1 : w.heap.size = w1.heap.size := Option.some.inj e; omega)) (g := w1.heap.size) (p := 1) (u := .int .i64 v0.1) (fun e => by have e1 : w.heap.size = w1.heap.size := Option.some.inj e; omega)) hb5)
      obtain ⟨m0, m1, m2, n0, n1, n2, hm⟩ := box3_cells (show w5.ownsRow w1.heap.size 90 3 (.slice (some ⟨w1.heap.size, 0, none⟩) 1 1) 1 [.int .i64 v0.1, .int .i64 v0.1, .int .i64 1] from HO45.out)
      obtain ⟨r0, r1', r2', s0, s1, s2, hr⟩ := box3_cells HO25.out
      have HB6 := Lib.hid (HB5.out.trans hb5)
      clear k0 k1 k2 f0 f1 f2 g1 hb5
      go_wp2
      rw [HE.out]
      exact bodyPost_ret (by simp [results, Try.results63, go_sem, r0, r1', r2']) rfl ⟨rfl, by repeat (first | with_reducible exact HB6.out | with_reducible refine Ext.setCell ?_ (by simp only []; omega) _)⟩
    · rw [if_neg hqq] at HE
      have hqb : ((qs.length : Int) == 2) = false := by rw [beq_eq_false_iff_ne]; omega
      have hL0 : 0 < qs.length := by omega
      clear hqq hy0 ho3 hb3
      go_wp2_with fail
      refine (HT0.out _).mono ?_
      rintro e w4 ⟨rfl, hb4⟩
      have HO42 := Lib.hid (owns_ext HO4.out hb4)
      have HO22 := Lib.hid (owns_ext HO2.out hb4)
      obtain ⟨k0, k1, k2, f0, f1, f2, hk⟩ := box3_cells HO42.out
      obtain ⟨r0, r1', r2', s0, s1, s2, hr⟩ := box3_cells HO22.out
      have HB4 := Lib.hid ((HB3.out.trans hb4).setCell (p := ⟨w1.heap.size, 0, none⟩) (by simp only []; omega) (.int .i64 v0.1))
      have HB5 := Lib.hid (HB4.out.setCell (p := ⟨w1.heap.size, 1, none⟩) (by simp only []; omega) (.int .i64 v0.1))
      clear d0 hb4
      go_wp2
      rw [HE.out]
      exact bodyPost_ret (by simp [results, Try.results63, go_sem, r0, r1', r2']) rfl ⟨rfl, by repeat (first | with_reducible exact HB5.out | with_reducible refine Ext.setCell ?_ (by simp only []; omega) _)⟩
end Go.Proofs.Ytafccgnaifhnkaa
