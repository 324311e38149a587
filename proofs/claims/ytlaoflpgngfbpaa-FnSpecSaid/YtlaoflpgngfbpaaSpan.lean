/- Contracts over spans of numbers. -/
import Derived.Test.YtlaoflpgngfbpaaSmall
import Derived.Test.YtlaoflpgngfbpaaChain
import Derived.Test.YtlaoflpgngfbpaaNest
namespace Go.Proofs.Ytlaoflpgngfbpaa
open Go.RowKit
set_option linter.unusedVariables false
def idB (n : Int) : Bool := decide (1 ≤ n ∧ n ≤ 999)
theorem idB_iff {n : Int} : idB n = true ↔ 1 ≤ n ∧ n ≤ 999 := by unfold idB; rw [decide_eq_true_iff]
def spanOkB (x : Span) : Bool := idB x.Lo && idB x.Hi && !decide (x.Hi < x.Lo) && idB x.Step && !(x.Lo == x.Hi && x.Step != 1)
def spanLt (p x : Span) : Bool := !decide (x.Lo ≤ p.Hi)
def cntI (x : Span) : Int := (x.Hi - x.Lo) / x.Step + 1
def sumC (l : List Span) : Int := (l.map cntI).sum
def specB (l : List Span) (m : Int) : Bool := withinB l.length 1 8 && withinB m 0 60 && chainGo spanOkB spanLt none l && decide (sumC l ≤ 60)
theorem spanOk_iff {x : Span} : spanOkB x = true ↔ (1 ≤ x.Lo ∧ x.Lo ≤ 999) ∧ (x.Lo ≤ x.Hi ∧ x.Hi ≤ 999) ∧ (1 ≤ x.Step ∧ x.Step ≤ 999) ∧ (x.Lo = x.Hi → x.Step = 1) := by
  unfold spanOkB
  simp only [Bool.and_eq_true, idB_iff, Bool.not_eq_true', decide_eq_false_iff_not, Bool.and_eq_false_iff, beq_eq_false_iff_ne, bne_eq_false_iff_eq, ne_eq]
  constructor
  · rintro ⟨⟨⟨⟨h1, h2⟩, h3⟩, h4⟩, h5⟩; exact ⟨h1, by omega, h4, fun e => by rcases h5 with h5 | h5; exact absurd e h5; exact h5⟩
  · rintro ⟨h1, h2, h3, h4⟩
    refine ⟨⟨⟨⟨h1, by omega⟩, by omega⟩, h3⟩, ?_⟩
    by_cases e : x.Lo = x.Hi
    · exact .inr (h4 e)
    · exact .inl e
theorem div_range {a s : Int} (ha : 0 ≤ a) (h1 : a ≤ 998) (hs : 1 ≤ s) : 0 ≤ a / s ∧ a / s ≤ 998 :=
  ⟨Int.ediv_nonneg ha (by omega), Int.le_trans (Int.ediv_le_self _ ha) h1⟩
theorem cnt_range {x : Span} (h : spanOkB x = true) : 1 ≤ cntI x ∧ cntI x ≤ 999 := by
  obtain ⟨h1, h2, h3, _⟩ := spanOk_iff.1 h
  have := div_range (a := x.Hi - x.Lo) (s := x.Step) (by omega) (by omega) (by omega)
  unfold cntI; omega
theorem sumC_succ {l : List Span} {k : Nat} {x : Span} (hx : l[k]? = some x) : sumC (l.take (k + 1)) = sumC (l.take k) + cntI x := by
  unfold sumC; rw [take_succ hx]; simp
theorem cell_box (w : World) (cs : List Value) (e : TypeId) (j : Nat) (u : Value) (h : cs[j]? = some u) : (w.alloc (.cells cs.toArray e)).cell? ⟨w.heap.size, j, none⟩ = some u := by
  rw [cell_of_row _ _ _ cs.toArray e (0, 0) (heap_alloc_new w _)]; simpa using h
theorem withinB_lo (n : Int) : withinB n 1 999 = idB n := rfl
theorem withinB_hi {x : Span} (h : idB x.Lo = true) : withinB x.Hi x.Lo 999 = (idB x.Hi && !decide (x.Hi < x.Lo)) := by
  rw [idB_iff] at h
  unfold withinB idB; rw [Bool.eq_iff_iff]; simp; omega
set_option maxHeartbeats 8000000 in
set_option maxRecDepth 10000 in
theorem SpecOk_c (xs : List Span) (m : Int) (A : Option Addr) (n c : Nat) (w : World) (h : SlAt RSpan 3 w A n xs) (hl : n ≤ maxLen) : Calls Try.prog 13 #[.agg #[.slice A n c, .int .i64 m]] w (Ret w (.bool (specB xs m))) := by
  unfold maxLen at hl
  have HN := Lib.hid h.len
  have HM := Lib.hid (Flat.mono Span.enc Span.ok)
  rcases (Bool.eq_false_or_eq_true (withinB n 1 8)).symm with g1 | g1
  · have HF := Lib.hid (show specB xs m = false by unfold specB; rw [HN.out, g1]; rfl)
    go_enter Try.func13, Try.ntmps13
    go_wp2_with fail
    refine (within_c _ _ _ _).mono ?_
    rintro e w1 ⟨rfl, rfl⟩
    go_wp2
    exact ret_bool rfl rfl rfl HF.out.symm (by repeat (first | exact Ext.refl _ | assumption | apply Ext.alloc | apply Ext.drewN | apply Ext.drew | (refine Ext.setCell ?_ (by first | (simp; done) | (simp; omega) | omega) _) | (refine Ext.trans ?_ (by assumption))))
  rcases (Bool.eq_false_or_eq_true (withinB m 0 60)).symm with g2 | g2
  · have HF := Lib.hid (show specB xs m = false by unfold specB; rw [HN.out, g1, g2]; rfl)
    go_enter Try.func13, Try.ntmps13
    go_wp2_with fail
    refine (within_c _ _ _ _).mono ?_
    rintro e w1 ⟨rfl, rfl⟩
    go_wp2_with fail
    refine (within_c _ _ _ _).mono ?_
    rintro e w2 ⟨rfl, rfl⟩
    go_wp2
    exact ret_bool rfl rfl rfl HF.out.symm (by repeat (first | exact Ext.refl _ | assumption | apply Ext.alloc | apply Ext.drewN | apply Ext.drew | (refine Ext.setCell ?_ (by first | (simp; done) | (simp; omega) | omega) _) | (refine Ext.trans ?_ (by assumption))))
  have HF := Lib.hid (show specB xs m = (chainGo spanOkB spanLt none xs && decide (sumC xs ≤ 60)) by unfold specB; rw [HN.out, g1, g2]; rfl)
  have hn8 : n ≤ 8 := by unfold withinB at g1; rw [decide_eq_true_iff] at g1; omega
  go_enter Try.func13, Try.ntmps13
  go_wp2_with fail
  refine (within_c _ _ _ _).mono ?_
  rintro e w1 ⟨rfl, rfl⟩
  go_wp2_with fail
  refine (within_c _ _ _ _).mono ?_
  rintro e w2 ⟨rfl, rfl⟩
  go_wp2
  go_loopw [3, 20] (fun v i wr => ∃ (k : Nat) (s : Int), k ≤ n ∧ i = .int .i64 k ∧ v = .int .i64 s ∧ 0 ≤ s ∧ s ≤ 999 * k ∧ Ext (w.alloc (.cells #[.slice A n c, .int .i64 m] 25)) wr ∧ Hid (s = sumC (xs.take k)) ∧ Hid (chainGo spanOkB spanLt none xs = chainGo spanOkB spanLt (prevOf xs k) (xs.drop k))) (fun _ i _ => n - (intOf i).toNat)
  case atStart => exact ⟨0, 0, Nat.zero_le _, rfl, rfl, by omega, by omega, Ext.refl _, Lib.hid rfl, Lib.hid rfl⟩
  case round =>
    obtain ⟨k, s, hk, rfl, rfl, s0, s1, hb0, HSU, HCH⟩ := hrel
    have hb : Ext w wr := ((Ext.refl w).alloc _).trans hb0
    have q0 := hb0.cell (cell_box w [.slice A n c, .int .i64 m] 25 0 _ rfl)
    have hwz := hb0.le
    simp at hwz
    have HE := Lib.hid (show specB xs m = (chainGo spanOkB spanLt (prevOf xs k) (xs.drop k) && decide (sumC xs ≤ 60)) by rw [HF.out, HCH.out])
    by_cases hlt : k < n
    · obtain ⟨b, o, d, cs, rfl, hbw, hx, _, hc, rfl, hok⟩ := (h.ext HM.out hb).at_ hlt
      have c0 := hc 0 _ rfl
      have c1 := hc 1 _ rfl
      have c2 := hc 2 _ rfl
      simp only [Nat.add_zero] at c0
      have HX := Lib.hid hx; have HB := Lib.hid hb
      have HDe := Lib.hid (fun (hb : spanOkB d = false) => chain_bad (lt := spanLt) (prevOf xs k) hb (xs.drop (k + 1)))
      have hbw2 : b < wr.heap.size + 1 := by omega
      have hbw3 : w.heap.size < wr.heap.size + 1 := by omega
      have hbw4 : w.heap.size < wr.heap.size := by omega
      have hcx := @Later.cell (wr.alloc (.cells #[.int .i64 d.Lo, .int .i64 d.Hi, .int .i64 d.Step] 46))
      rcases (Bool.eq_false_or_eq_true (withinB d.Lo 1 999)).symm with h1 | h1
      · have HQ := Lib.hid h1
        clear hc hx hb h
        go_wp2
        refine wp_region_ext (by kernel_rfl) (by kernel_rfl) ?_
        repeat (go_big_quiet_step ((go_at_call 25; exact Calls.quiet_ext ((Same.ret (within_c _ _ _ _))))))
        refine wpQuiet_nil ?_
        intro w1 hb1
        have HB1 := Lib.hid hb1
        clear hcx c0 c1 c2 q0 hb1
        go_wp2
        refine ret_bool rfl rfl rfl ?_ ((HB.out.alloc _).trans HB1.out)
        rw [HE.out, drop_cons HX.out, HDe.out (by unfold spanOkB; rw [show idB d.Lo = false from HQ.out]; rfl)] <;> rfl
      rcases (Bool.eq_false_or_eq_true (withinB d.Hi d.Lo 999)).symm with h2 | h2
      · have HQ := Lib.hid h2
        clear hc hx hb h
        go_wp2
        refine wp_region_ext (by kernel_rfl) (by kernel_rfl) ?_
        repeat (go_big_quiet_step ((go_at_call 25; exact Calls.quiet_ext ((Same.ret (within_c _ _ _ _))))))
        refine wpQuiet_nil ?_
        intro w1 hb1
        have HB1 := Lib.hid hb1
        clear hcx c0 c1 c2 q0 hb1
        go_wp2
        refine ret_bool rfl rfl rfl ?_ ((HB.out.alloc _).trans HB1.out)
        rw [HE.out, drop_cons HX.out, HDe.out (by have e := HQ.out; rw [withinB_hi h1] at e; unfold spanOkB; rw [show idB d.Lo = true from h1, Bool.true_and, e]; rfl)] <;> rfl
      rcases (Bool.eq_false_or_eq_true (withinB d.Step 1 999)).symm with h3 | h3
      · have HQ := Lib.hid h3
        clear hc hx hb h
        go_wp2
        refine wp_region_ext (by kernel_rfl) (by kernel_rfl) ?_
        repeat (go_big_quiet_step ((go_at_call 25; exact Calls.quiet_ext ((Same.ret (within_c _ _ _ _))))))
        refine wpQuiet_nil ?_
        intro w1 hb1
        have HB1 := Lib.hid hb1
        clear hcx c0 c1 c2 q0 hb1
        go_wp2
        refine ret_bool rfl rfl rfl ?_ ((HB.out.alloc _).trans HB1.out)
        rw [HE.out, drop_cons HX.out, HDe.out (by unfold spanOkB; rw [show idB d.Step = false from HQ.out]; simp)] <;> rfl
      rcases Bool.eq_false_or_eq_true (d.Lo == d.Hi && d.Step != 1) with h4 | h4
      · have HQ := Lib.hid h4
        rw [Bool.and_eq_true] at h4
        obtain ⟨h4a, h4b⟩ := h4
        clear hc hx hb h
        go_wp2
        refine wp_region_ext (by kernel_rfl) (by kernel_rfl) ?_
        repeat (go_big_quiet_step ((go_at_call 25; exact Calls.quiet_ext ((Same.ret (within_c _ _ _ _))))))
        refine wpQuiet_nil ?_
        intro w1 hb1
        have HB1 := Lib.hid hb1
        clear hcx c0 c1 c2 q0 hb1
        go_wp2
        refine ret_bool rfl rfl rfl ?_ ((HB.out.alloc _).trans HB1.out)
        rw [HE.out, drop_cons HX.out, HDe.out (by unfold spanOkB; rw [HQ.out]; simp)] <;> rfl
      have HOK := Lib.hid (show spanOkB d = true by
        have e := h2; rw [withinB_hi h1, Bool.and_eq_true] at e
        unfold spanOkB; rw [show idB d.Lo = true from h1, e.1, e.2, show idB d.Step = true from h3, h4]; rfl)
      obtain ⟨⟨a1, a2⟩, ⟨a3, a4⟩, ⟨a5, a6⟩, _⟩ := spanOk_iff.1 HOK.out
      obtain ⟨v0, v1⟩ := div_range (a := d.Hi - d.Lo) (s := d.Step) (by omega) (by omega) (by omega)
      have HS := Lib.hid (sumC_succ hx)
      have h4' : (d.Lo == d.Hi) = false ∨ ((d.Lo == d.Hi) = true ∧ (d.Step != 1) = false) := by
        cases e1 : (d.Lo == d.Hi)
        · exact .inl rfl
        · exact .inr ⟨rfl, by rw [e1, Bool.true_and] at h4; exact h4⟩
      clear h4
      by_cases hk0 : k = 0
      · have ht : decide (0 < k) = false := by rw [decide_eq_false_iff_not]; omega
        have HG := Lib.hid (chain_first (ok := spanOkB) (lt := spanLt) (l := xs) hk0 d (xs.drop (k + 1)))
        rcases h4' with h4 | ⟨h4, h5⟩
        all_goals
          clear hc hx hb h hk0
          go_wp2
          refine wp_region_ext (by kernel_rfl) (by kernel_rfl) ?_
          repeat (go_big_quiet_step ((go_at_call 25; exact Calls.quiet_ext ((Same.ret (within_c _ _ _ _))))))
          refine wpQuiet_nil ?_
          intro w1 hb1
          have HB1 := Lib.hid hb1
          clear hcx c0 c1 c2 q0 hb1
          have y0 := HB1.out.cell (cell_box wr [.int .i64 d.Lo, .int .i64 d.Hi, .int .i64 d.Step] 46 0 _ rfl)
          have y1 := HB1.out.cell (cell_box wr [.int .i64 d.Lo, .int .i64 d.Hi, .int .i64 d.Step] 46 1 _ rfl)
          have y2 := HB1.out.cell (cell_box wr [.int .i64 d.Lo, .int .i64 d.Hi, .int .i64 d.Step] 46 2 _ rfl)
          go_wp2
          go_roundw
          case rel => exact ⟨k + 1, s + ((d.Hi - d.Lo) / d.Step + 1), by omega, by go_num, by go_num, by omega, by omega, (hb0.alloc _).trans HB1.out, Lib.hid (by rw [HS.out, ← HSU.out]; rfl), Lib.hid (by rw [HCH.out, drop_cons HX.out, HG.out, prevOf_succ HX.out, HOK.out, Bool.true_and])⟩
          case measure => simp [intOf]; omega
      · have ht : decide (0 < k) = true := by rw [decide_eq_true_iff]; omega
        obtain ⟨b', o', q, cs', e, _, hx', _, hc', rfl, _⟩ := (h.ext HM.out hb).at_ (show k - 1 < n by omega)
        simp only [Option.some.injEq, Addr.mk.injEq, and_true] at e
        obtain ⟨rfl, rfl⟩ := e
        have d0 := hc' 0 _ rfl
        have d1 := hc' 1 _ rfl
        have d2 := hc' 2 _ rfl
        simp only [Nat.add_zero] at d0
        have hk1 : 0 < k := by omega
        have hprev : prevOf xs k = some q := by rw [prevOf, if_neg hk0, hx']
        have HP := Lib.hid hprev
        clear d0 d2
        rcases Bool.eq_false_or_eq_true (decide (d.Lo ≤ q.Hi)) with h5 | h5
        all_goals
          have H5 := Lib.hid (show spanLt q d = _ from congrArg (!·) h5)
          rcases h4' with h4 | ⟨h4, h6⟩
        all_goals
          clear hc hx hb h hc' hx' hprev hk0
          go_wp2
          refine wp_region_ext (by kernel_rfl) (by kernel_rfl) ?_
          repeat (go_big_quiet_step ((go_at_call 25; exact Calls.quiet_ext ((Same.ret (within_c _ _ _ _))))))
          refine wpQuiet_nil ?_
          intro w1 hb1
          have HB1 := Lib.hid hb1
          clear hcx c0 c1 c2 q0 d1 hb1
          have y0 := HB1.out.cell (cell_box wr [.int .i64 d.Lo, .int .i64 d.Hi, .int .i64 d.Step] 46 0 _ rfl)
          have y1 := HB1.out.cell (cell_box wr [.int .i64 d.Lo, .int .i64 d.Hi, .int .i64 d.Step] 46 1 _ rfl)
          have y2 := HB1.out.cell (cell_box wr [.int .i64 d.Lo, .int .i64 d.Hi, .int .i64 d.Step] 46 2 _ rfl)
          go_wp2
        · exact ret_bool rfl rfl rfl (by rw [HE.out, drop_cons HX.out, chain_ge HP.out H5.out]; rfl) ((HB.out.alloc _).trans HB1.out)
        · exact ret_bool rfl rfl rfl (by rw [HE.out, drop_cons HX.out, chain_ge HP.out H5.out]; rfl) ((HB.out.alloc _).trans HB1.out)
        all_goals
          go_roundw
          case rel => exact ⟨k + 1, s + ((d.Hi - d.Lo) / d.Step + 1), by omega, by go_num, by go_num, by omega, by omega, (hb0.alloc _).trans HB1.out, Lib.hid (by rw [HS.out, ← HSU.out]; rfl), Lib.hid (by rw [HCH.out, drop_cons HX.out, chain_lt HP.out H5.out, prevOf_succ HX.out, HOK.out, Bool.true_and])⟩
          case measure => simp [intOf]; omega
    · have HZ := Lib.hid (show sumC xs = s by rw [HSU.out, List.take_of_length_le (by have := HN.out; omega)])
      clear h
      go_wp2
      refine ret_bool rfl rfl rfl ?_ hb
      rw [HE.out, List.drop_eq_nil_of_le (by have := HN.out; omega), chain_end, HZ.out, Bool.true_and]
end Go.Proofs.Ytlaoflpgngfbpaa
