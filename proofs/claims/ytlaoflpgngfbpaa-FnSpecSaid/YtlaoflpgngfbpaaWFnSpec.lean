/- The law FnSpec returns true: the walk. -/
import Derived.Test.YtlaoflpgngfbpaaDrawSpec2
import Derived.Test.YtlaoflpgngfbpaaTextS
import Derived.Test.YtlaoflpgngfbpaaSpecLaw
namespace Go.Proofs.Ytlaoflpgngfbpaa
open Go.RowKit
set_option linter.unusedVariables false
theorem nl_len (k : Nat) (h : k ≤ 1000000000) : (nl k).length ≤ 10 := by
  have := numText_size k h
  unfold nl; rw [toL_len]; exact this
theorem item_len {x : Span} (h : spanOkB x = true) : (itemL x).length ≤ 32 := by
  obtain ⟨⟨a1, a2⟩, ⟨a3, a4⟩, ⟨a5, a6⟩, _⟩ := spanOk_iff.1 h
  have h1 := nl_len x.Lo.toNat (by omega)
  have h2 := nl_len x.Hi.toNat (by omega)
  have h3 := nl_len x.Step.toNat (by omega)
  unfold itemL headL
  split <;> split <;> simp <;> omega
theorem flat_len : ∀ (l : List Span), (∀ x ∈ l, spanOkB x = true) → (l.flatMap (fun x => 44 :: itemL x)).length ≤ 33 * l.length := by
  intro l
  induction l with
  | nil => intro _; simp
  | cons a r ih =>
    intro h
    have h1 := ih (fun y hy => h y (List.mem_cons_of_mem _ hy))
    have h2 := item_len (h a (List.mem_cons_self ..))
    rw [List.flatMap_cons, List.length_append, List.length_cons, List.length_cons]
    omega
theorem specText_size (l : List Span) (m : Int) : (specText l m).size ≤ 1000 := by
  rcases Bool.eq_false_or_eq_true (specB l m) with h | h
  · obtain ⟨hall, h8, _, m0, m1⟩ := specB_all h
    obtain ⟨x, r, rfl⟩ := spec_len h
    rw [← toL_len, specText_l h]
    have h1 := item_len (hall x (List.mem_cons_self ..))
    have h2 := flat_len r (fun y hy => hall y (List.mem_cons_of_mem _ hy))
    have h3 := nl_len m.toNat (by omega)
    have hj : (joinL x r).length ≤ 32 + 33 * r.length := by unfold joinL; rw [List.length_append]; omega
    simp only [List.length_cons] at h8
    split
    · rw [List.length_append, List.length_cons]; omega
    · omega
  · rw [specText_bad h]; exact Nat.zero_le _
def j0 : Job := ⟨0, 0, 1, ⟨0, 0, 0⟩, ⟨0, 0, 0⟩, 1, 0⟩
theorem j0_ok : j0.ok := by unfold j0; simp [Job.ok, In64]
theorem expand_yes {l : List Span} {m : Int} (h : specB l m = true) : expandB j0 l m = true ∧ expandL j0 l m = (specIdsL l m).map (setId j0) := by
  have e : expandB j0 l m = true := by unfold expandB; rw [h]; decide
  exact ⟨e, by unfold expandL; rw [if_pos e]⟩
theorem ids_no {l : List Span} {m : Int} (h : specB l m = false) : specIdsL l m = [] := by unfold specIdsL; rw [h]; rfl
set_option maxHeartbeats 8000000 in
set_option maxRecDepth 20000 in
theorem FnSpec_c (w : World) (A0 : Option Addr) (n0 c0 : Nat) (x0 : List Int) (h0 : SlAt RU8 1 w A0 n0 x0) (hn0 : n0 ≤ maxLen) : Calls Try.prog 3 #[.slice A0 n0 c0] w (Ret w (.bool true)) := by
  unfold maxLen at hn0
  by_cases hbig : 1048576 < n0
  · clear h0
    go_enter Try.func3, Try.ntmps3
    go_wp2
    exact ret_bool rfl rfl rfl rfl (Ext.refl _)
  have HD := Lib.hid (DrawSpecText_c x0 A0 n0 c0 w h0 (by omega))
  clear h0
  go_enter Try.func3, Try.ntmps3
  go_wp2_with fail
  refine HD.out.mono ?_
  rintro e w1 ⟨A, c, xs, m, rfl, hs, hl1, hl4, hm, hb1⟩
  have hM := Flat.mono Span.enc Span.ok
  have HS := Lib.hid (fun (u : World) (e : Ext w1 u) => hs.ext hM e)
  have HB1' := Lib.hid hb1
  have HE1 := Lib.hid ((Ext.refl w1).alloc (.cells #[.slice A xs.length c, .int .i64 m] 25))
  have HX1 := Lib.hid (dbox2 w1 (.slice A xs.length c) (.int .i64 m) 25)
  have hlm : xs.length ≤ maxLen := by unfold maxLen; omega
  have HT := Lib.hid (fun (u : World) (e : Ext w1 u) => SpecText_c xs m A xs.length c u (HS.out u e) hlm)
  have HO := Lib.hid (fun (u : World) (e : Ext w1 u) => sSpecOk_c xs m A xs.length c u (HS.out u e) hlm)
  have HI := Lib.hid (fun (u : World) (e : Ext w1 u) => SpecIds_c xs m A xs.length c u (HS.out u e) hlm)
  have HTS := Lib.hid (fun (u : World) => TextSpec_c (specText xs m) u (by have := specText_size xs m; omega))
  clear hs hb1
  rcases Bool.eq_false_or_eq_true (specB xs m) with hB | hB
  · have HQ := Lib.hid (show (specText xs m).toList.isEmpty = false from by
      rw [Bool.eq_false_iff]
      intro e
      have h1 := specText_ne hB
      have h2 : specText xs m = ByteArray.empty := bytes_inj.1 ((List.isEmpty_iff.1 e).trans (by rw [ByteArray.toList_eq]; rfl))
      rw [h2] at h1; exact h1 rfl)
    rw [spec_back hB] at HTS
    have HMR := Lib.hid (fun (id : Int) (h : (specIdsL xs m)[0]? = some id) => spec_runs hB h)
    obtain ⟨eB, eL⟩ := expand_yes hB
    have HEX := Lib.hid (fun (A' : Option Addr) (c' : Nat) (u : World) (h : SlAt RSpan 3 u A' xs.length xs) => Expand_c j0 xs m A' xs.length c' u j0_ok h hlm)
    rw [eB, eL] at HEX
    have HMY := Lib.hid (fun (id : Int) (u : World) (e : Ext w1 u) => MayRun_c xs m [] id A xs.length c none 0 0 u (HS.out u e) hlm (SlAt.nil _) (by unfold maxLen; omega))
    have HASC := Lib.hid (spec_asc hB)
    have hne := spec_ids_ne hB
    have h60 := specIdsL_len xs m
    rw [hB] at HO
    clear hB eB eL
    generalize specIdsL xs m = ids at *
    generalize specText xs m = t at *
    have hq := HQ.out
    go_wp2_with fail
    refine (HT.out _ HE1.out).mono ?_
    rintro e w2 ⟨rfl, hb2⟩
    have HX2 := Lib.hid (owns_ext HX1.out hb2)
    have HE2 := Lib.hid (HE1.out.trans hb2)
    clear hb2
    obtain ⟨k0, k1, f0, f1, hk⟩ := dbox2_cells HX2.out
    go_wp2_with fail
    refine (HO.out _ HE2.out).mono ?_
    rintro e w3 ⟨rfl, hb3⟩
    have HX3 := Lib.hid (owns_ext HX2.out hb3)
    have HE3 := Lib.hid (HE2.out.trans hb3)
    clear hb3 k0 k1 f0 f1 hk
    go_wp2_with fail
    refine (HTS.out _).mono ?_
    rintro e w4 ⟨A4, c4, rfl, ho4, hk4, hb4⟩
    have HSL4 := Lib.hid (OwnAt.flat Span.size hk4 ho4).slAt
    have HX4 := Lib.hid (owns_ext HX3.out hb4)
    have HE4 := Lib.hid (HE3.out.trans hb4)
    clear ho4 hk4 hb4
    simp only []
    go_wp2_with fail
    refine (HEX.out A4 c4 _ (HSL4.out.ext hM ((Ext.refl _).alloc _))).mono ?_
    rintro e w5 ⟨A5, c5, rfl, ho5, hb5⟩
    have HE45 := Lib.hid (((Ext.refl w4).alloc (.cells #[.slice A4 xs.length c4, .int .i64 m] 25)).trans hb5)
    have HX5 := Lib.hid (owns_ext HX4.out HE45.out)
    have HE5 := Lib.hid (HE4.out.trans HE45.out)
    have HJ5 := Lib.hid ho5.slAt
    clear ho5 hb5
    obtain ⟨k0, k1, f0, f1, hk⟩ := dbox2_cells HX5.out
    go_wp2_with fail
    refine (HI.out _ HE5.out).mono ?_
    rintro e w6 ⟨A6, c6, rfl, ho6, hb6⟩
    have HI6 := Lib.hid ho6.slAt
    have HJ6 := Lib.hid (HJ5.out.ext (Flat.mono _ _) hb6)
    have HX6 := Lib.hid (owns_ext HX5.out hb6)
    have HE6 := Lib.hid (HE5.out.trans hb6)
    have hml : (ids.map (setId j0)).length = ids.length := List.length_map ..
    rw [hml] at HJ6
    clear ho6 hb6 k0 k1 f0 f1 hk hml
    have hz : ((ids.length : Int) == 0) = false := by rw [beq_eq_false_iff_ne]; omega
    go_wp2
    go_loopw [62] (fun i wr => ∃ k : Nat, k ≤ ids.length ∧ i = .int .i64 k ∧ Ext w6 wr) (fun i _ => ids.length - (intOf i).toNat)
    case atStart => exact ⟨0, Nat.zero_le _, rfl, Ext.refl _⟩
    case round =>
      obtain ⟨k, hk, rfl, hb⟩ := hrel
      by_cases hlt : k < ids.length
      · obtain ⟨b6, o6, y, cs, rfl, hbw6, hy, _, hc6, rfl, _⟩ := (HI6.out.ext (Flat.mono _ _) hb).at_ hlt
        have p0 := hc6 0 _ rfl
        simp only [Nat.mul_one, Nat.add_zero] at p0
        obtain ⟨b5, o5, z, cs5, rfl, hbw5, hz5, _, hc5, rfl, _⟩ := (HJ6.out.ext (Flat.mono _ _) hb).at_ hlt
        have hzy : z = setId j0 y := by rw [List.getElem?_map, hy] at hz5; injection hz5 with hz5; exact hz5.symm
        subst hzy
        have q0 : wr.cell? ⟨b5, o5 + k * 11, none⟩ = some (.int .i64 y) := by have := hc5 0 _ rfl; rw [Nat.add_zero] at this; exact this
        have HY := Lib.hid hy
        have hcx := @Later.cell wr
        have hyy : (y != y) = false := by simp
        by_cases hk0 : k = 0
        · have ht : decide (0 < k) = false := by rw [decide_eq_false_iff_not]; omega
          clear hc6 hc5 hz5 hy hk0
          go_wp2
          refine wp_region_ext (by kernel_rfl) (by kernel_rfl) ?_
          repeat (go_big_quiet_step (fail))
          refine wpQuiet_nil ?_
          intro w1 hb1
          have HB1 := Lib.hid hb1
          clear hcx p0 q0 hb1
          go_wp2
          go_roundw
          case rel => exact ⟨k + 1, by omega, by go_num, hb.trans HB1.out⟩
          case measure => simp [intOf]; omega
        · have ht : decide (0 < k) = true := by rw [decide_eq_true_iff]; omega
          obtain ⟨b6', o6', yp, cs', e, _, hyp, _, hc6', rfl, _⟩ := (HI6.out.ext (Flat.mono _ _) hb).at_ (show k - 1 < ids.length by omega)
          simp only [Option.some.injEq, Addr.mk.injEq, and_true] at e
          obtain ⟨rfl, rfl⟩ := e
          have r0 := hc6' 0 _ rfl
          simp only [Nat.mul_one, Nat.add_zero] at r0
          have hasc : yp < y := asc_next HASC.out hyp (by rw [show k - 1 + 1 = k by omega]; exact hy)
          have hge : decide (y ≤ yp) = false := by rw [decide_eq_false_iff_not]; omega
          have hkm : IntKind.i64.wrap ((k : Int) - 1) = ((k - 1 : Nat) : Int) := by rw [IntWalk.i64_in _ ⟨by omega, by omega⟩]; omega
          have hk1 : k - 1 < ids.length := by omega
          clear hc6 hc5 hz5 hy hc6' hyp hasc
          go_wp2
          refine wp_region_ext (by kernel_rfl) (by kernel_rfl) ?_
          repeat (go_big_quiet_step (fail))
          refine wpQuiet_nil ?_
          intro w1 hb1
          have HB1 := Lib.hid hb1
          clear hcx p0 q0 r0 hb1
          go_wp2
          go_roundw
          case rel => exact ⟨k + 1, by omega, by go_num, hb.trans HB1.out⟩
          case measure => simp [intOf]; omega
      · obtain ⟨b6, o6, y, cs, rfl, hbw6, hy, _, hc6, rfl, _⟩ := (HI6.out.ext (Flat.mono _ _) hb).at_ (show 0 < ids.length by omega)
        have p0 := hc6 0 _ rfl
        simp only [Nat.mul_one, Nat.add_zero] at p0
        (try simp only [Nat.zero_mul, Nat.add_zero] at p0)
        have HMZ := HMR.out y hy
        have HMW := Lib.hid (fun (u : World) (e : Ext wr u) => HMY.out y u (HE6.out.trans (hb.trans e)))
        rw [HMZ] at HMW
        obtain ⟨k0, k1, f0, f1, hkk⟩ := dbox2_cells (owns_ext HX6.out hb)
        have hcx := @Later.cell wr
        clear hc6 hy HMZ
        go_wp2
        refine wp_region_ext (by kernel_rfl) (by kernel_rfl) ?_
        repeat (go_big_quiet_step ((go_at_call 10; exact Calls.quiet_ext ((HMW.out _ (Later.ext _))))))
        refine wpQuiet_nil ?_
        intro w1 hb1
        have HB1 := Lib.hid hb1
        clear hcx p0 k0 k1 hb1
        go_wp2
        exact ret_bool rfl rfl rfl rfl (HB1'.out.trans (HE6.out.trans (hb.trans HB1.out)))
  · have HE := specText_bad hB
    have HN := ids_no hB
    have hsb := spec_bad hB
    rw [hB] at HO
    rw [hsb] at HTS
    rw [HE] at HT HTS
    rw [HN] at HI
    have hq : (ByteArray.empty).toList.isEmpty = true := by rw [ByteArray.toList_eq]; rfl
    clear HE HN hsb hB
    go_wp2_with fail
    refine (HT.out _ HE1.out).mono ?_
    rintro e w2 ⟨rfl, hb2⟩
    have HX2 := Lib.hid (owns_ext HX1.out hb2)
    have HE2 := Lib.hid (HE1.out.trans hb2)
    clear hb2
    obtain ⟨k0, k1, f0, f1, hk⟩ := dbox2_cells HX2.out
    go_wp2_with fail
    refine (HO.out _ HE2.out).mono ?_
    rintro e w3 ⟨rfl, hb3⟩
    have HX3 := Lib.hid (owns_ext HX2.out hb3)
    have HE3 := Lib.hid (HE2.out.trans hb3)
    clear hb3 k0 k1 f0 f1 hk
    go_wp2_with fail
    refine (HTS.out _).mono ?_
    rintro e w4 ⟨A4, c4, rfl, ho4, hk4, hb4⟩
    have HX4 := Lib.hid (owns_ext (owns_ext HX3.out hb4) ((Ext.refl _).alloc (.cells #[.slice A4 0 c4, .int .i64 0] 25)))
    have HE4 := Lib.hid ((HE3.out.trans hb4).alloc (.cells #[.slice A4 0 c4, .int .i64 0] 25))
    clear ho4 hk4 hb4
    obtain ⟨k0, k1, f0, f1, hk⟩ := dbox2_cells HX4.out
    simp only [List.length_nil]
    go_wp2_with fail
    refine (HI.out _ HE4.out).mono ?_
    rintro e w5 ⟨A5, c5, rfl, ho5, hb5⟩
    go_wp2
    exact ret_bool rfl rfl rfl rfl (HB1'.out.trans (HE4.out.trans hb5))
end Go.Proofs.Ytlaoflpgngfbpaa
