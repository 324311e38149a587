/- The law FnExactWaves returns true: the walk. -/
import Derived.Test.YtgnbjnlcikpknaaVRow2
import Derived.Test.YtgnbjnlcikpknaaWaveS
namespace Go.Proofs.Ytgnbjnlcikpknaa
open Go.RowKit
set_option linter.unusedVariables false
theorem waves_flat {l : List Dep} {k : Nat} : ∀ {left : List Int} {ys : List (List Int)}, wavesF l k left = some ys → ys.length ≤ left.length ∧ ∀ y ∈ ys, y.length ≤ left.length := by
  induction k with
  | zero =>
    intro left ys h
    cases left with
    | nil => simp [wavesF] at h; subst h; simp
    | cons a r => simp [wavesF] at h
  | succ k ih =>
    intro left ys h
    rcases Nat.eq_zero_or_pos left.length with h0 | h0
    · have : left = [] := List.eq_nil_of_length_eq_zero h0
      subst this
      rw [wavesF_nil] at h; injection h with h; subst h; simp
    · rw [wavesF_some h0] at h
      by_cases hw : (left.filter (freeW l left)).length = 0
      · rw [if_pos hw] at h; cases h
      · rw [if_neg hw] at h
        cases hr : wavesF l k (left.filter (fun n => !freeW l left n)) with
        | none => rw [hr] at h; cases h
        | some zs =>
          rw [hr] at h
          injection h with h; subst h
          obtain ⟨h1, h2⟩ := ih hr
          have h3 := filter_split_len (freeW l left) left
          refine ⟨by simp only [List.length_cons]; omega, fun y hy => ?_⟩
          rcases List.mem_cons.1 hy with rfl | hy
          · omega
          · have := h2 y hy; omega
theorem wavesR_len (l : List Dep) (ids : List Int) : (wavesR l ids).1.length ≤ ids.length ∧ ∀ y ∈ (wavesR l ids).1, y.length ≤ ids.length := by
  unfold wavesR
  split
  · split
    · rename_i h; exact waves_flat h
    · exact ⟨by simp, fun y hy => by cases hy⟩
  · exact ⟨by simp, fun y hy => by cases hy⟩
theorem vm_le {xs : List (List Int)} {f : Nat → VItem} (hm : VMatch xs f) (hle : ∀ x ∈ xs, x.length ≤ 1048576) : ∀ j, j < xs.length → (f j).m ≤ 1048576 := fun j hj => by
  rw [(hm j _ (List.getElem?_eq_getElem hj)).1]
  exact hle _ (List.getElem_mem hj)
set_option maxHeartbeats 4000000 in
set_option maxRecDepth 10000 in
theorem FnExactWaves_c (w : World) (A0 : Option Addr) (n0 c0 : Nat) (x0 : List Dep) (h0 : SlAt RDep 2 w A0 n0 x0) (hn0 : n0 ≤ maxLen) (A1 : Option Addr) (n1 c1 : Nat) (x1 : List Int) (h1 : SlAt RInt 1 w A1 n1 x1) (hn1 : n1 ≤ maxLen) : Calls Try.prog 5 #[.slice A0 n0 c0, .slice A1 n1 c1] w (Ret w (.bool true)) := by
  obtain rfl := h0.len
  obtain rfl := h1.len
  go_enter Try.func5, Try.ntmps5
  by_cases hbig2 : 1048576 < x1.length
  · go_wp2
    exact ret_is (by simp [results, Try.results5, go_sem]) rfl (Ext.refl _)
  have hle1 : x1.length ≤ 1048576 := by omega
  go_wp2_with fail
  refine (szDepS_c A0 x0.length c0 1048576 _ hn0 (by omega) (by omega)).mono ?_
  rintro e w1 ⟨rfl, hb1⟩
  rcases szM_cases x0.length 1048576 with hz0 | ⟨hz0, hle0, hl0⟩
  · have hz : decide (szM x0.length 1048576 < 0) = true := by simpa using hz0
    clear hz0
    go_wp2
    exact ret_is (by simp [results, Try.results5, go_sem]) rfl hb1
  have hz : decide (szM x0.length 1048576 < 0) = false := by simpa using hz0
  clear hl0 hz0
  generalize szM x0.length 1048576 = lf0 at *
  have hle0' : x0.length ≤ 1048576 := by omega
  have cI := fun (A0 : Option Addr) (c0 : Nat) (A2 : Option Addr) (c2 : Nat) (u : World) (h0 : SlAt RDep 2 u A0 x0.length x0) (h2 : SlAt RInt 1 u A2 x1.length x1) (hc : x1.length ≤ c2) => Waves_n x0 x1 A0 x0.length c0 A2 x1.length c2 u h0 hn0 h2 hn1 hc
  have cS := fun (A0 : Option Addr) (c0 : Nat) (A2 : Option Addr) (c2 : Nat) (u : World) (h0 : SlAt RDep 2 u A0 x0.length x0) (h2 : SlAt RInt 1 u A2 x1.length x1) (hc : x1.length ≤ c2) => sWaves_n x0 x1 A0 x0.length c0 A2 x1.length c2 u h0 hn0 h2 hn1 hc
  obtain ⟨hyl, hyl2⟩ := wavesR_len x0 x1
  have hyl' : (wavesR x0 x1).1.length ≤ 1048576 := Nat.le_trans hyl hle1
  have HMY := Lib.hid (fun (f : Nat → VItem) (h : VMatch (wavesR x0 x1).1 f) => vm_le h (fun x hx => Nat.le_trans (hyl2 x hx) hle1))
  clear hyl hyl2
  generalize (wavesR x0 x1).1 = ys at *
  generalize (wavesR x0 x1).2 = yb at *
  have CI := Lib.hid cI
  have CS := Lib.hid cS
  clear cI cS
  go_wp2_with fail
  refine (toDepS_c x0 _ _ _ _ (h0.ext (Flat.mono _ _) hb1) hle0').mono ?_
  rintro e w2 ⟨A2, c2, rfl, hq2, hb2⟩
  have ho2 := OwnIn.of hq2
  clear hq2
  go_wp2_with fail
  refine (toIntS_c x1 _ _ _ _ (h1.ext (Flat.mono _ _) (hb1.trans hb2)) hle1).mono ?_
  rintro e w3 ⟨A3, c3, rfl, hq3, hb3⟩
  have ho3 := OwnIn.of hq3
  clear hq3
  go_wp2_with fail
  refine (CS.out _ _ _ _ _ (ho2.ext (Flat.mono _ _) hb3).sl ho3.sl ho3.cap).mono ?_
  rintro e w4 ⟨A4, c4, f4, rfl, hr4, hm4, hb4⟩
  have e4 := ((hb1.trans hb2).trans hb3).trans hb4
  go_wp2_with fail
  refine (toDepS_c x0 _ _ _ _ (h0.ext (Flat.mono _ _) e4) hle0').mono ?_
  rintro e w5 ⟨A5, c5, rfl, hq5, hb5⟩
  have ho5 := OwnIn.of hq5
  clear hq5
  go_wp2_with fail
  refine (toIntS_c x1 _ _ _ _ (h1.ext (Flat.mono _ _) (e4.trans hb5)) hle1).mono ?_
  rintro e w6 ⟨A6, c6, rfl, hq6, hb6⟩
  have ho6 := OwnIn.of hq6
  clear hq6
  go_wp2_with fail
  refine (CI.out _ _ _ _ _ (ho5.ext (Flat.mono _ _) hb6).sl ho6.sl ho6.cap).mono ?_
  rintro e w7 ⟨A7, c7, f7, rfl, hr7, hm7, hb7⟩
  have b47 := (hb5.trans hb6).trans hb7
  go_wp2_with fail
  refine (eqIntSS_t ys A7 A4 ys.length c7 c4 _ (hr7.sl rfl hm7) ((hr4.ext b47).sl rfl hm4) (by unfold maxLen; omega)).mono ?_
  rintro e w8 ⟨rfl, hb8⟩
  go_wp2_with fail
  refine (toDepS_c x0 _ _ _ _ (h0.ext (Flat.mono _ _) ((e4.trans b47).trans hb8)) hle0').mono ?_
  rintro e w9 ⟨A9, c9, rfl, hq9, hb9⟩
  have ho9 := OwnIn.of hq9
  clear hq9
  go_wp2_with fail
  refine (eqDepS_c x0 x0 _ _ _ _ _ _ _ ((((ho5.ext (Flat.mono _ _) hb6).ext (Flat.mono _ _) hb7).ext (Flat.mono _ _) hb8).ext (Flat.mono _ _) hb9).sl ho9.sl hn0).mono ?_
  rintro e w10 ⟨rfl, hb10⟩
  go_wp2_with fail
  refine (toIntS_c x1 _ _ _ _ (h1.ext (Flat.mono _ _) ((((e4.trans b47).trans hb8).trans hb9).trans hb10)) hle1).mono ?_
  rintro e w11 ⟨A11, c11, rfl, hq11, hb11⟩
  have ho11 := OwnIn.of hq11
  clear hq11
  go_wp2_with fail
  refine (eqIntS_c x1 x1 _ _ _ _ _ _ _ (((((ho6.ext (Flat.mono _ _) hb7).ext (Flat.mono _ _) hb8).ext (Flat.mono _ _) hb9).ext (Flat.mono _ _) hb10).ext (Flat.mono _ _) hb11).sl ho11.sl hn1).mono ?_
  rintro e w12 ⟨rfl, hb12⟩
  have b712 := (((hb8.trans hb9).trans hb10).trans hb11).trans hb12
  have o5 := (ho5.ext (Flat.mono _ _) hb6).ext (Flat.mono _ _) (hb7.trans b712)
  have o6 := ho6.ext (Flat.mono _ _) (hb7.trans b712)
  obtain ⟨L13, hL13⟩ := o5.owns
  go_wp2_with fail
  refine (markDepS_c A5 _ c5 _ L13 1 _ hL13 hle0' (by omega) (by omega)).mono ?_
  rintro e w13 ⟨rfl, hm13, hg13⟩
  have ht13 := turned_of o5 hg13
  have o6' := o6.keep ht13 (.inr (Nat.le_refl _))
  have r7 := (hr7.ext b712).keep ht13 (.inr hb6.le)
  have r4 := (hr4.ext (b47.trans b712)).keep ht13 (.inl (Nat.le_refl _))
  have e13 : Ext w w13 := ext_turned (e4.trans (b47.trans b712)) ht13 e4.le
  have hk13 : 0 < 1 + (2 : Int) * x0.length := by omega
  have hk13' : 1 + (2 : Int) * x0.length ≤ 2097153 := by omega
  clear hm13 hg13 hL13 o5 o6 ho5 ho6 ho9 ho11 ho2 ho3
  obtain ⟨L14, hL14⟩ := o6'.owns
  go_wp2_with fail
  refine (markIntS_c A6 _ c6 _ L14 _ _ hL14 hle1 (by first | assumption | omega) (by omega)).mono ?_
  rintro e w14 ⟨rfl, hm14, hg14⟩
  have ht14 := turned_of o6' hg14
  have r7' := r7.keep ht14 (.inr (Nat.le_refl _))
  have r4' := r4.keep ht14 (.inl hb5.le)
  have e14 : Ext w w14 := ext_turned e13 ht14 (e4.trans hb5).le
  clear hm14 hg14 hL14 o6' r7 r4 hr7 hr4
  go_wp2_with fail
  refine (eqIntSS_t ys A7 A4 ys.length c7 c4 _ (r7'.sl rfl hm7) (r4'.sl rfl hm4) (by unfold maxLen; omega)).mono ?_
  rintro e w15 ⟨rfl, hb15⟩
  go_wp2_with fail
  refine (markIntSS_n w6.heap.size w7.heap.size A7 ys.length c7 f7 w15 (r7'.ext hb15) hyl' (HMY.out _ hm7)).mono ?_
  rintro e w16 ⟨rfl, hr16, ht16⟩
  have r4'' := (r4'.ext hb15).keep ht16 (.inl (hb5.trans hb6).le)
  have e16 : Ext w w16 := ext_turned (e14.trans hb15) ht16 ((e4.trans hb5).trans hb6).le
  have HK16 := Lib.hid (vpos_pos f7 ys.length)
  have HH := Lib.hid (fun (u : World) (e : Ext w16 u) => heldIntSS_n w6.heap.size w7.heap.size A7 ys.length c7 f7 u (hr16.ext e) hyl' (HMY.out _ hm7))
  generalize vpos f7 ys.length = K16 at *
  have hk16 := HK16.out
  clear hr16 ht16 r7' r4'
  go_wp2_with fail
  refine (HH.out _ (Ext.refl _)).mono ?_
  rintro e w17 ⟨rfl, hb17⟩
  go_wp2_with fail
  refine (toDepS_c x0 _ _ _ _ (h0.ext (Flat.mono _ _) (e16.trans hb17)) hle0').mono ?_
  rintro e w18 ⟨A18, c18, rfl, hq18, hb18⟩
  have ho18 := OwnIn.of hq18
  clear hq18
  go_wp2_with fail
  refine (toIntS_c x1 _ _ _ _ (h1.ext (Flat.mono _ _) ((e16.trans hb17).trans hb18)) hle1).mono ?_
  rintro e w19 ⟨A19, c19, rfl, hq19, hb19⟩
  have ho19 := OwnIn.of hq19
  clear hq19
  go_wp2_with fail
  refine (CI.out _ _ _ _ _ (ho18.ext (Flat.mono _ _) hb19).sl ho19.sl ho19.cap).mono ?_
  rintro e w20 ⟨A20, c20, f20, rfl, hr20, hm20, hb20⟩
  have e20 := ((hb17.trans hb18).trans hb19).trans hb20
  go_wp2_with fail
  refine (eqIntSS_t ys A20 A4 ys.length c20 c4 _ (hr20.sl rfl hm20) ((r4''.ext e20).sl rfl hm4) (by unfold maxLen; omega)).mono ?_
  rintro e w21 ⟨rfl, hb21⟩
  go_wp2_with fail
  refine (HH.out _ (e20.trans hb21)).mono ?_
  rintro e w22 ⟨rfl, hb22⟩
  go_wp2
  exact ret_bool rfl rfl rfl rfl (e16.trans ((e20.trans hb21).trans hb22))
end Go.Proofs.Ytgnbjnlcikpknaa
