/- The law FnExactWindowsCut returns true: the walk. -/
import Derived.Test.YtafccgnaifhnkaaNMark2
import Derived.Test.YtafccgnaifhnkaaNHeld
import Derived.Test.YtafccgnaifhnkaaNCut2
namespace Go.Proofs.Ytafccgnaifhnkaa
open Go.RowKit
set_option linter.unusedVariables false
theorem npos_pos (f : Nat → NItem) : ∀ i, 0 < npos f 1 i := by
  intro i
  induction i with
  | zero => rw [npos]; omega
  | succ i ih => rw [npos]; omega
theorem nm_le {xs : List Window} {f : Nat → NItem} (hm : NMatch xs f) (hle : ∀ x ∈ xs, x.Nodes.length ≤ 1048576) : ∀ j, j < xs.length → (f j).m ≤ 1048576 := fun j hj => by
  rw [(hm j _ (List.getElem?_eq_getElem hj)).2.2.1]
  exact hle _ (List.getElem_mem hj)
theorem cut_len (xs : List Window) (t : Int) : (cutL xs t).length ≤ xs.length := List.length_filter_le _ _
set_option maxHeartbeats 4000000 in
set_option maxRecDepth 10000 in
theorem FnExactWindowsCut_c (w : World) (A0 : Option Addr) (n0 c0 : Nat) (x0 : List Window) (h0 : SlAt RWindow 3 w A0 n0 x0) (hn0 : n0 ≤ maxLen) (x1 : Int) (hi1 : In64 x1) : Calls Try.prog 7 #[.slice A0 n0 c0, .int .i64 x1] w (Ret w (.bool true)) := by
  obtain rfl := h0.len
  have HS := Lib.hid (szWindowS_w x0 A0 x0.length c0 1048576 w h0 hn0 (by omega) (by omega))
  have H0 := Lib.hid (fun (u : World) (e : Ext w u) (hq : x0.length ≤ 1048576) (hq2 : ∀ x ∈ x0, x.Nodes.length ≤ 1048576) => toWindowS_n x0 A0 x0.length c0 u (h0.ext RWindow.mono e) hq hq2)
  go_enter Try.func7, Try.ntmps7
  go_wp2_with fail
  refine HS.out.mono ?_
  rintro e w1 ⟨z, rfl, hz, hb1⟩
  rcases hz with hz | ⟨hz0, hz1, hq, hq2⟩
  · go_wp2
    exact ret_bool rfl rfl rfl rfl hb1
  have hq' : x0.length ≤ 1048576 := by omega
  have hq2' : ∀ x ∈ x0, x.Nodes.length ≤ 1048576 := fun x hx => by have := hq2 x hx; omega
  have HT := Lib.hid (fun (u : World) (e : Ext w u) => H0.out u e hq' hq2')
  have HP := Lib.hid (fun (A : Option Addr) (c : Nat) (u : World) (h : SlAt RWindow 3 u A x0.length x0) => sWindowsCut_n x0 A x0.length c x1 u h hq' hq2')
  have HI := Lib.hid (fun (A : Option Addr) (c : Nat) (u : World) (h : SlAt RWindow 3 u A x0.length x0) => WindowsCut_n x0 A x0.length c x1 u h hq' hq2')
  have HML := Lib.hid (fun (f : Nat → NItem) (h : NMatch x0 f) => nm_le h hq2')
  have HMY := Lib.hid (fun (f : Nat → NItem) (h : NMatch (cutL x0 x1) f) => nm_le h (fun x hx => hq2' x (List.mem_filter.1 hx).1))
  have hyl : (cutL x0 x1).length ≤ 1048576 := Nat.le_trans (cut_len x0 x1) hq'
  generalize cutL x0 x1 = ys at *
  clear hq hq2 hq2' h0
  go_wp2_with fail
  refine (HT.out _ hb1).mono ?_
  rintro e w2 ⟨A2, c2, f2, rfl, hr2, hm2, hb2⟩
  go_wp2_with fail
  refine (HP.out _ _ _ (hr2.sl rfl hm2)).mono ?_
  rintro e w3 ⟨A3, c3, f3, rfl, hr3, hm3, hb3⟩
  have e3 := (hb1.trans hb2).trans hb3
  go_wp2_with fail
  refine (HT.out _ e3).mono ?_
  rintro e w4 ⟨A4, c4, f4, rfl, hr4, hm4, hb4⟩
  go_wp2_with fail
  refine (HI.out _ _ _ (hr4.sl rfl hm4)).mono ?_
  rintro e w5 ⟨A5, c5, f5, rfl, hr5, hm5, hb5⟩
  go_wp2_with fail
  refine (eqWindowS_t ys A5 A3 ys.length c5 c3 _ (hr5.sl rfl hm5) ((hr3.ext (hb4.trans hb5)).sl rfl hm3) (by unfold maxLen; omega)).mono ?_
  rintro e w6 ⟨rfl, hb6⟩
  go_wp2_with fail
  refine (HT.out _ (e3.trans ((hb4.trans hb5).trans hb6))).mono ?_
  rintro e w7 ⟨A7, c7, f7, rfl, hr7, hm7, hb7⟩
  go_wp2_with fail
  refine (eqWindowS_t x0 A4 A7 x0.length c4 c7 _ ((hr4.ext ((hb5.trans hb6).trans hb7)).sl rfl hm4) (hr7.sl rfl hm7) hn0).mono ?_
  rintro e w8 ⟨rfl, hb8⟩
  have e58 := (hb6.trans hb7).trans hb8
  go_wp2_with fail
  refine (markWindowS_n w3.heap.size w4.heap.size A4 x0.length c4 f4 w8 (hr4.ext (hb5.trans e58)) hq' (HML.out _ hm4)).mono ?_
  rintro e w9 ⟨rfl, hr9, ht9⟩
  have hk9 := npos_pos f4 x0.length
  have hr5' := (hr5.ext e58).keep ht9 (.inr (Nat.le_refl _))
  have hr3' := (hr3.ext ((hb4.trans hb5).trans e58)).keep ht9 (.inl (Nat.le_refl _))
  have e9 : Ext w w9 := ext_turned (e3.trans ((hb4.trans hb5).trans e58)) ht9 e3.le
  generalize npos f4 x0.length = K9 at hk9
  clear hr9 ht9 hr7
  go_wp2_with fail
  refine (eqWindowS_t ys A5 A3 ys.length c5 c3 _ (hr5'.sl rfl hm5) (hr3'.sl rfl hm3) (by unfold maxLen; omega)).mono ?_
  rintro e w10 ⟨rfl, hb10⟩
  go_wp2_with fail
  refine (markWindowS_n w4.heap.size w5.heap.size A5 ys.length c5 f5 w10 (hr5'.ext hb10) hyl (HMY.out _ hm5)).mono ?_
  rintro e w11 ⟨rfl, hr11, ht11⟩
  have hr3'' := (hr3'.ext hb10).keep ht11 (.inl hb4.le)
  have e11 : Ext w w11 := ext_turned (e9.trans hb10) ht11 (e3.trans hb4).le
  have HK11 := Lib.hid (npos_pos f5 ys.length)
  have HH := Lib.hid (fun (u : World) (e : Ext w11 u) => heldWindowS_n w4.heap.size w5.heap.size A5 ys.length c5 f5 u (hr11.ext e) hyl (HMY.out _ hm5))
  generalize npos f5 ys.length = K11 at *
  have hk11 := HK11.out
  clear hr11 ht11 hr5 hr5' hr3 hr3' hr4
  go_wp2_with fail
  refine (HH.out _ (Ext.refl _)).mono ?_
  rintro e w12 ⟨rfl, hb12⟩
  go_wp2_with fail
  refine (HT.out _ (e11.trans hb12)).mono ?_
  rintro e w13 ⟨A13, c13, f13, rfl, hr13, hm13, hb13⟩
  go_wp2_with fail
  refine (HI.out _ _ _ (hr13.sl rfl hm13)).mono ?_
  rintro e w14 ⟨A14, c14, f14, rfl, hr14, hm14, hb14⟩
  have e14 := (hb12.trans hb13).trans hb14
  go_wp2_with fail
  refine (eqWindowS_t ys A14 A3 ys.length c14 c3 _ (hr14.sl rfl hm14) ((hr3''.ext e14).sl rfl hm3) (by unfold maxLen; omega)).mono ?_
  rintro e w15 ⟨rfl, hb15⟩
  go_wp2_with fail
  refine (HH.out _ (e14.trans hb15)).mono ?_
  rintro e w16 ⟨rfl, hb16⟩
  go_wp2
  exact ret_bool rfl rfl rfl rfl (e11.trans ((e14.trans hb15).trans hb16))
end Go.Proofs.Ytafccgnaifhnkaa
