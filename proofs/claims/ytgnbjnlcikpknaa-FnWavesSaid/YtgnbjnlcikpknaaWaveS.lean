/- Contract: waves, the reference's way. -/
import Derived.Test.YtgnbjnlcikpknaaWaveI2
namespace Go.Proofs.Ytgnbjnlcikpknaa
open Go.RowKit
set_option linter.unusedVariables false
theorem VR.appR {w w' : World} {lo hi base : Nat} {A A' : Option Addr} {n c k n' c' m : Nat} {f : Nat → VItem} {v : Value} {L M : List Value} (h : VR w lo hi A n c k f) (ha : AppR w w' base 3 1 v A' n' c' L) (hv : w.ownsRow base 3 1 v m M) (hap : ∀ j, j < k → rowsApart (f j).v.ownBlock v.ownBlock) : VR w' lo hi A n c k f := by
  obtain ⟨L1, h1, h2⟩ := h.row
  exact ⟨Nat.le_trans h.top ha.size, ⟨L1, ha.other h1 (owns_type h1 hv (by decide)), h2⟩, fun j hj => ha.other (h.own j hj) (hap j hj), h.far, h.low, h.lows⟩
def okD (ids told : List Int) (n : Int) (d : Dep) : Bool := !((d.Id == n && ids.contains d.For) && !told.contains d.For)
theorem okW_start (l : List Dep) (ids told : List Int) (n : Int) : okW l ids told n = (!told.contains n && l.all (okD ids told n)) := rfl
set_option maxHeartbeats 8000000 in
set_option maxRecDepth 8000 in
theorem sWaves_n (xs : List Dep) (ids : List Int) (A : Option Addr) (n c : Nat) (A2 : Option Addr) (n2 c2 : Nat) (w : World) (h : SlAt RDep 2 w A n xs) (hl : n ≤ maxLen) (h2 : SlAt RInt 1 w A2 n2 ids) (hl2 : n2 ≤ maxLen) (hcap2 : n2 ≤ c2) : Calls Try.prog 9 #[.slice A n c, .slice A2 n2 c2] w (RetVR w (wavesR xs ids).1 (wavesR xs ids).2) := by
  have hl' := hl
  unfold maxLen at hl
  obtain rfl := h.len
  obtain rfl := h2.len
  have hM := Flat.mono Dep.enc Dep.ok
  have hM2 := Flat.mono encInt In64
  obtain ⟨i0, hi, hz0, hz1, hz2⟩ := info_parts VInt.info
  obtain ⟨i1, hi1, hy0, hy1, hy2⟩ := info_parts VSl.info
  have hA := Lib.hid (fun (u : World) (e : Ext w u) => sDepsOk_c xs A xs.length c u (h.ext hM e) hl')
  have hA2 := Lib.hid (fun (u : World) (e : Ext w u) => l12Ids_c ids A2 ids.length c2 u (h2.ext hM2 e) hl2 hcap2)
  have HD := Lib.hid (fun (u : World) (e : Ext w u) => h.ext hM e)
  have HI := Lib.hid (fun (u : World) (e : Ext w u) => h2.ext hM2 e)
  have HHI := Lib.hid (fun (u : World) (e : Ext w u) (v : Int) => l02Has_c ids v A2 ids.length c2 u (h2.ext hM2 e) hl2)
  rcases Bool.eq_false_or_eq_true (depsB xs) with hB | hB
  all_goals rw [hB] at hA
  · have HBB := Lib.hid hB
    rcases Bool.eq_false_or_eq_true (idsB ids) with hC | hC
    all_goals
      rw [hC] at hA2
      clear hB h h2
      go_enter Try.func9, Try.ntmps9
      go_wp2_with fail
      refine (hA.out _ (Ext.refl _)).mono ?_
      rintro e w0 ⟨rfl, hb0⟩
      go_wp2_with fail
      refine (hA2.out _ hb0).mono ?_
      rintro e w1 ⟨rfl, hb1⟩
    · have hsm : ids.length ≤ 999 := idsB_len hC
      have HOK := Lib.hid (show (depsB xs && idsB ids) = true by rw [HBB.out, hC]; rfl)
      have HB1 := Lib.hid (hb0.trans hb1)
      clear hC hA hA2
      go_wp2
      go_loopw [6, 7] (fun vo vt wr => ∃ (told : List Int) (acc : List (List Int)) (A1 : Option Addr) (c1 : Nat) (f : Nat → VItem) (AT : Option Addr) (cT k : Nat), vo = .slice A1 acc.length c1 ∧ vt = .slice AT told.length cT ∧ Hid (VR wr w.heap.size wr.heap.size A1 acc.length c1 acc.length f) ∧ Hid (VMatch acc f) ∧ Hid (wr.ownsRow w.heap.size 3 1 (.slice AT told.length cT) told.length (told.flatMap encInt)) ∧ Hid (stands xs ids acc (leftOf ids told) k) ∧ Hid (told.length + (leftOf ids told).length = ids.length) ∧ acc.length ≤ told.length ∧ Hid (∀ j, j < acc.length → rowsApart (f j).v.ownBlock (Value.slice AT told.length cT).ownBlock) ∧ Hid (∀ y ∈ told, In64 y) ∧ Ext w wr) (fun _ vt _ => ids.length - wlenV vt)
      case atStart =>
        have hw1 := HB1.out.le
        refine ⟨[], [], _, 0, fun _ => ⟨none, 0, 0, []⟩, _, 0, ids.length, rfl, rfl, Lib.hid ⟨Nat.le_refl _, ⟨_, owns_base (owns_ext (owns_empty w1 24 1) ((Ext.refl _).alloc _)) hw1, fun j hj => by simp at hj⟩, fun j hj => by simp at hj, fun i j hi => by simp at hi, fun q e => ?_, fun j hj => by simp at hj⟩, Lib.hid (fun j x hx => by simp at hx), Lib.hid ?_, Lib.hid (by rw [left_all]; exact stands_start xs ids), Lib.hid (by rw [left_all]; simp), Nat.le_refl _, Lib.hid (fun j hj => by simp at hj), Lib.hid (fun y hy => by cases hy), (HB1.out.alloc _).alloc _⟩
        · have e1 : w1.heap.size = q := Option.some.inj e
          simp; omega
        · have := owns_empty (w1.alloc (.cells #[] 24)) 3 1
          rw [show (w1.alloc (.cells #[] 24)).heap.size = w1.heap.size + 1 by simp] at this
          exact owns_base this (by omega)
      case round =>
        obtain ⟨told, acc, A1, c1, f, AT, cT, k, rfl, rfl, HNR, HM, HTO, HST, HSUM, hat, HFA, HALT, hb⟩ := hrel
        obtain ⟨wo, rfl⟩ : ∃ wo, wo = wr := ⟨_, rfl⟩
        by_cases h0 : told.length < ids.length
        · have HH0 := Lib.hid h0
          have HTS := Lib.hid (fun (u : World) (e : Ext wo u) => (OwnAt.flat encInt_size HALT.out (owns_ext HTO.out e)).slAt)
          have HHT := Lib.hid (fun (u : World) (e : Ext wo u) (v : Int) => l02Has_c told v AT told.length cT u (HTS.out u e) (by unfold maxLen; omega))
          go_wp2
          go_loopw [8, 32] (fun vw i wr => ∃ (j : Nat) (wave : List Int) (Aw : Option Addr) (cw : Nat), j ≤ ids.length ∧ i = .int .i64 j ∧ vw = .slice Aw wave.length cw ∧ Hid (wr.ownsRow wo.heap.size 3 1 (.slice Aw wave.length cw) wave.length (wave.flatMap encInt)) ∧ Ext wo wr ∧ Hid (wave = (ids.take j).filter (okW xs ids told))) (fun _ i _ => ids.length - (intOf i).toNat)
          case atStart =>
            exact ⟨0, [], _, 0, Nat.zero_le _, rfl, rfl, Lib.hid (by simpa using owns_empty wo 3 1), (Ext.refl _).alloc _, Lib.hid rfl⟩
          case round =>
            obtain ⟨j, wave, Aw, cw, hj, rfl, rfl, HOW, hbi, HW⟩ := hrel
            have hwl : wave.length ≤ ids.length := by rw [HW.out]; exact filter_take_len _ _ _
            obtain ⟨wj, rfl⟩ : ∃ wj, wj = wr := ⟨_, rfl⟩
            by_cases hlt : j < ids.length
            · obtain ⟨b, o, x, cs, rfl, hbw, hx, _, hc, rfl, _⟩ := (HI.out _ (hb.trans hbi)).at_ hlt
              have g0 := hc 0 _ rfl
              simp only [Nat.mul_one, Nat.add_zero] at g0
              have HX := Lib.hid hx
              have HOK1 := Lib.hid ((HI.out _ hb).all x (List.mem_of_getElem? hx))
              have HFW := Lib.hid (filter_succ (p := okW xs ids told) hx)
              have HO := Lib.hid (okW_start xs ids told x)
              clear hc hx
              go_wp2_with fail
              refine (HHT.out _ hbi x).mono ?_
              rintro e w2 ⟨rfl, hb2⟩
              have hbj := hb2
              go_wp2
              go_loopw [11, 42] (fun vb i wr => ∃ (m : Nat) (bb : Bool), m ≤ xs.length ∧ i = .int .i64 m ∧ vb = .bool bb ∧ Ext wj wr ∧ Hid (okW xs ids told x = (bb && (xs.drop m).all (okD ids told x)))) (fun _ i _ => xs.length - (intOf i).toNat)
              case atStart => exact ⟨0, _, Nat.zero_le _, rfl, rfl, hbj, Lib.hid (by rw [HO.out]; simp)⟩
              case round =>
                obtain ⟨m, bb, hm, rfl, rfl, hbk, HOO⟩ := hrel
                by_cases hlm : m < xs.length
                · obtain ⟨b', o', d, cs', rfl, hbw', hd, _, hc, rfl, _⟩ := (HD.out _ ((hb.trans hbi).trans hbk)).at_ hlm
                  have f0 := hc 0 _ rfl
                  have f1 := hc 1 _ rfl
                  simp only [Nat.add_zero] at f0
                  have HDX := Lib.hid (drop_cons hd)
                  have HBK := Lib.hid hbk
                  have HHI2 := Lib.hid (fun (u : World) (e : Ext (wr.alloc (.cells #[.int .i64 d.Id, .int .i64 d.For] 31)) u) => HHI.out u ((((hb.trans hbi).trans hbk).alloc _).trans e) d.For)
                  have HHT2 := Lib.hid (fun (u : World) (e : Ext (wr.alloc (.cells #[.int .i64 d.Id, .int .i64 d.For] 31)) u) => HHT.out u (((hbi.trans hbk).alloc _).trans e) d.For)
                  clear hc hd
                  rcases Bool.eq_false_or_eq_true (d.Id == x) with e1 | e1
                  · rcases Bool.eq_false_or_eq_true (ids.contains d.For) with e2 | e2
                    · rcases Bool.eq_false_or_eq_true (told.contains d.For) with e3 | e3
                      all_goals
                        have E1 := Lib.hid e1
                        have E2 := Lib.hid e2
                        have E3 := Lib.hid e3
                        rw [e2] at HHI2
                        rw [e3] at HHT2
                        clear e2 e3
                        go_wp2_with fail
                        refine (HHI2.out _ (Ext.refl _)).mono ?_
                        rintro e w5 ⟨rfl, hb5⟩
                        have i0' := hb5.cell (wcell_box wr [.int .i64 d.Id, .int .i64 d.For] 31 1 _ rfl)
                        go_wp2_with fail
                        refine (HHT2.out _ hb5).mono ?_
                        rintro e w6 ⟨rfl, hb6⟩
                        have hbn := ((hbk.alloc _).trans hb5).trans hb6
                        clear hb5 i0' hb6
                        go_wp2
                        go_roundw
                      case rel => exact ⟨m + 1, bb, by omega, by go_num, rfl, hbn, Lib.hid (by rw [HOO.out, HDX.out, List.all_cons, show okD ids told x d = true by unfold okD; rw [E1.out, E2.out, E3.out]; rfl, Bool.true_and])⟩
                      case measure => simp [intOf]; omega
                      case rel => exact ⟨m + 1, false, by omega, by go_num, rfl, hbn, Lib.hid (by rw [HOO.out, HDX.out, List.all_cons, show okD ids told x d = false by unfold okD; rw [E1.out, E2.out, E3.out]; rfl]; simp)⟩
                      case measure => simp [intOf]; omega
                    · have E1 := Lib.hid e1
                      have E2 := Lib.hid e2
                      rw [e2] at HHI2
                      clear e2
                      go_wp2_with fail
                      refine (HHI2.out _ (Ext.refl _)).mono ?_
                      rintro e w5 ⟨rfl, hb5⟩
                      go_wp2
                      go_roundw
                      case rel => exact ⟨m + 1, bb, by omega, by go_num, rfl, (hbk.alloc _).trans hb5, Lib.hid (by rw [HOO.out, HDX.out, List.all_cons, show okD ids told x d = true by unfold okD; rw [E1.out, E2.out]; rfl, Bool.true_and])⟩
                      case measure => simp [intOf]; omega
                  · have E1 := Lib.hid e1
                    go_wp2
                    go_roundw
                    case rel => exact ⟨m + 1, bb, by omega, by go_num, rfl, hbk.alloc _, Lib.hid (by rw [HOO.out, HDX.out, List.all_cons, show okD ids told x d = true by unfold okD; rw [E1.out]; rfl, Bool.true_and])⟩
                    case measure => simp [intOf]; omega
                · have HOF := Lib.hid (show okW xs ids told x = bb by rw [HOO.out, List.drop_eq_nil_of_le (by omega)]; simp)
                  have HE2 := Lib.hid (hbi.trans hbk)
                  have hzk := hbk.le
                  cases bb
                  · go_wp2
                    go_roundw
                    case rel => exact ⟨j + 1, wave, Aw, cw, by omega, by go_num, rfl, Lib.hid (owns_ext HOW.out hbk), HE2.out, Lib.hid (by rw [HFW.out, if_neg (by rw [HOF.out]; simp), ← HW.out])⟩
                    case measure => simp [intOf]; omega
                  · go_wp2_with (at_builtin; go_must (refine wpList_append_r (ok := In64) (.tmp 65) (.tmp 67) _ wo.heap.size 3 i0 _ 1 8 (.slice Aw wave.length cw) wave.length (wave.flatMap encInt) _ 1 1 [x] rfl rfl Try.underlying24 hi hz0 hz1 hz2 rfl (by omega) rfl (owns_ext (owns_ext HOW.out hbk) ((Ext.refl _).alloc _)) rfl (by exact sl_one_r wr x 3 rfl HOK1.out) (fun _ => rfl) VInt.one (by unfold maxLen; omega) (by omega) (by simp; have := HE2.out.le; omega) ?_); intro A3 c3 w3 hr3)
                    have HR3 := Lib.hid hr3
                    clear hr3
                    go_wp2
                    go_roundw
                    case rel =>
                      have a2 := (Ext.refl wr).alloc (.cells (encInt x).toArray 3)
                      refine ⟨j + 1, wave ++ [x], A3, c3, by omega, by go_num, by simp, Lib.hid ?_, ext_turned (HE2.out.trans a2) (HR3.out.turned (lo := wo.heap.size) (fun q e => (HOW.out.lt q e).1)) (Nat.le_refl _), Lib.hid ?_⟩
                      · have := HR3.out.row; rw [List.flatMap_append, List.length_append]; simpa using this
                      · rw [HFW.out, if_pos HOF.out, ← HW.out]
                    case measure => simp [intOf]; omega
            · have HJ := Lib.hid (show (ids.take j) = ids from List.take_of_length_le (by omega))
              have HW2 := Lib.hid (show wave = ids.filter (okW xs ids told) by rw [HW.out, HJ.out])
              have HW3 := Lib.hid (show wave = (leftOf ids told).filter (freeW xs (leftOf ids told)) by rw [HW2.out, wave_eq])
              have HLN := Lib.hid (show leftOf ids (told ++ wave) = (leftOf ids told).filter (fun n => !freeW xs (leftOf ids told) n) by rw [HW2.out]; exact left_next xs ids told)
              have HSP := Lib.hid (show wave.length + (leftOf ids (told ++ wave)).length = (leftOf ids told).length by have e := filter_split_len (freeW xs (leftOf ids told)) (leftOf ids told); rw [← HW3.out, ← HLN.out] at e; exact e)
              by_cases hw0 : wave.length = 0
              · have HR := Lib.hid (show wavesR xs ids = ([], false) from wavesR_none HOK.out (stands_none HST.out (by have := HSUM.out; omega) (by rw [← HW3.out]; exact hw0)))
                go_wp2
                exact ret_vr_none HR.out rfl (hb.trans hbi)
              · obtain ⟨L, hL, hrow⟩ := (HNR.out.ext hbi).row
                have HL := Lib.hid hL
                have HLrow := Lib.hid hrow
                have hzo := hbi.le
                have hww : w.heap.size ≤ wo.heap.size := hb.le
                have HSTN := Lib.hid (stands_next HST.out (by have := HSUM.out; omega) (by rw [← HW3.out]; exact hw0))
                have HALLW := Lib.hid (show ∀ y ∈ wave, In64 y from fun y hy => (HI.out _ hb).all y (by rw [HW2.out] at hy; exact (List.mem_filter.1 hy).1))
                have hsum := HSUM.out
                have hspl := HSP.out
                have hw1 : 0 < wave.length := by omega
                clear hL hrow hw0
                have a2 := (Ext.refl wj).alloc (.cells (venc ⟨Aw, wave.length, cw, wave.flatMap encInt⟩).toArray 24)
                have HA2 := Lib.hid a2
                clear a2
                go_wp2_with (at_builtin; go_must (first
                  | (refine wpList_append_r (ok := fun _ => True) (.tmp 73) (.tmp 75) _ w.heap.size 24 i1 _ 1 24 (.slice A1 acc.length c1) acc.length L _ 1 1 [⟨Aw, wave.length, cw, wave.flatMap encInt⟩] rfl rfl Try.underlying27 hi1 hy0 hy1 hy2 rfl (by omega) rfl (owns_ext HL.out HA2.out) rfl (by exact sl_one_r (enc := venc) (ok := fun _ => True) wj ⟨Aw, wave.length, cw, wave.flatMap encInt⟩ 24 rfl trivial) (fun _ => rfl) venc_one (by unfold maxLen; omega) (by omega) (by simp; omega) ?_; intro A3 c3 w3 hr3; have HR3 := Lib.hid hr3; clear hr3; have HTO3 := Lib.hid (HR3.out.other (owns_ext (owns_ext HTO.out hbi) HA2.out) (fun q e1 e2 => owns_type (owns_ext HTO.out hbi) HL.out (by decide) q e1 e2)); have HOW3 := Lib.hid (HR3.out.other (owns_ext HOW.out HA2.out) (fun q e1 e2 => owns_type HOW.out HL.out (by decide) q e1 e2)); have HSW3 := Lib.hid (OwnAt.flat encInt_size HALLW.out HOW3.out).slAt; have hz3 := HR3.out.size; simp at hz3)
                  | (refine wpList_append_r (ok := In64) (.tmp 77) (.tmp 78) _ w.heap.size 3 i0 _ 1 8 (.slice AT told.length cT) told.length (told.flatMap encInt) Aw wave.length cw wave rfl rfl Try.underlying24 hi hz0 hz1 hz2 rfl (by omega) rfl HTO3.out rfl HSW3.out (fun _ => rfl) VInt.one (by unfold maxLen; omega) (by omega) (by omega) ?_; intro A4 c4 w4 hr4)))
                have HR4 := Lib.hid hr4
                clear hr4
                have hE3 := ext_turned ((hb.trans hbi).trans HA2.out) (HR3.out.turned (lo := w.heap.size) (fun q e => (HL.out.lt q e).1)) (Nat.le_refl _)
                have HE4 := Lib.hid (ext_turned hE3 (HR4.out.turned (lo := w.heap.size) (fun q e => (HTO.out.lt q e).1)) (Nat.le_refl _))
                have HG := Lib.hid (VR.grow ⟨Aw, wave.length, cw, wave.flatMap encInt⟩ (HNR.out.ext hbi) HA2.out HL.out HLrow.out (by simpa [venc] using HR3.out.row) (HR3.out.typed (owns_ext HL.out HA2.out)) (owns_base (owns_ext HOW.out HA2.out) hww) (fun q e => (HOW.out.lt q e).1))
                have HFA3 := Lib.hid (show ∀ j, j < acc.length + 1 → rowsApart (if j = acc.length then (⟨Aw, wave.length, cw, wave.flatMap encInt⟩ : VItem) else f j).v.ownBlock (Value.slice AT told.length cT).ownBlock from fun j hj => by
                  by_cases e : j = acc.length
                  · rw [if_pos e]
                    intro q e1 e2
                    have h1 := (HOW.out.lt q e1).1
                    have h2 := (HTO.out.lt q e2).2
                    omega
                  · rw [if_neg e]; exact HFA.out j (by omega))
                have HG4 := Lib.hid ((HG.out.appR HR4.out HTO3.out HFA3.out).cut HR4.out.size (Nat.le_refl _))
                have HFA4 := Lib.hid (fun (j : Nat) (hj : j < acc.length + 1) => HR4.out.apart (HG.out.own j hj) (HFA3.out j hj))
                have HALT4 := Lib.hid (show ∀ y ∈ told ++ wave, In64 y from fun y hy => by
                  rcases List.mem_append.1 hy with hy | hy
                  · exact HALT.out y hy
                  · exact HALLW.out y hy)
                have HSTN4 := Lib.hid (show stands xs ids (acc ++ [wave]) (leftOf ids (told ++ wave)) (k - 1) from by have e := HSTN.out; rw [← HW3.out, ← HLN.out] at e; exact e)
                clear hE3
                go_roundw
                case rel => exact ⟨told ++ wave, acc ++ [wave], A3, c3, _, A4, c4, k - 1, by simp, by simp, Lib.hid (by simpa using HG4.out), Lib.hid (HM.out.snoc rfl wave _ rfl rfl HALLW.out), Lib.hid (by have := HR4.out.row; rw [List.flatMap_append, List.length_append]; exact this), HSTN4, Lib.hid (by rw [List.length_append]; omega), by simp; omega, Lib.hid (by simpa using HFA4.out), HALT4, HE4.out⟩
                case measure => simp [wlenV]; omega
        · have HR := Lib.hid (show wavesR xs ids = (acc, true) from wavesR_some HOK.out (stands_end HST.out (by have := HSUM.out; omega)))
          go_wp2
          rw [HR.out]
          exact bodyPost_ret (results_tmp2 rfl _ _ _) rfl ⟨A1, c1, f, rfl, HNR.out, HM.out, hb⟩
    · have HR := Lib.hid (show wavesR xs ids = ([], false) from wavesR_bad (by rw [HBB.out, hC]; rfl))
      go_wp2
      exact ret_vr_none HR.out rfl (hb0.trans hb1)
  · have HR := Lib.hid (show wavesR xs ids = ([], false) from wavesR_bad (by rw [hB]; rfl))
    go_enter Try.func9, Try.ntmps9
    go_wp2_with fail
    refine (hA.out _ (Ext.refl _)).mono ?_
    rintro e w0 ⟨rfl, hb0⟩
    go_wp2
    exact ret_vr_none HR.out rfl hb0
end Go.Proofs.Ytgnbjnlcikpknaa
