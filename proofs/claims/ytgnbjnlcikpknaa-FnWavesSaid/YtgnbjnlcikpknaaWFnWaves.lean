/- The law FnWaves returns true: the walk. -/
import Derived.Test.YtgnbjnlcikpknaaDrawWave
import Derived.Test.YtgnbjnlcikpknaaWaveLaw2
import Derived.Test.YtgnbjnlcikpknaaWaveS
import Derived.Test.YtgnbjnlcikpknaaHasInt
namespace Go.Proofs.Ytgnbjnlcikpknaa
open Go.RowKit
set_option linter.unusedVariables false
theorem waves_flat {l : List Dep} {k : Nat} : ∀ {left : List Int} {ys : List (List Int)}, wavesF l k left = some ys → ys.length ≤ left.length ∧ ∀ y ∈ ys, y.length ≤ left.length := by
  induction k with
  | zero =>
    intro left ys h
    cases left with
    | nil => simp [wavesF] at h; subst h; simp
    | cons a r => simp [wavesF] at h
  | succ k ih =>
    intro left ys h
    rcases Nat.eq_zero_or_pos left.length with h0 | h0
    · have : left = [] := List.eq_nil_of_length_eq_zero h0
      subst this
      rw [wavesF_nil] at h; injection h with h; subst h; simp
    · rw [wavesF_some h0] at h
      by_cases hw : (left.filter (freeW l left)).length = 0
      · rw [if_pos hw] at h; cases h
      · rw [if_neg hw] at h
        cases hr : wavesF l k (left.filter (fun n => !freeW l left n)) with
        | none => rw [hr] at h; cases h
        | some zs =>
          rw [hr] at h
          injection h with h; subst h
          obtain ⟨h1, h2⟩ := ih hr
          have h3 := filter_split_len (freeW l left) left
          refine ⟨by simp only [List.length_cons]; omega, fun y hy => ?_⟩
          rcases List.mem_cons.1 hy with rfl | hy
          · omega
          · have := h2 y hy; omega
theorem wavesR_len (l : List Dep) (ids : List Int) : (wavesR l ids).1.length ≤ ids.length ∧ ∀ y ∈ (wavesR l ids).1, y.length ≤ ids.length := by
  unfold wavesR
  split
  · split
    · rename_i h; exact waves_flat h
    · exact ⟨by simp, fun y hy => by cases hy⟩
  · exact ⟨by simp, fun y hy => by cases hy⟩
set_option maxHeartbeats 8000000 in
set_option maxRecDepth 20000 in
theorem FnWaves_c (w : World) (A0 : Option Addr) (n0 c0 : Nat) (x0 : List Int) (h0 : SlAt RU8 1 w A0 n0 x0) (hn0 : n0 ≤ maxLen) : Calls Try.prog 3 #[.slice A0 n0 c0] w (Ret w (.bool true)) := by
  unfold maxLen at hn0
  by_cases hbig : 1048576 < n0
  · clear h0
    go_enter Try.func3, Try.ntmps3
    go_wp2
    exact ret_bool rfl rfl rfl rfl (Ext.refl _)
  have HD := Lib.hid (DrawWaves_c x0 A0 n0 c0 w h0 (by omega))
  clear h0
  go_enter Try.func3, Try.ntmps3
  go_wp2_with fail
  refine HD.out.mono ?_
  rintro e w1 ⟨A, c, xs, A2, c2, ids, rfl, hs, hl, hs2, hl2, hcap, hb1⟩
  have hM := Flat.mono Dep.enc Dep.ok
  have hM2 := Flat.mono encInt In64
  obtain ⟨i0, hi, hI0, hI1, hI2⟩ := info_parts VInt.info
  have HS := Lib.hid (fun (u : World) (e : Ext w1 u) => hs.ext hM e)
  have HS2 := Lib.hid (fun (u : World) (e : Ext w1 u) => hs2.ext hM2 e)
  have HB1 := Lib.hid hb1
  have HG := Lib.hid (fun h => goodW_start (l := xs) (ids := ids) h)
  have HN := Lib.hid (fun h => wavesR_no (l := xs) (ids := ids) h)
  have HLN := Lib.hid (wavesR_len xs ids)
  have HW := Lib.hid (Waves_n xs ids A xs.length c A2 ids.length c2 w1 hs (by unfold maxLen; omega) hs2 (by unfold maxLen; omega) hcap)
  have HP := Lib.hid (fun (u : World) (e : Ext w1 u) => sWaves_n xs ids A xs.length c A2 ids.length c2 u (HS.out u e) (by unfold maxLen; omega) (HS2.out u e) (by unfold maxLen; omega) hcap)
  clear hs hs2 hb1
  generalize (wavesR xs ids).1 = ys at *
  generalize (wavesR xs ids).2 = yb at *
  go_wp2_with fail
  refine HW.out.mono ?_
  rintro e w2 ⟨A3, c3, f3, rfl, hr2, hm2, hb2⟩
  have HR2 := Lib.hid (hr2.sl rfl hm2)
  have HB2 := Lib.hid hb2
  clear hr2 hm2 hb2
  go_wp2_with fail
  refine (HP.out _ HB2.out).mono ?_
  rintro e w3 ⟨A4, c4, f4, rfl, _, _, hb3⟩
  have HB3 := Lib.hid (HB2.out.trans hb3)
  have HY := Lib.hid (fun (u : World) (e : Ext w3 u) => HR2.out.ext RIntS.mono (hb3.trans e))
  have HE3 := Lib.hid (HB1.out.trans HB3.out)
  clear hb3
  cases yb
  · have hy := HN.out rfl
    subst hy
    go_wp2
    exact ret_bool rfl rfl rfl rfl HE3.out
  · have HG0 := Lib.hid (HG.out rfl)
    obtain ⟨hyl, hyx⟩ := HLN.out
    have HYX := Lib.hid hyx
    clear hyx HG HN HW HP
    go_wp2
    go_loopw [9, 45] (fun vt i wr => ∃ (k : Nat) (told : List Int) (AT : Option Addr) (cT : Nat), k ≤ ys.length ∧ i = .int .i64 k ∧ vt = .slice AT told.length cT ∧ Hid (wr.ownsRow w3.heap.size 3 1 (.slice AT told.length cT) told.length (told.flatMap encInt)) ∧ Hid (∀ y ∈ told, In64 y) ∧ Ext w3 wr ∧ Hid (goodW xs ids told (ys.drop k)) ∧ told.length ≤ k * 100) (fun _ i _ => ys.length - (intOf i).toNat)
    case atStart => exact ⟨0, [], _, 0, Nat.zero_le _, rfl, rfl, Lib.hid (by simpa using owns_empty w3 3 1), Lib.hid (fun y hy => by cases hy), (Ext.refl _).alloc _, HG0, by simp⟩
    case round =>
      obtain ⟨k, told, AT, cT, hk, rfl, rfl, HO, HIN, hb, HGW, htl⟩ := hrel
      obtain ⟨wo, rfl⟩ : ∃ wo, wo = wr := ⟨_, rfl⟩
      have hbo := hb.le
      have HTS := Lib.hid (fun (u : World) (e : Ext wo u) => (OwnAt.flat encInt_size HIN.out (owns_ext HO.out e)).slAt)
      by_cases hlt : k < ys.length
      · obtain ⟨b, o, x, cs, rfl, hbw, hx, _, hc, hr⟩ := (HY.out _ hb).at_ hlt
        obtain ⟨A1, c1, rfl, hsl, hml⟩ := hr
        have g0 := hc 0 _ rfl
        simp only [Nat.mul_one, Nat.add_zero] at g0
        have hxl := HYX.out x (List.mem_of_getElem? hx)
        have HXS := Lib.hid (fun (u : World) (e : Ext wo u) => hsl.ext hM2 e)
        have HGD := Lib.hid (show goodW xs ids told (x :: ys.drop (k + 1)) by have := HGW.out; rw [drop_cons hx] at this; exact this)
        clear hc hsl hx
        go_wp2
        go_loopw [51] (fun i wr => ∃ m : Nat, m ≤ xs.length ∧ i = .int .i64 m ∧ Ext wo wr) (fun i _ => xs.length - (intOf i).toNat)
        case atStart => exact ⟨0, Nat.zero_le _, rfl, Ext.refl _⟩
        case round =>
          obtain ⟨m, hm, rfl, hbk⟩ := hrel
          by_cases hlm : m < xs.length
          · obtain ⟨b', o', d, cs', rfl, hbw', hd, _, hc, rfl, _⟩ := (HS.out _ ((HB3.out.trans hb).trans hbk)).at_ hlm
            have f0 := hc 0 _ rfl
            have f1 := hc 1 _ rfl
            simp only [Nat.add_zero] at f0
            have HBD := Lib.hid (HGD.out.1 d (List.mem_of_getElem? hd))
            have HX1 := Lib.hid (fun (u : World) (e : Ext (wr.alloc (.cells #[.int .i64 d.Id, .int .i64 d.For] 31)) u) => hasInt_c x d.Id A1 x.length c1 u (HXS.out u ((hbk.alloc _).trans e)) hml)
            have HX2 := Lib.hid (fun (u : World) (e : Ext (wr.alloc (.cells #[.int .i64 d.Id, .int .i64 d.For] 31)) u) => hasInt_c ids d.For A2 ids.length c2 u (HS2.out u (((HB3.out.trans hb).trans (hbk.alloc _)).trans e)) (by unfold maxLen; omega))
            have HX3 := Lib.hid (fun (u : World) (e : Ext (wr.alloc (.cells #[.int .i64 d.Id, .int .i64 d.For] 31)) u) => hasInt_c told d.For AT told.length cT u (HTS.out u ((hbk.alloc _).trans e)) (by unfold maxLen; omega))
            clear hc hd
            rcases Bool.eq_false_or_eq_true (x.contains d.Id) with e1 | e1
            · rcases Bool.eq_false_or_eq_true (ids.contains d.For) with e2 | e2
              · have e3 : told.contains d.For = true := by
                  have := HBD.out
                  unfold badD at this
                  rw [e1, e2] at this
                  simpa using this
                rw [e1] at HX1
                rw [e2] at HX2
                rw [e3] at HX3
                clear e1 e2 e3
                go_wp2_with fail
                refine (HX1.out _ (Ext.refl _)).mono ?_
                rintro e w5 ⟨rfl, hb5⟩
                have i0' := hb5.cell (wcell_box wr [.int .i64 d.Id, .int .i64 d.For] 31 1 _ rfl)
                go_wp2_with fail
                refine (HX2.out _ hb5).mono ?_
                rintro e w6 ⟨rfl, hb6⟩
                have i1' := hb6.cell i0'
                go_wp2_with fail
                refine (HX3.out _ (hb5.trans hb6)).mono ?_
                rintro e w7 ⟨rfl, hb7⟩
                have hbn := ((hbk.alloc _).trans hb5).trans (hb6.trans hb7)
                clear hb5 i0' hb6 i1' hb7
                go_wp2
                go_roundw
                case rel => exact ⟨m + 1, by omega, by go_num, hbn⟩
                case measure => simp [intOf]; omega
              · rw [e1] at HX1
                rw [e2] at HX2
                clear e1 e2
                go_wp2_with fail
                refine (HX1.out _ (Ext.refl _)).mono ?_
                rintro e w5 ⟨rfl, hb5⟩
                have i0' := hb5.cell (wcell_box wr [.int .i64 d.Id, .int .i64 d.For] 31 1 _ rfl)
                go_wp2_with fail
                refine (HX2.out _ hb5).mono ?_
                rintro e w6 ⟨rfl, hb6⟩
                have hbn := ((hbk.alloc _).trans hb5).trans hb6
                clear hb5 i0' hb6
                go_wp2
                go_roundw
                case rel => exact ⟨m + 1, by omega, by go_num, hbn⟩
                case measure => simp [intOf]; omega
            · rw [e1] at HX1
              clear e1
              go_wp2_with fail
              refine (HX1.out _ (Ext.refl _)).mono ?_
              rintro e w5 ⟨rfl, hb5⟩
              have hbn := (hbk.alloc _).trans hb5
              clear hb5
              go_wp2
              go_roundw
              case rel => exact ⟨m + 1, by omega, by go_num, hbn⟩
              case measure => simp [intOf]; omega
          · have HXK := Lib.hid (HXS.out _ hbk)
            have HOK := Lib.hid (owns_ext HO.out hbk)
            have HEB := Lib.hid (hb.trans hbk)
            have hbke := hbk.le
            go_wp2_with (at_builtin; go_must (refine wpList_append_list (w0 := w3) (.tmp 73) (.tmp 74) _ w3.heap.size 3 i0 _ 1 8 (.slice AT told.length cT) told.length _ A1 x.length c1 x rfl rfl Try.underlying24 hi hI0 hI1 hI2 rfl (by omega) rfl HOK.out rfl HXK.out (fun _ => rfl) VInt.one (by unfold maxLen; omega) (by omega) HEB.out (Nat.le_refl _) (by omega) ?_); intro A5 c5 w5 ho5 hb5 hs5)
            have HO5 := Lib.hid ho5
            clear ho5
            go_wp2
            go_roundw
            case rel => exact ⟨k + 1, told ++ x, A5, c5, by omega, by go_num, by simp, Lib.hid (by rw [List.flatMap_append, List.length_append]; exact HO5.out), Lib.hid (fun y hy => by
              rcases List.mem_append.1 hy with hy | hy
              · exact HIN.out y hy
              · exact HXK.out.all y hy), hb5, Lib.hid HGD.out.2, by simp; omega⟩
            case measure => simp [intOf]; omega
      · have HF := Lib.hid (show told.length = ids.length by have := HGW.out; rw [List.drop_eq_nil_of_le (by omega)] at this; exact this)
        go_wp2
        exact ret_bool rfl rfl rfl (by rw [HF.out]; simp) (HE3.out.trans hb)
end Go.Proofs.Ytgnbjnlcikpknaa
