/- Contract: waves, the given way. -/
import Derived.Test.YtgnbjnlcikpknaaWaveI
namespace Go.Proofs.Ytgnbjnlcikpknaa
open Go.RowKit
set_option linter.unusedVariables false
theorem VInt.one (y : Int) : ∀ u ∈ encInt y, u.oneCell' = true := by
  intro u hu; simp [encInt] at hu; subst hu; rfl
theorem VInt.info : (Try.prog.info? 3).map (fun i => (i.zero, i.size, i.bytes)) = some (some (.int .i64 0), 1, 8) := by kernel_rfl
theorem VSl.info : (Try.prog.info? 24).map (fun i => (i.zero, i.size, i.bytes)) = some (some (.slice none 0 0), 1, 24) := by kernel_rfl
def venc (t : VItem) : List Value := [t.v]
theorem venc_one (t : VItem) : ∀ u ∈ venc t, u.oneCell' = true := by
  intro u hu; simp [venc] at hu; subst hu; rfl
def wlenV : Value → Nat
  | .slice _ n _ => n
  | _ => 0
def boxLen (w : World) (p : Nat) : Nat := match w.cell? ⟨p, 0, none⟩ with
  | some v => wlenV v
  | none => 0
theorem boxLen_of {w : World} {p n c : Nat} {A : Option Addr} (h : w.cell? ⟨p, 0, none⟩ = some (.slice A n c)) : boxLen w p = n := by unfold boxLen; rw [h]; rfl
theorem ret_vr_none {w w0 : World} {P : Program} {fn : Func} {a : Act} {t u : Tmp} {r : List (List Int) × Bool} (h : r = ([], false)) (hr : fn.results = #[.tmp t, .tmp u]) (hb : Ext w0 w) (hv : a.tmps.getD t undef = .slice none 0 0 := by rfl) (hu : a.tmps.getD u undef = .bool false := by rfl) (hd : a.defers = [] := by rfl) : bodyPost P fn (RetVR w0 r.1 r.2) .ret a w := by
  subst h
  exact bodyPost_ret (results_tmp2 hr _ _ _) hd ⟨none, 0, fun _ => ⟨none, 0, 0, []⟩, by rw [hv, hu]; rfl, VR.nil _ (Nat.le_refl _), fun j x hx => by simp at hx, hb⟩
theorem AppR.typed {w w' : World} {base : Nat} {e : TypeId} {size : Nat} {v : Value} {A' : Option Addr} {n' c' : Nat} {L' : List Value} (h : AppR w w' base e size v A' n' c' L') {base2 n : Nat} {sz2 : Nat} {L : List Value} (hown : w.ownsRow base2 e sz2 v n L) : ∀ (b : Nat) (cs' : Array Value) (e' : TypeId), e' ≠ e → w.heap[b]? = some (Obj.cells cs' e') → w'.heap[b]? = some (Obj.cells cs' e') := by
  intro b cs' e' hne hb
  have hbl : b < w.heap.size := by
    rcases Nat.lt_or_ge b w.heap.size with hl | hl
    · exact hl
    · rw [Array.getElem?_eq_none hl] at hb; cases hb
  rw [h.kept b hbl (fun hv => ?_)]
  · exact hb
  · rcases hown.2 with ⟨rfl, _⟩ | ⟨g, cap, cur, rfl, _, hh, _⟩
    · cases hv
    · injection hv with hv; subst hv
      rw [hh] at hb; injection hb with hb; injection hb with _ h2; exact hne h2.symm
theorem owns_stored_far {w : World} {lo n : Nat} {e : TypeId} {sz : Nat} {v : Value} {L : List Value} {g p : Nat} {u : Value} (h : w.ownsRow lo e sz v n L) (hne : v.ownBlock ≠ some g) : (w.setCell ⟨g, p, none⟩ u).ownsRow lo e sz v n L := by
  obtain ⟨h1, h2⟩ := h
  refine ⟨h1, ?_⟩
  rcases h2 with h2 | ⟨b, cap, cur, rfl, hg, hh, r⟩
  · exact .inl h2
  · refine .inr ⟨b, cap, cur, rfl, hg, (Below.heap_setCell _ _ _ _ (fun e => hne ?_)).trans hh, r⟩
    simp only [] at e
    rw [e]; rfl
theorem VR.putFar {w : World} {lo hi : Nat} {A : Option Addr} {n c k g p : Nat} {f : Nat → VItem} {u : Value} (h : VR w lo hi A n c k f) (hr : (Value.slice A n c).ownBlock ≠ some g) (hi' : ∀ j, j < k → (f j).v.ownBlock ≠ some g) : VR (w.setCell ⟨g, p, none⟩ u) lo hi A n c k f := by
  obtain ⟨L, h1, h2⟩ := h.row
  exact ⟨by simpa using h.top, ⟨L, owns_stored_far h1 hr, h2⟩, fun j hj => owns_stored_far (h.own j hj) (hi' j hj), h.far, h.low, h.lows⟩
theorem owns_box (w : World) (u : Value) (e : TypeId) : (w.alloc (.cells #[u] e)).ownsRow w.heap.size e 1 (.slice (some ⟨w.heap.size, 0, none⟩) 1 1) 1 [u] :=
  World.ownsRow_lit w #[u] 1 (Nat.le_refl _) (by unfold maxLen; omega) (by simp)
def RetVInt (w : World) (xs : List Int) : Ending → World → Prop := fun e w' => ∃ A c, e = .returned (.slice A xs.length c) ∧ w'.ownsRow w.heap.size 3 1 (.slice A xs.length c) xs.length (xs.flatMap encInt) ∧ Ext w w'
theorem copyInts_v (xs : List Int) (A : Option Addr) (n c : Nat) (w : World) (h : SlAt RInt 1 w A n xs) (hl : n ≤ 1048576) : Calls Try.prog 35 #[.slice A n c] w (RetVInt w xs) := by
  obtain ⟨i0, hi, hI0, hI1, hI2⟩ := info_parts VInt.info
  obtain rfl := h.len
  go_enter Try.func35, Try.ntmps35
  go_wp2_with (at_builtin; go_must (refine wpList_append_list (w0 := w) (.const (.slice none 0 0)) (.tmp 3) _ w.heap.size 3 i0 _ 1 8 (.slice none 0 0) 0 [] A xs.length c xs rfl rfl Try.underlying24 hi hI0 hI1 hI2 rfl (by omega) rfl (World.ownsRow_nil _ _ _ _) rfl h (fun _ => rfl) VInt.one (by unfold maxLen; omega) (by omega) (Ext.refl _) (Nat.le_refl _) (Nat.le_refl _) ?_); intro A1 c1 w1 ho1 hb1 hs1)
  simp only [Nat.zero_add, List.nil_append] at ho1
  have HO := Lib.hid ho1
  clear ho1
  go_wp2
  exact bodyPost_ret (results_tmp rfl _ _ _) rfl ⟨A1, c1, by simp, HO.out, hb1⟩
set_option maxHeartbeats 8000000 in
set_option maxRecDepth 8000 in
theorem Waves_n (xs : List Dep) (ids : List Int) (A : Option Addr) (n c : Nat) (A2 : Option Addr) (n2 c2 : Nat) (w : World) (h : SlAt RDep 2 w A n xs) (hl : n ≤ maxLen) (h2 : SlAt RInt 1 w A2 n2 ids) (hl2 : n2 ≤ maxLen) (hcap2 : n2 ≤ c2) : Calls Try.prog 8 #[.slice A n c, .slice A2 n2 c2] w (RetVR w (wavesR xs ids).1 (wavesR xs ids).2) := by
  have hl' := hl
  unfold maxLen at hl
  obtain rfl := h.len
  obtain rfl := h2.len
  have hM := Flat.mono Dep.enc Dep.ok
  have hM2 := Flat.mono encInt In64
  obtain ⟨i0, hi, hz0, hz1, hz2⟩ := info_parts VInt.info
  obtain ⟨i1, hi1, hy0, hy1, hy2⟩ := info_parts VSl.info
  have hA := Lib.hid (fun (u : World) (e : Ext w u) => DepsOk_c xs A xs.length c u (h.ext hM e) hl')
  have HD := Lib.hid (fun (u : World) (e : Ext w u) => h.ext hM e)
  have HI := Lib.hid (fun (u : World) (e : Ext w u) => h2.ext hM2 e)
  rcases Bool.eq_false_or_eq_true (depsB xs) with hB | hB
  all_goals rw [hB] at hA
  · have HBB := Lib.hid hB
    by_cases hbig : 999 < ids.length
    · have HR := Lib.hid (show wavesR xs ids = ([], false) from wavesR_bad (by unfold idsB; rw [show decide (ids.length ≤ 999) = false by rw [decide_eq_false_iff_not]; omega]; simp))
      clear hB h h2
      go_enter Try.func8, Try.ntmps8
      go_wp2_with fail
      refine (hA.out _ (Ext.refl _)).mono ?_
      rintro e w0 ⟨rfl, hb0⟩
      go_wp2
      exact ret_vr_none HR.out rfl hb0
    have hsm : ids.length ≤ 999 := by omega
    have HCN := Lib.hid (fun (u : World) (e : Ext w u) (k : Nat) (hk : k ≤ ids.length) (x : Int) => Contains_c (ids.take k) x A2 k c2 u ((h2.ext hM2 e).take hk) (by unfold maxLen; omega))
    clear hB h h2
    go_enter Try.func8, Try.ntmps8
    go_wp2_with fail
    refine (hA.out _ (Ext.refl _)).mono ?_
    rintro e w0 ⟨rfl, hb0⟩
    go_wp2
    go_loopw [24] (fun i wr => ∃ k : Nat, k ≤ ids.length ∧ i = .int .i64 k ∧ Ext w wr ∧ Hid (idsGo [] ids = idsGo (ids.take k) (ids.drop k))) (fun i _ => ids.length - (intOf i).toNat)
    case atStart => exact ⟨0, Nat.zero_le _, rfl, hb0, Lib.hid rfl⟩
    case round =>
      obtain ⟨k, hk, rfl, hb, HE⟩ := hrel
      by_cases hlt : k < ids.length
      · obtain ⟨b, o, x, cs, rfl, hbw, hx, _, hc, rfl, _⟩ := (HI.out _ hb).at_ hlt
        have c0 := hc 0 _ rfl
        simp only [Nat.mul_one, Nat.add_zero] at c0
        have HX := Lib.hid hx; have HB := Lib.hid hb
        have HG := Lib.hid (idsGo_next hx)
        have HC := Lib.hid (fun (u : World) (e : Ext wr u) => HCN.out u (hb.trans e) k hk x)
        have hwi : withinB x 1 999 = idB x := rfl
        rcases Bool.eq_false_or_eq_true (idB x) with h1 | h1
        · rcases Bool.eq_false_or_eq_true ((ids.take k).contains x) with h2 | h2
          all_goals
            have H2 := Lib.hid h2
            have H1 := Lib.hid h1
            rw [h2] at HC
            clear hc hx hb h2
            go_wp2_with (first | (go_at_call 33; (with_reducible refine (within_c _ _ _ _).mono ?_); rintro e w1 ⟨rfl, rfl⟩; rw [hwi, h1]) | (go_at_call 34; (with_reducible refine (HC.out _ (Ext.refl _)).mono ?_); rintro e w2 ⟨rfl, hb2⟩))
          · exact ret_vr_none (wavesR_bad (by unfold idsB; rw [HE.out, HG.out, H1.out, H2.out]; simp)) rfl (HB.out.trans hb2)
          · go_roundw
            case rel => exact ⟨k + 1, by omega, by go_num, HB.out.trans hb2, Lib.hid (by rw [HE.out, HG.out, H1.out, H2.out]; simp)⟩
            case measure => simp [intOf]; omega
        · have H1 := Lib.hid h1
          clear hc hx hb HC
          go_wp2_with (first | (go_at_call 33; (with_reducible refine (within_c _ _ _ _).mono ?_); rintro e w1 ⟨rfl, rfl⟩; rw [hwi, h1]))
          exact ret_vr_none (wavesR_bad (by unfold idsB; rw [HE.out, HG.out, H1.out]; simp)) rfl HB.out
      · have HOK := Lib.hid (show (depsB xs && idsB ids) = true by rw [HBB.out]; unfold idsB; rw [HE.out, List.drop_eq_nil_of_le (by omega)]; simp [idsGo]; omega)
        go_wp2_with fail
        refine (copyInts_v ids A2 ids.length c2 _ (HI.out _ (hb.alloc _)) (by omega)).mono ?_
        rintro e wc ⟨AL0, cL0, rfl, hoL, hbc⟩
        have hzc : wr.heap.size < wc.heap.size := by have := hbc.le; simp at this; omega
        have HALL := Lib.hid (HI.out _ hb).all
        have HOL := Lib.hid hoL
        have hbw := hb.le
        have HO0 := Lib.hid (owns_ext (owns_empty wr 24 1) hbc)
        have HBC := Lib.hid ((hb.alloc (.cells #[] 24)).trans hbc)
        clear hoL hbc hb HE HCN
        go_wp2
        have HBX := Lib.hid (owns_box wc (.slice AL0 ids.length cL0) 24)
        go_loopw [8] (fun v wr => ∃ (left : List Int) (acc : List (List Int)) (A1 : Option Addr) (c1 : Nat) (f : Nat → VItem) (AL : Option Addr) (cL k : Nat), v = .slice A1 acc.length c1 ∧ Hid (VR wr w.heap.size wr.heap.size A1 acc.length c1 acc.length f) ∧ Hid (VMatch acc f) ∧ Hid (wr.ownsRow wc.heap.size 24 1 (.slice (some ⟨wc.heap.size, 0, none⟩) 1 1) 1 [.slice AL left.length cL]) ∧ Hid (SlAt RInt 1 wr AL left.length left) ∧ Hid (stands xs ids acc left k) ∧ acc.length + left.length ≤ ids.length ∧ Hid (rowsApart (Value.slice A1 acc.length c1).ownBlock (some wc.heap.size)) ∧ Ext w wr) (fun _ wr => boxLen wr wc.heap.size)
        case atStart =>
          have hE0 : Ext wc (wc.alloc (.cells #[.slice AL0 ids.length cL0] 24)) := (Ext.refl _).alloc _
          refine ⟨ids, [], _, 0, fun _ => ⟨none, 0, 0, []⟩, AL0, cL0, ids.length, rfl, Lib.hid ⟨Nat.le_refl _, ⟨_, owns_base (owns_ext HO0.out hE0) hbw, fun j hj => by simp at hj⟩, fun j hj => by simp at hj, fun i j hi => by simp at hi, fun q e => ?_, fun j hj => by simp at hj⟩, Lib.hid (fun j x hx => by simp at hx), Lib.hid (by simpa using HBX.out), Lib.hid ?_, Lib.hid (stands_start xs ids), by simp, Lib.hid ?_, HBC.out.trans hE0⟩
          · have e1 : wr.heap.size = q := Option.some.inj e; have := hE0.le; omega
          · exact (OwnAt.flat encInt_size HALL.out (owns_ext HOL.out hE0)).slAt
          · intro q e e'; have e1 : wr.heap.size = q := Option.some.inj e; have e2 : wc.heap.size = q := Option.some.inj e'; omega
        case round =>
          obtain ⟨left, acc, A1, c1, f, AL, cL, k, rfl, HNR, HM, HBO, HSL, HST, hlen, HAP, hb⟩ := hrel
          obtain ⟨wo, rfl⟩ : ∃ wo, wo = wr := ⟨_, rfl⟩
          have hcell : wo.cell? ⟨wc.heap.size, 0, none⟩ = some (.slice AL left.length cL) := by rw [HBO.out.cellAt 0 (by omega)]; rfl
          have hfro := HBO.out.frozenAt 0
          have hpl : wc.heap.size < wo.heap.size := (HBO.out.lt _ rfl).2
          have HBL := Lib.hid (boxLen_of hcell)
          by_cases h0 : 0 < left.length
          · have HH0 := Lib.hid h0
            go_wp2
            go_loopw [10, 11, 50] (fun vw vr i wr => ∃ (j : Nat) (wave rest : List Int) (Aw : Option Addr) (cw : Nat) (Ar : Option Addr) (cr : Nat), j ≤ left.length ∧ i = .int .i64 j ∧ vw = .slice Aw wave.length cw ∧ vr = .slice Ar rest.length cr ∧ Hid (wr.ownsRow wo.heap.size 3 1 (.slice Aw wave.length cw) wave.length (wave.flatMap encInt)) ∧ Hid (wr.ownsRow wo.heap.size 3 1 (.slice Ar rest.length cr) rest.length (rest.flatMap encInt)) ∧ Hid (rowsApart (Value.slice Aw wave.length cw).ownBlock (Value.slice Ar rest.length cr).ownBlock) ∧ Ext wo wr ∧ Hid (wave = (left.take j).filter (freeW xs left)) ∧ Hid (rest = (left.take j).filter (fun n => !freeW xs left n))) (fun _ _ i _ => left.length - (intOf i).toNat)
            case atStart =>
              refine ⟨0, [], [], _, 0, _, 0, Nat.zero_le _, rfl, rfl, rfl, Lib.hid ?_, Lib.hid ?_, Lib.hid ?_, ((Ext.refl _).alloc _).alloc _, Lib.hid rfl, Lib.hid rfl⟩
              · exact owns_ext (owns_empty wo 3 1) ((Ext.refl _).alloc _)
              · have := owns_empty (wo.alloc (.cells #[] 3)) 3 1
                exact owns_base (by simpa using this) (by simp)
              · intro q e e'; have e1 : wo.heap.size = q := Option.some.inj e; have e2 : wo.heap.size + 1 = q := Option.some.inj e'; omega
            case round =>
              obtain ⟨j, wave, rest, Aw, cw, Ar, cr, hj, rfl, rfl, rfl, HOW, HOR, HAR, hbi, HW, HRS⟩ := hrel
              have hwl : wave.length ≤ left.length := by rw [HW.out]; exact filter_take_len _ _ _
              have hrl : rest.length ≤ left.length := by rw [HRS.out]; exact filter_take_len _ _ _
              by_cases hlt : j < left.length
              · have hSr := HSL.out.ext hM2 hbi
                obtain ⟨b, o, x, cs, rfl, hbw, hx, _, hc, rfl, _⟩ := hSr.at_ hlt
                have g0 := hc 0 _ rfl
                simp only [Nat.mul_one, Nat.add_zero] at g0
                have HX := Lib.hid hx
                have HOK1 := Lib.hid (HSL.out.all x (List.mem_of_getElem? hx))
                have HFW := Lib.hid (filter_succ (p := freeW xs left) hx)
                have HFR := Lib.hid (filter_succ (p := fun n => !freeW xs left n) hx)
                have hcellr := hbi.cell hcell
                have hzo := hbi.le
                have HC := Lib.hid (fun (u : World) (e : Ext (wr.alloc (.cells #[.int .i64 x] 3)) u) => ContainsFunc_c xs (fun d => d.Id == x && left.contains d.For) 37 #[.pointer (some ⟨wr.heap.size, 0, none⟩), .pointer (some ⟨wc.heap.size, 0, none⟩)] A xs.length c u (HD.out _ ((hb.trans hbi).trans (((Ext.refl _).alloc _).trans e))) hl' Waves1_run (fun y u' e' => Waves1_c y x wr.heap.size wc.heap.size left (some ⟨b, o, none⟩) cL u' (Nat.lt_of_lt_of_le (by simp) (e.trans e').le) (Nat.lt_of_lt_of_le (by simp; omega) (e.trans e').le) ((e.trans e').cell (wcell_box wr [.int .i64 x] _ 0 _ rfl)) ((((Ext.refl wr).alloc _).trans (e.trans e')).cell hcellr) (hSr.ext hM2 (((Ext.refl wr).alloc _).trans (e.trans e'))) (by unfold maxLen; omega)))
                rcases Bool.eq_false_or_eq_true (xs.any (fun d => d.Id == x && left.contains d.For)) with h1 | h1
                all_goals
                  rw [h1] at HC
                  have HEB := Lib.hid (fun (u : World) (e : Ext (wr.alloc (.cells #[.int .i64 x] 3)) u) => ((Ext.refl wr).alloc (.cells #[.int .i64 x] 3)).trans e)
                · have H1 := Lib.hid (show freeW xs left x = false by unfold freeW; rw [h1]; rfl)
                  clear hc hx hA hSr h1 hcellr
                  go_wp2_with fail
                  refine (HC.out _ (Ext.refl _)).mono ?_
                  rintro e w2 ⟨rfl, hb2⟩
                  have hz2' : wr.heap.size < w2.heap.size := by have := hb2.le; simp at this; omega
                  have g1 := hb2.cell (wcell_box wr [.int .i64 x] 3 0 _ rfl)
                  have HE2 := Lib.hid (hbi.trans (HEB.out w2 hb2))
                  have HOR2 := Lib.hid (owns_ext HOR.out (HEB.out w2 hb2))
                  have HOW2 := Lib.hid (owns_ext HOW.out (HEB.out w2 hb2))
                  clear hb2
                  go_wp2_with (at_builtin; go_must (refine wpList_append_r (ok := In64) (.tmp 57) (.tmp 59) _ wo.heap.size 3 i0 _ 1 8 (.slice Ar rest.length cr) rest.length (rest.flatMap encInt) _ 1 1 [x] rfl rfl Try.underlying24 hi hz0 hz1 hz2 rfl (by omega) rfl (owns_ext HOR2.out ((Ext.refl _).alloc _)) rfl (by exact sl_one_r w2 x 3 rfl HOK1.out) (fun _ => rfl) VInt.one (by unfold maxLen; omega) (by omega) (by simp; omega) ?_); intro A3 c3 w3 hr3)
                  have HR3 := Lib.hid hr3
                  clear hr3
                  go_wp2
                  go_roundw
                  case rel =>
                    have a2 := (Ext.refl w2).alloc (.cells (encInt x).toArray 3)
                    refine ⟨j + 1, wave, rest ++ [x], Aw, cw, A3, c3, by omega, by go_num, rfl, by simp, Lib.hid (HR3.out.other (owns_ext HOW2.out a2) HAR.out), Lib.hid ?_, Lib.hid ?_, ext_turned (HE2.out.trans a2) (HR3.out.turned (lo := wo.heap.size) (fun q e => (HOR.out.lt q e).1)) (Nat.le_refl _), Lib.hid ?_, Lib.hid ?_⟩
                    · have := HR3.out.row; rw [List.flatMap_append, List.length_append]; simpa using this
                    · have := HR3.out.apart (owns_ext HOW2.out a2) HAR.out; simpa using this
                    · rw [HFW.out, if_neg (by rw [H1.out]; simp), ← HW.out]
                    · rw [HFR.out, if_pos (by rw [H1.out]; rfl), ← HRS.out]
                  case measure => simp [intOf]; omega
                · have H1 := Lib.hid (show freeW xs left x = true by unfold freeW; rw [h1]; rfl)
                  clear hc hx hA hSr h1 hcellr
                  go_wp2_with fail
                  refine (HC.out _ (Ext.refl _)).mono ?_
                  rintro e w2 ⟨rfl, hb2⟩
                  have hz2' : wr.heap.size < w2.heap.size := by have := hb2.le; simp at this; omega
                  have g1 := hb2.cell (wcell_box wr [.int .i64 x] 3 0 _ rfl)
                  have HE2 := Lib.hid (hbi.trans (HEB.out w2 hb2))
                  have HOR2 := Lib.hid (owns_ext HOR.out (HEB.out w2 hb2))
                  have HOW2 := Lib.hid (owns_ext HOW.out (HEB.out w2 hb2))
                  clear hb2
                  go_wp2_with (at_builtin; go_must (refine wpList_append_r (ok := In64) (.tmp 61) (.tmp 63) _ wo.heap.size 3 i0 _ 1 8 (.slice Aw wave.length cw) wave.length (wave.flatMap encInt) _ 1 1 [x] rfl rfl Try.underlying24 hi hz0 hz1 hz2 rfl (by omega) rfl (owns_ext HOW2.out ((Ext.refl _).alloc _)) rfl (by exact sl_one_r w2 x 3 rfl HOK1.out) (fun _ => rfl) VInt.one (by unfold maxLen; omega) (by omega) (by simp; omega) ?_); intro A3 c3 w3 hr3)
                  have HR3 := Lib.hid hr3
                  clear hr3
                  go_wp2
                  go_roundw
                  case rel =>
                    have a2 := (Ext.refl w2).alloc (.cells (encInt x).toArray 3)
                    refine ⟨j + 1, wave ++ [x], rest, A3, c3, Ar, cr, by omega, by go_num, by simp, rfl, Lib.hid ?_, Lib.hid (HR3.out.other (owns_ext HOR2.out a2) HAR.out.symm), Lib.hid ?_, ext_turned (HE2.out.trans a2) (HR3.out.turned (lo := wo.heap.size) (fun q e => (HOW.out.lt q e).1)) (Nat.le_refl _), Lib.hid ?_, Lib.hid ?_⟩
                    · have := HR3.out.row; rw [List.flatMap_append, List.length_append]; simpa using this
                    · have := (HR3.out.apart (owns_ext HOR2.out a2) HAR.out.symm).symm; simpa using this
                    · rw [HFW.out, if_pos H1.out, ← HW.out]
                    · rw [HFR.out, if_neg (by rw [H1.out]; simp), ← HRS.out]
                  case measure => simp [intOf]; omega
              · have HJ := Lib.hid (show (left.take j) = left from List.take_of_length_le (by omega))
                have HW2 := Lib.hid (show wave = left.filter (freeW xs left) by rw [HW.out, HJ.out])
                have HRS2 := Lib.hid (show rest = left.filter (fun n => !freeW xs left n) by rw [HRS.out, HJ.out])
                have HSP := Lib.hid (show wave.length + rest.length = left.length by rw [HW2.out, HRS2.out]; exact filter_split_len _ _)
                by_cases hw0 : wave.length = 0
                · have HR := Lib.hid (show wavesR xs ids = ([], false) from wavesR_none HOK.out (stands_none HST.out HH0.out (by rw [← HW2.out]; exact hw0)))
                  go_wp2
                  exact ret_vr_none HR.out rfl (hb.trans hbi)
                · obtain ⟨L, hL, hrow⟩ := (HNR.out.ext hbi).row
                  have HL := Lib.hid hL
                  have HLrow := Lib.hid hrow
                  have HBX2 := Lib.hid (owns_ext HBO.out hbi)
                  have hzo := hbi.le
                  have hfro2 := HBX2.out.frozenAt 0
                  have hcell2 := hbi.cell hcell
                  have hww : w.heap.size ≤ wo.heap.size := hb.le
                  have HSTN := Lib.hid (stands_next HST.out HH0.out (by rw [← HW2.out]; exact hw0))
                  have HALLW := Lib.hid (show ∀ y ∈ wave, In64 y from fun y hy => HSL.out.all y (by rw [HW2.out] at hy; exact (List.mem_filter.1 hy).1))
                  have HALLR := Lib.hid (show ∀ y ∈ rest, In64 y from fun y hy => HSL.out.all y (by rw [HRS2.out] at hy; exact (List.mem_filter.1 hy).1))
                  have HW0 := Lib.hid hw0
                  clear hL hrow
                  go_wp2_with (at_builtin; go_must (refine wpList_append_r (ok := fun _ => True) (.tmp 69) (.tmp 71) _ w.heap.size 24 i1 _ 1 24 (.slice A1 acc.length c1) acc.length L _ 1 1 [⟨Aw, wave.length, cw, wave.flatMap encInt⟩] rfl rfl Try.underlying27 hi1 hy0 hy1 hy2 rfl (by omega) rfl (owns_ext HL.out ((Ext.refl _).alloc _)) rfl (by exact sl_one_r (enc := venc) (ok := fun _ => True) wr ⟨Aw, wave.length, cw, wave.flatMap encInt⟩ 24 rfl trivial) (fun _ => rfl) venc_one (by unfold maxLen; omega) (by omega) (by simp; omega) ?_); intro A3 c3 w3 hr3; have hcell3 : w3.cell? ⟨wc.heap.size, 0, none⟩ = some (.slice AL left.length cL) := hr3.cell (((Ext.refl wr).alloc (.cells #[.slice Aw wave.length cw] 24)).cell hcell2) (fun e => HAP.out _ e rfl); have hfro3 : w3.frozen? ⟨wc.heap.size, 0, none⟩ = false := hr3.frozen ((((Ext.refl wr).alloc (.cells #[.slice Aw wave.length cw] 24)).frozenEq (a := ⟨wc.heap.size, 0, none⟩) (by simp only []; omega)).trans hfro2) (by simp; omega) (fun e => HAP.out _ e rfl))
                  have HR3 := Lib.hid hr3
                  have hz3 := hr3.size
                  clear hr3
                  have a2 := (Ext.refl wr).alloc (.cells (venc ⟨Aw, wave.length, cw, wave.flatMap encInt⟩).toArray 24)
                  have hKT := HR3.out.typed (owns_ext HL.out a2)
                  have hPB : ∀ {lo' m : Nat} {v : Value} {M : List Value}, w3.ownsRow lo' 3 1 v m M → v.ownBlock ≠ some wc.heap.size := fun h e => owns_type h (HR3.out.other (owns_ext HBX2.out a2) (fun q e1 e2 => HAP.out q e2 e1)) (by decide) _ e rfl
                  have HAP3 := Lib.hid (show rowsApart (Value.slice A3 (acc.length + 1) c3).ownBlock (some wc.heap.size) from (HR3.out.apart (owns_ext HBX2.out a2) (fun q e1 e2 => HAP.out q e2 e1)).symm)
                  have HBX3 := Lib.hid ((HR3.out.other (owns_ext HBX2.out a2) (fun q e1 e2 => HAP.out q e2 e1)).stored 0 (.slice Ar rest.length cr)).1
                  have HG := Lib.hid (VR.grow ⟨Aw, wave.length, cw, wave.flatMap encInt⟩ (HNR.out.ext hbi) a2 HL.out HLrow.out (by simpa [venc] using HR3.out.row) hKT (owns_base (owns_ext HOW.out a2) hww) (fun q e => (HOW.out.lt q e).1))
                  have HORF := Lib.hid (owns_stored_far (p := 0) (u := .slice Ar rest.length cr) (owns_kept_type (owns_ext HOR.out a2) hKT (by decide)) (hPB (owns_kept_type (owns_ext HOR.out a2) hKT (by decide))))
                  have HGF := Lib.hid (HG.out.putFar (g := wc.heap.size) (p := 0) (u := .slice Ar rest.length cr) (fun e => HAP3.out _ e rfl) (fun j hj => hPB (HG.out.own j hj)))
                  have HE3 := Lib.hid (show Ext w (w3.setCell ⟨wc.heap.size, 0, none⟩ (.slice Ar rest.length cr)) from (ext_turned ((hb.trans hbi).trans a2) (HR3.out.turned (lo := w.heap.size) (fun q e => (HNR.out.row.choose_spec.1.lt q e).1)) (Nat.le_refl _)).setCell (HBC.out.le) _)
                  clear hcell2 hfro2 hcell hfro a2 hKT hPB
                  go_roundw
                  case rel => exact ⟨rest, acc ++ [wave], A3, c3, _, Ar, cr, k - 1, by simp, Lib.hid (by have := HGF.out; simpa using this), Lib.hid (HM.out.snoc rfl wave _ rfl rfl HALLW.out), Lib.hid (by simpa using HBX3.out), Lib.hid (OwnAt.flat encInt_size HALLR.out HORF.out).slAt, Lib.hid (by rw [HW2.out, HRS2.out]; exact HSTN.out), by have := HSP.out; simp; omega, Lib.hid (by simpa using HAP3.out), HE3.out⟩
                  case measure =>
                    rw [HBL.out, boxLen_of (A := Ar) (n := rest.length) (c := cr) (by rw [HBX3.out.cellAt 0 (by omega)]; rfl)]
                    have := HSP.out
                    omega
          · have HR := Lib.hid (show wavesR xs ids = (acc, true) from wavesR_some HOK.out (stands_end HST.out (by omega)))
            go_wp2
            rw [HR.out]
            exact bodyPost_ret (results_tmp2 rfl _ _ _) rfl ⟨A1, c1, f, rfl, HNR.out, HM.out, hb⟩
  · have HR := Lib.hid (show wavesR xs ids = ([], false) from wavesR_bad (by rw [hB]; rfl))
    go_enter Try.func8, Try.ntmps8
    go_wp2_with fail
    refine (hA.out _ (Ext.refl _)).mono ?_
    rintro e w0 ⟨rfl, hb0⟩
    go_wp2
    exact ret_vr_none HR.out rfl hb0
end Go.Proofs.Ytgnbjnlcikpknaa
