/- Merged by mergelean.py: RestN, RestW, SRest, IRest, ProfAtI, WFnRest. -/
import Derived.Test.YtgmlcohffdeplaaGreatMChg
import Derived.Test.YtgmlcohffdeplaaGreatMRestL
import Derived.Test.YtgmlcohffdeplaaGreatMElig
import Derived.Test.YtgmlcohffdeplaaGreatMRes
import Derived.Deep.RegionLaw
import Derived.Test.YtgmlcohffdeplaaGreatMMoved
import Derived.Deep.RegionHeld3
import Derived.Test.YtgmlcohffdeplaaGreatProfF
import Derived.Test.YtgmlcohffdeplaaGreatMDRoom
/-! RestN -/
namespace Go.Proofs.YtgmlcohffdeplaaGreat
open Go.RowKit
set_option linter.unusedVariables false
attribute [local go_sem ↓] run_vec_eq run_vec_guard run_vec_ne
/-- A profile in new memory is handed back. -/
def RetProfK (w : World) (l : List Pt) : Ending → World → Prop := fun e w' => ∃ (A : Option Addr) (c : Nat), e = .returned (.agg #[.slice A l.length c]) ∧ w'.ownsRow w.heap.size 107 4 (.slice A l.length c) l.length (l.flatMap Pt.enc) ∧ (∀ y ∈ l, y.ok) ∧ Ext w w'
theorem restG_ok {x y : Vec} (h : restG x = some y) : y = ⟨0, 0, 0⟩ := by injection h with h; exact h.symm
set_option maxHeartbeats 8000000 in
set_option maxRecDepth 8000 in
theorem l15Node_c (xs o : List Pt) (fr te : Int) (An : Option Addr) (nn cn : Nat) (A : Option Addr) (n c : Nat) (w : World) (h : SlAt RPt 4 w A n xs) (hp : profB xs = true) (hs : spanT fr te = true) (ho : chgGo xs fr te restG (timesL xs fr te) [] = some o) : Calls Tryz.prog 28 #[.agg #[.slice A n c], .agg #[.int .i64 fr, .int .i64 te, .slice An nn cn]] w (RetProfK w o) := by
  obtain rfl := h.len
  have hl := (profB_parts hp).2.1
  have hM := Flat.mono Pt.enc Pt.ok
  obtain ⟨i1, hi1, hJ0, hJ1, hJ2⟩ := info_parts CPt.info
  have hff : In64 fr ∧ In64 te := by
    obtain ⟨h1, h2, h3⟩ := span_parts hs
    unfold timeB at h1 h2
    rw [decide_eq_true_iff] at h1 h2
    exact ⟨in64_if (by omega) (by omega), in64_if (by omega) (by omega)⟩
  have HTM := Lib.hid (fun (u : World) (e : Ext w u) => l03Times_o xs fr te A xs.length c u (h.ext hM e) hl hff.1 hff.2)
  have HAT := Lib.hid (fun (u : World) (e : Ext w u) (t : Int) => l03At_c xs t A xs.length c u (h.ext hM e) (by unfold maxLen; omega))
  have HP := Lib.hid hp
  have HTM2 := Lib.hid (timesL_time hp (span_parts hs))
  have HTL := Lib.hid (timesL_len xs fr te)
  clear hp hs h
  generalize hn : xs.length = n at *
  have HN := Lib.hid hn
  clear hn
  go_enter Tryz.func28, Tryz.ntmps28
  obtain ⟨W, hW⟩ : ∃ u, u = ((w.alloc (.cells #[.slice A n c] 42)).alloc (.cells #[.int .i64 fr, .int .i64 te, .slice An nn cn] 73)).alloc (.cells #[.slice none 0 0] 42) := ⟨_, rfl⟩
  have a0 := (((Ext.refl _).alloc (.cells #[.int .i64 fr, .int .i64 te, .slice An nn cn] 73)).alloc (.cells #[.slice none 0 0] 42)).cell (cell_box_at w (w.heap.size) (by simp) [.slice A n c] 42 0 _ rfl)
  have af0 := ((((Ext.refl _).alloc (.cells #[.int .i64 fr, .int .i64 te, .slice An nn cn] 73)).alloc (.cells #[.slice none 0 0] 42)).frozenEq (a := ⟨w.heap.size, 0, none⟩) (by simp)).trans (frozen_box_at w (w.heap.size) (by simp) #[.slice A n c] 42 0)
  have b0 := ((Ext.refl _).alloc (.cells #[.slice none 0 0] 42)).cell (cell_box_at (w.alloc (.cells #[.slice A n c] 42)) (w.heap.size + 1) (by simp) [.int .i64 fr, .int .i64 te, .slice An nn cn] 73 0 _ rfl)
  have b1 := ((Ext.refl _).alloc (.cells #[.slice none 0 0] 42)).cell (cell_box_at (w.alloc (.cells #[.slice A n c] 42)) (w.heap.size + 1) (by simp) [.int .i64 fr, .int .i64 te, .slice An nn cn] 73 1 _ rfl)
  have b2 := ((Ext.refl _).alloc (.cells #[.slice none 0 0] 42)).cell (cell_box_at (w.alloc (.cells #[.slice A n c] 42)) (w.heap.size + 1) (by simp) [.int .i64 fr, .int .i64 te, .slice An nn cn] 73 2 _ rfl)
  have bf0 := (((Ext.refl _).alloc (.cells #[.slice none 0 0] 42)).frozenEq (a := ⟨w.heap.size + 1, 0, none⟩) (by simp)).trans (frozen_box_at (w.alloc (.cells #[.slice A n c] 42)) (w.heap.size + 1) (by simp) #[.int .i64 fr, .int .i64 te, .slice An nn cn] 73 0)
  have bf1 := (((Ext.refl _).alloc (.cells #[.slice none 0 0] 42)).frozenEq (a := ⟨w.heap.size + 1, 1, none⟩) (by simp)).trans (frozen_box_at (w.alloc (.cells #[.slice A n c] 42)) (w.heap.size + 1) (by simp) #[.int .i64 fr, .int .i64 te, .slice An nn cn] 73 1)
  have bf2 := (((Ext.refl _).alloc (.cells #[.slice none 0 0] 42)).frozenEq (a := ⟨w.heap.size + 1, 2, none⟩) (by simp)).trans (frozen_box_at (w.alloc (.cells #[.slice A n c] 42)) (w.heap.size + 1) (by simp) #[.int .i64 fr, .int .i64 te, .slice An nn cn] 73 2)
  have r0 := (Ext.refl _).cell (cell_box_at ((w.alloc (.cells #[.slice A n c] 42)).alloc (.cells #[.int .i64 fr, .int .i64 te, .slice An nn cn] 73)) (w.heap.size + 1 + 1) (by simp) [.slice none 0 0] 42 0 _ rfl)
  have rf0 := ((Ext.refl _).frozenEq (a := ⟨w.heap.size + 1 + 1, 0, none⟩) (by simp)).trans (frozen_box_at ((w.alloc (.cells #[.slice A n c] 42)).alloc (.cells #[.int .i64 fr, .int .i64 te, .slice An nn cn] 73)) (w.heap.size + 1 + 1) (by simp) #[.slice none 0 0] 42 0)
  have hWs : (((w.alloc (.cells #[.slice A n c] 42)).alloc (.cells #[.int .i64 fr, .int .i64 te, .slice An nn cn] 73)).alloc (.cells #[.slice none 0 0] 42)).heap.size = w.heap.size + 1 + 1 + 1 := by simp
  have EW : Ext w (((w.alloc (.cells #[.slice A n c] 42)).alloc (.cells #[.int .i64 fr, .int .i64 te, .slice An nn cn] 73)).alloc (.cells #[.slice none 0 0] 42)) := ((Ext.refl w).alloc _).alloc _ |>.alloc _
  go_upto_region 1 with fail
  rw [← hW] at a0 af0 b0 b1 b2 bf0 bf1 bf2 r0 rf0 hWs EW ⊢
  clear hW af0 bf0 bf1 bf2
  have HW0 := Lib.hid (fun (u : World) (e : Ext W u) => show u.cell? ⟨w.heap.size, 0, none⟩ = some (.slice A n c) ∧ (u.cell? ⟨w.heap.size + 1, 0, none⟩ = some (.int .i64 fr) ∧ u.cell? ⟨w.heap.size + 1, 1, none⟩ = some (.int .i64 te)) ∧ u.cell? ⟨w.heap.size + 1 + 1, 0, none⟩ = some (.slice none 0 0) ∧ u.frozen? ⟨w.heap.size + 1 + 1, 0, none⟩ = false from ⟨e.cell a0, ⟨e.cell b0, e.cell b1⟩, e.cell r0, (e.frozenEq (a := ⟨w.heap.size + 1 + 1, 0, none⟩) (lt_of_cell r0)).trans rf0⟩)
  go_wp2_with fail
  refine (HTM.out _ (EW.trans ((Ext.refl _).alloc _))).mono ?_
  rintro e w2 ⟨Bt, ct, rfl, ho2, hin2, hb2⟩
  rw [show (W.alloc (.cells #[.slice none 0 0] 42)).heap.size = (w.heap.size + 1 + 1 + 1) + 1 by simp [hWs]] at ho2
  have H13 := Lib.hid (show w2.ownsRow (w.heap.size + 1 + 1 + 1) 42 1 (.slice (some ⟨(w.heap.size + 1 + 1 + 1), 0, none⟩) 1 1) 1 [.slice none 0 0] from by have h := owns_ext (gbox W [.slice none 0 0] 42 1 rfl) hb2; rw [hWs] at h; exact h)
  have HB2 := Lib.hid (Ext.trans ((Ext.refl W).alloc (.cells #[.slice none 0 0] 42)) hb2)
  have HLE : (timesL xs fr te).length ≤ 202 := by have := HTL.out; have := HN.out; omega
  clear HTL a0 b0 b1 b2 r0 rf0
  generalize hts : timesL xs fr te = ts at *
  have HTS := Lib.hid hts
  clear hts
  obtain ⟨gt, rfl, hg1, hg2⟩ : ∃ g, Bt = some ⟨g, 0, none⟩ ∧ (w.heap.size + 1 + 1 + 1) ≤ g ∧ g < w2.heap.size := by
    have hmem : fr ∈ ts := by rw [← HTS.out]; exact timesL_mem.2 (.inr (.inl rfl))
    obtain ⟨g, h1, h2, h3⟩ := own_some ho2 (List.length_pos_of_mem hmem)
    exact ⟨g, h1, by omega, h3⟩
  have HOT := Lib.hid (show w2.ownsRow (w.heap.size + 1 + 1 + 1) 3 1 (.slice (some ⟨gt, 0, none⟩) ts.length ct) ts.length (ts.flatMap encInt) from owns_base ho2 (by omega))
  clear ho2 hb2
  have HTMX := Lib.hid (show ∀ t ∈ ts, timeB t = true from HTM2.out)
  generalize hmm : ts.length = m at *
  have HMM := Lib.hid hmm
  clear hmm
  have HRR := Lib.hid ho
  clear ho
  go_wp2
  have HWS := Lib.hid hWs
  clear hWs
  go_loopw [18] (fun iv wq => ∃ (j : Nat) (acc : List Pt) (Ao : Option Addr) (co : Nat), j ≤ m ∧ acc.length ≤ j ∧ iv = .int .i64 j ∧ Hid (∀ y ∈ acc, y.ok) ∧ Hid (wq.ownsRow (w.heap.size + 1 + 1 + 1) 3 1 (.slice (some ⟨gt, 0, none⟩) m ct) m (ts.flatMap encInt)) ∧ Hid (wq.ownsRow (w.heap.size + 1 + 1 + 1) 107 4 (.slice Ao acc.length co) acc.length (acc.flatMap Pt.enc)) ∧ Hid (wq.ownsRow (w.heap.size + 1 + 1 + 1) 42 1 (.slice (some ⟨(w.heap.size + 1 + 1 + 1), 0, none⟩) 1 1) 1 [.slice Ao acc.length co]) ∧ Ext W wq ∧ Hid (chgGo xs fr te restG (ts.drop j) acc = some o)) (fun iv _ => m - (intOf iv).toNat)
  case atStart => exact ⟨0, [], none, 0, Nat.zero_le _, Nat.zero_le _, rfl, Lib.hid (fun y hy => by simp at hy), HOT, Lib.hid (World.ownsRow_nil _ _ _ _), H13, HB2.out, HRR⟩
  case round =>
    obtain ⟨j, acc, Ao, co, hj, haj, rfl, HOK, HO4, HO5, H14, hbq, HE⟩ := hrel
    by_cases hlt2 : j < m
    · obtain ⟨t, ht⟩ : ∃ t, ts[j]? = some t := ⟨_, List.getElem?_eq_getElem (by have := HMM.out; omega)⟩
      have hc0 : wr.cell? ⟨gt, j, none⟩ = some (.int .i64 t) := by rw [HO4.out.cellAt j (by omega), enc_map, List.getElem?_map, ht]; rfl
      have HTX := Lib.hid ht
      have HTI := Lib.hid (HTMX.out t (List.mem_of_getElem? ht))
      clear ht
      obtain ⟨a0, _, _, _⟩ := HW0.out wr hbq
      have hgs := (HO4.out.lt gt rfl).2
      have hla := lt_of_cell a0
      go_wp2_with fail
      refine (HAT.out _ (EW.trans hbq) t).mono ?_
      rintro e w4 ⟨rfl, hb4⟩
      have HB4 := Lib.hid hb4
      have hz4 := hb4.size
      have hlw : (w.heap.size + 1 + 1 + 1) < w4.heap.size := by have := (H14.out.lt (w.heap.size + 1 + 1 + 1) rfl).2; omega
      clear hc0 a0 hla
      have HVF := Lib.hid (free_vec HP.out t)
      generalize hy : freeAt xs t = y at *
      have HY := Lib.hid hy
      clear hy
      obtain ⟨_, ⟨b0, b1⟩, _, _⟩ := HW0.out w4 (hbq.trans hb4)
      have hlb := lt_of_cell b0
      have HGB := Lib.hid (gbox w4 [.int .i64 y.A, .int .i64 y.B, .int .i64 y.C] 59 3 rfl)
      have h12 : (fr ≤ t ∧ t < te) ∨ (¬ fr ≤ t) ∨ (fr ≤ t ∧ ¬ t < te) := by omega
      have HSS := Lib.hid (show ∃ s : Vec, atV xs fr te restG t = some s ∧ vecB s = true ∧ ((fr ≤ t ∧ t < te) → s = ⟨0, 0, 0⟩) ∧ (¬ (fr ≤ t ∧ t < te) → s = y) from by
        by_cases hin : fr ≤ t ∧ t < te
        · exact ⟨⟨0, 0, 0⟩, by unfold atV; rw [if_pos hin]; rfl, by decide, fun _ => rfl, fun h => absurd hin h⟩
        · exact ⟨y, by unfold atV; rw [if_neg hin, HY.out], HVF.out, fun h => absurd h hin, fun _ => rfl⟩)
      clear HVF
      obtain ⟨s, hs0, hs1, hs2, hs3⟩ := HSS.out
      have HV0 := Lib.hid hs0
      have HVY := Lib.hid hs1
      clear hs0 hs1 HSS
      have HP4 := Lib.hid (owns_ext HO5.out hb4)
      have HT4 := Lib.hid (owns_ext HO4.out hb4)
      have HK4 := Lib.hid (owns_ext H14.out hb4)
      have E4 := hbq.trans hb4
      clear H14 HO4 HO5 hb4
      obtain ⟨m0, mf0, ml0⟩ := gcells1 HK4.out
      rcases h12 with ⟨h1, h2⟩ | h1 | ⟨h1, h2⟩
      · have hsz := hs2 ⟨h1, h2⟩
        subst hsz
        clear hs2 hs3
        go_upto_region 9 with fail
        have HVB := Lib.hid (show (w4.alloc (.cells #[.int .i64 0, .int .i64 0, .int .i64 0] 59)).ownsRow w4.heap.size 59 3 (.slice (some ⟨w4.heap.size, 0, none⟩) 1 1) 1 [.int .i64 (⟨0, 0, 0⟩ : Vec).A, .int .i64 (⟨0, 0, 0⟩ : Vec).B, .int .i64 (⟨0, 0, 0⟩ : Vec).C] from gbox w4 [.int .i64 0, .int .i64 0, .int .i64 0] 59 3 rfl)
        have HEV := Lib.hid ((Ext.refl w4).alloc (.cells #[.int .i64 0, .int .i64 0, .int .i64 0] 59))
        generalize (w4.alloc (.cells #[.int .i64 0, .int .i64 0, .int .i64 0] 59)) = wv at *
        clear HGB h1 h2
        generalize (⟨0, 0, 0⟩ : Vec) = s at *
        have E5 := E4.trans HEV.out
        have HP5 := Lib.hid (owns_ext HP4.out HEV.out)
        have HT5 := Lib.hid (owns_ext HT4.out HEV.out)
        have HK5 := Lib.hid (owns_ext HK4.out HEV.out)
        have v0 : wv.cell? ⟨w4.heap.size, 0, none⟩ = some (.int .i64 s.A) := by rw [HVB.out.cellAt 0 (by omega)]; rfl
        have v1 : wv.cell? ⟨w4.heap.size, 1, none⟩ = some (.int .i64 s.B) := by rw [HVB.out.cellAt 1 (by omega)]; rfl
        have v2 : wv.cell? ⟨w4.heap.size, 2, none⟩ = some (.int .i64 s.C) := by rw [HVB.out.cellAt 2 (by omega)]; rfl
        have vl : w4.heap.size < wv.heap.size := lt_of_cell v0
        clear b0 b1 m0 mf0 ml0 HP4 HT4 HK4 HVB
        obtain ⟨m0, mf0, ml0⟩ := gcells1 HK5.out
        have hne1 : w.heap.size + 1 + 1 + 1 ≠ w4.heap.size := by omega
        have HPO := Lib.hid (show Pt.ok ⟨t, s⟩ from pt_ok HTI.out HVY.out)
        generalize hal : acc.length = q at *
        have HAL := Lib.hid hal
        clear hal
        rcases q with _ | q
        · go_quiet (fail)
          have HPN := Lib.hid (put_first HAL.out (t := t) (y := s))
          go_wp2_with (at_builtin; go_must (refine wpList_append_r (enc := Pt.enc) (ok := Pt.ok) (.tmp 53) (.tmp 57) _ (w.heap.size + 1 + 1 + 1) 107 i1 _ 4 32 (.slice Ao 0 co) (0) _ (some ⟨wv.heap.size, 0, none⟩) 1 1 [⟨t, s⟩] rfl rfl Tryz.underlying40 hi1 hJ0 hJ1 hJ2 rfl (by omega) rfl (owns_ext HP5.out (by repeat (first | exact Ext.refl _ | assumption | apply Ext.alloc | apply Ext.drewN | apply Ext.drew | (refine Ext.setCell ?_ (by first | (simp; done) | (simp; omega) | omega) _) | (refine Ext.trans ?_ (by assumption))))) rfl (by exact sl_one_at (enc := Pt.enc) _ _ (by simp) (⟨t, s⟩ : Pt) 107 rfl HPO.out) Pt.size pt_one (by unfold maxLen; omega) (by omega) (by simp; omega) ?_); intro A6 c6 w6 hr6; have HR6 := Lib.hid hr6; have H6 := Lib.hid (hr6.other (owns_ext HK5.out (by repeat (first | exact Ext.refl _ | assumption | apply Ext.alloc | apply Ext.drewN | apply Ext.drew | (refine Ext.setCell ?_ (by first | (simp; done) | (simp; omega) | omega) _) | (refine Ext.trans ?_ (by assumption))))) (g_apart HK5.out HP5.out (by decide))); have HT6 := Lib.hid (hr6.other (owns_ext HT5.out (by repeat (first | exact Ext.refl _ | assumption | apply Ext.alloc | apply Ext.drewN | apply Ext.drew | (refine Ext.setCell ?_ (by first | (simp; done) | (simp; omega) | omega) _) | (refine Ext.trans ?_ (by assumption))))) (g_apart HT5.out HP5.out (by decide))); have HX6 := Lib.hid (ext_turned (Ext.trans E5 (by repeat (first | exact Ext.refl _ | assumption | apply Ext.alloc | apply Ext.drewN | apply Ext.drew | (refine Ext.setCell ?_ (by first | (simp; done) | (simp; omega) | omega) _) | (refine Ext.trans ?_ (by assumption))))) (hr6.turned (lo := (w.heap.size + 1 + 1 + 1)) (fun q hq => (HP5.out.lt q hq).1)) (by rw [HWS.out]; exact Nat.le_refl _)); have m6 := (gcells1 H6.out).1; have mf6 := (gcells1 H6.out).2.1; have ml6 := (gcells1 H6.out).2.2; clear hr6)
          go_wp2
          go_roundw
          case rel => exact ⟨j + 1, acc ++ [⟨t, s⟩], A6, c6, by omega, by rw [List.length_append, HAL.out, List.length_singleton]; omega, by go_num, Lib.hid (fun z hz => by rcases List.mem_append.1 hz with hz | hz; exact HOK.out z hz; rw [List.mem_singleton.1 hz]; exact HPO.out), Lib.hid (g_far HT6.out (fun e => g_apart H6.out HT6.out (by decide) _ rfl e)), Lib.hid (by rw [List.length_append, HAL.out, List.flatMap_append]; have h := g_far HR6.out.row (p := 0) (u := .slice A6 (0 + 1) c6) (fun e => g_apart H6.out HR6.out.row (by decide) _ rfl e); simpa using h), Lib.hid (by rw [List.length_append, HAL.out]; exact (H6.out.stored 0 (.slice A6 (0 + 1) c6)).1), HX6.out.setCell (by rw [HWS.out]; exact Nat.le_refl _) _, Lib.hid (by have hh := HE.out; rw [drop_cons HTX.out, chg_some HV0.out, HPN.out] at hh; exact hh)⟩
          case measure => simp [intOf]; omega
        · obtain ⟨z, hz⟩ : ∃ z, acc[q]? = some z := ⟨_, List.getElem?_eq_getElem (by have := HAL.out; omega)⟩
          obtain ⟨bo, rfl, hbo1, hbo2⟩ := own_some HP5.out (by omega)
          have p1 : wv.cell? ⟨bo, q * 4 + 1, none⟩ = some (.int .i64 z.Free.A) := by rw [HP5.out.cellAt (q * 4 + 1) (by omega)]; exact (flatMap_get (enc := Pt.enc) (j := 1) Pt.size (by omega) hz).trans rfl
          have p2 : wv.cell? ⟨bo, q * 4 + 2, none⟩ = some (.int .i64 z.Free.B) := by rw [HP5.out.cellAt (q * 4 + 2) (by omega)]; exact (flatMap_get (enc := Pt.enc) (j := 2) Pt.size (by omega) hz).trans rfl
          have p3 : wv.cell? ⟨bo, q * 4 + 3, none⟩ = some (.int .i64 z.Free.C) := by rw [HP5.out.cellAt (q * 4 + 3) (by omega)]; exact (flatMap_get (enc := Pt.enc) (j := 3) Pt.size (by omega) hz).trans rfl
          have HZQ := Lib.hid hz
          clear hz
          have hg1 : ((q : Int) + 1 == 0) = false := by rw [beq_eq_false_iff_ne]; omega
          have hg0 : decide ((q : Int) + 1 = 0) = false := by rw [decide_eq_false_iff_not]; omega
          have hg2 : IntKind.i64.wrap ((q : Int) + 1 - 1) = (q : Int) := by rw [show (q : Int) + 1 - 1 = q by omega]; exact IntWalk.i64_in _ ⟨by omega, by omega⟩
          rcases hd : decide (z.Free = s) with _ | _
          · have he := vec_beq hd
            have HD := Lib.hid hd
            clear hd
            go_quiet (fail)
            have HPN := Lib.hid (put_new HAL.out HZQ.out HD.out (t := t))
            go_wp2_with (at_builtin; go_must (refine wpList_append_r (enc := Pt.enc) (ok := Pt.ok) (.tmp 53) (.tmp 57) _ (w.heap.size + 1 + 1 + 1) 107 i1 _ 4 32 (.slice (some ⟨bo, 0, none⟩) (q + 1) co) ((q + 1)) _ (some ⟨wv.heap.size, 0, none⟩) 1 1 [⟨t, s⟩] rfl rfl Tryz.underlying40 hi1 hJ0 hJ1 hJ2 rfl (by omega) rfl (owns_ext HP5.out (by repeat (first | exact Ext.refl _ | assumption | apply Ext.alloc | apply Ext.drewN | apply Ext.drew | (refine Ext.setCell ?_ (by first | (simp; done) | (simp; omega) | omega) _) | (refine Ext.trans ?_ (by assumption))))) rfl (by exact sl_one_at (enc := Pt.enc) _ _ (by simp) (⟨t, s⟩ : Pt) 107 rfl HPO.out) Pt.size pt_one (by unfold maxLen; omega) (by omega) (by simp; omega) ?_); intro A6 c6 w6 hr6; have HR6 := Lib.hid hr6; have H6 := Lib.hid (hr6.other (owns_ext HK5.out (by repeat (first | exact Ext.refl _ | assumption | apply Ext.alloc | apply Ext.drewN | apply Ext.drew | (refine Ext.setCell ?_ (by first | (simp; done) | (simp; omega) | omega) _) | (refine Ext.trans ?_ (by assumption))))) (g_apart HK5.out HP5.out (by decide))); have HT6 := Lib.hid (hr6.other (owns_ext HT5.out (by repeat (first | exact Ext.refl _ | assumption | apply Ext.alloc | apply Ext.drewN | apply Ext.drew | (refine Ext.setCell ?_ (by first | (simp; done) | (simp; omega) | omega) _) | (refine Ext.trans ?_ (by assumption))))) (g_apart HT5.out HP5.out (by decide))); have HX6 := Lib.hid (ext_turned (Ext.trans E5 (by repeat (first | exact Ext.refl _ | assumption | apply Ext.alloc | apply Ext.drewN | apply Ext.drew | (refine Ext.setCell ?_ (by first | (simp; done) | (simp; omega) | omega) _) | (refine Ext.trans ?_ (by assumption))))) (hr6.turned (lo := (w.heap.size + 1 + 1 + 1)) (fun q hq => (HP5.out.lt q hq).1)) (by rw [HWS.out]; exact Nat.le_refl _)); have m6 := (gcells1 H6.out).1; have mf6 := (gcells1 H6.out).2.1; have ml6 := (gcells1 H6.out).2.2; clear hr6)
            go_wp2
            go_roundw
            case rel => exact ⟨j + 1, acc ++ [⟨t, s⟩], A6, c6, by omega, by rw [List.length_append, HAL.out, List.length_singleton]; omega, by go_num, Lib.hid (fun z hz => by rcases List.mem_append.1 hz with hz | hz; exact HOK.out z hz; rw [List.mem_singleton.1 hz]; exact HPO.out), Lib.hid (g_far HT6.out (fun e => g_apart H6.out HT6.out (by decide) _ rfl e)), Lib.hid (by rw [List.length_append, HAL.out, List.flatMap_append]; have h := g_far HR6.out.row (p := 0) (u := .slice A6 ((q + 1) + 1) c6) (fun e => g_apart H6.out HR6.out.row (by decide) _ rfl e); simpa using h), Lib.hid (by rw [List.length_append, HAL.out]; exact (H6.out.stored 0 (.slice A6 ((q + 1) + 1) c6)).1), HX6.out.setCell (by rw [HWS.out]; exact Nat.le_refl _) _, Lib.hid (by have hh := HE.out; rw [drop_cons HTX.out, chg_some HV0.out, HPN.out] at hh; exact hh)⟩
            case measure => simp [intOf]; omega
          · have he := vec_beq hd
            have HD := Lib.hid hd
            clear hd
            go_quiet (fail)
            go_wp2
            go_roundw
            case rel => exact ⟨j + 1, acc, some ⟨bo, 0, none⟩, co, by omega, by have := HAL.out; omega, by go_num, HOK, Lib.hid (owns_ext HT5.out (by repeat (first | exact Ext.refl _ | assumption | apply Ext.alloc | apply Ext.drewN | apply Ext.drew | (refine Ext.setCell ?_ (by first | (simp; done) | (simp; omega) | omega) _) | (refine Ext.trans ?_ (by assumption))))), Lib.hid (by rw [HAL.out]; exact owns_ext HP5.out (by repeat (first | exact Ext.refl _ | assumption | apply Ext.alloc | apply Ext.drewN | apply Ext.drew | (refine Ext.setCell ?_ (by first | (simp; done) | (simp; omega) | omega) _) | (refine Ext.trans ?_ (by assumption))))), Lib.hid (by rw [HAL.out]; exact owns_ext HK5.out (by repeat (first | exact Ext.refl _ | assumption | apply Ext.alloc | apply Ext.drewN | apply Ext.drew | (refine Ext.setCell ?_ (by first | (simp; done) | (simp; omega) | omega) _) | (refine Ext.trans ?_ (by assumption))))), Ext.trans E5 (by repeat (first | exact Ext.refl _ | assumption | apply Ext.alloc | apply Ext.drewN | apply Ext.drew | (refine Ext.setCell ?_ (by first | (simp; done) | (simp; omega) | omega) _) | (refine Ext.trans ?_ (by assumption)))), Lib.hid (by have hh := HE.out; rw [drop_cons HTX.out, chg_some HV0.out, put_same HAL.out HZQ.out HD.out] at hh; exact hh)⟩
            case measure => simp [intOf]; omega
      · have hsz := hs3 (fun hh => h1 hh.1)
        subst hsz
        clear hs2 hs3
        go_upto_region 9 with fail
        have HVB := HGB
        have HEV := Lib.hid ((Ext.refl w4).alloc (.cells #[.int .i64 s.A, .int .i64 s.B, .int .i64 s.C] 59))
        generalize (w4.alloc (.cells #[.int .i64 s.A, .int .i64 s.B, .int .i64 s.C] 59)) = wv at *
        clear HGB h1
        have E5 := E4.trans HEV.out
        have HP5 := Lib.hid (owns_ext HP4.out HEV.out)
        have HT5 := Lib.hid (owns_ext HT4.out HEV.out)
        have HK5 := Lib.hid (owns_ext HK4.out HEV.out)
        have v0 : wv.cell? ⟨w4.heap.size, 0, none⟩ = some (.int .i64 s.A) := by rw [HVB.out.cellAt 0 (by omega)]; rfl
        have v1 : wv.cell? ⟨w4.heap.size, 1, none⟩ = some (.int .i64 s.B) := by rw [HVB.out.cellAt 1 (by omega)]; rfl
        have v2 : wv.cell? ⟨w4.heap.size, 2, none⟩ = some (.int .i64 s.C) := by rw [HVB.out.cellAt 2 (by omega)]; rfl
        have vl : w4.heap.size < wv.heap.size := lt_of_cell v0
        clear b0 b1 m0 mf0 ml0 HP4 HT4 HK4 HVB
        obtain ⟨m0, mf0, ml0⟩ := gcells1 HK5.out
        have hne1 : w.heap.size + 1 + 1 + 1 ≠ w4.heap.size := by omega
        have HPO := Lib.hid (show Pt.ok ⟨t, s⟩ from pt_ok HTI.out HVY.out)
        generalize hal : acc.length = q at *
        have HAL := Lib.hid hal
        clear hal
        rcases q with _ | q
        · go_quiet (fail)
          have HPN := Lib.hid (put_first HAL.out (t := t) (y := s))
          go_wp2_with (at_builtin; go_must (refine wpList_append_r (enc := Pt.enc) (ok := Pt.ok) (.tmp 53) (.tmp 57) _ (w.heap.size + 1 + 1 + 1) 107 i1 _ 4 32 (.slice Ao 0 co) (0) _ (some ⟨wv.heap.size, 0, none⟩) 1 1 [⟨t, s⟩] rfl rfl Tryz.underlying40 hi1 hJ0 hJ1 hJ2 rfl (by omega) rfl (owns_ext HP5.out (by repeat (first | exact Ext.refl _ | assumption | apply Ext.alloc | apply Ext.drewN | apply Ext.drew | (refine Ext.setCell ?_ (by first | (simp; done) | (simp; omega) | omega) _) | (refine Ext.trans ?_ (by assumption))))) rfl (by exact sl_one_at (enc := Pt.enc) _ _ (by simp) (⟨t, s⟩ : Pt) 107 rfl HPO.out) Pt.size pt_one (by unfold maxLen; omega) (by omega) (by simp; omega) ?_); intro A6 c6 w6 hr6; have HR6 := Lib.hid hr6; have H6 := Lib.hid (hr6.other (owns_ext HK5.out (by repeat (first | exact Ext.refl _ | assumption | apply Ext.alloc | apply Ext.drewN | apply Ext.drew | (refine Ext.setCell ?_ (by first | (simp; done) | (simp; omega) | omega) _) | (refine Ext.trans ?_ (by assumption))))) (g_apart HK5.out HP5.out (by decide))); have HT6 := Lib.hid (hr6.other (owns_ext HT5.out (by repeat (first | exact Ext.refl _ | assumption | apply Ext.alloc | apply Ext.drewN | apply Ext.drew | (refine Ext.setCell ?_ (by first | (simp; done) | (simp; omega) | omega) _) | (refine Ext.trans ?_ (by assumption))))) (g_apart HT5.out HP5.out (by decide))); have HX6 := Lib.hid (ext_turned (Ext.trans E5 (by repeat (first | exact Ext.refl _ | assumption | apply Ext.alloc | apply Ext.drewN | apply Ext.drew | (refine Ext.setCell ?_ (by first | (simp; done) | (simp; omega) | omega) _) | (refine Ext.trans ?_ (by assumption))))) (hr6.turned (lo := (w.heap.size + 1 + 1 + 1)) (fun q hq => (HP5.out.lt q hq).1)) (by rw [HWS.out]; exact Nat.le_refl _)); have m6 := (gcells1 H6.out).1; have mf6 := (gcells1 H6.out).2.1; have ml6 := (gcells1 H6.out).2.2; clear hr6)
          go_wp2
          go_roundw
          case rel => exact ⟨j + 1, acc ++ [⟨t, s⟩], A6, c6, by omega, by rw [List.length_append, HAL.out, List.length_singleton]; omega, by go_num, Lib.hid (fun z hz => by rcases List.mem_append.1 hz with hz | hz; exact HOK.out z hz; rw [List.mem_singleton.1 hz]; exact HPO.out), Lib.hid (g_far HT6.out (fun e => g_apart H6.out HT6.out (by decide) _ rfl e)), Lib.hid (by rw [List.length_append, HAL.out, List.flatMap_append]; have h := g_far HR6.out.row (p := 0) (u := .slice A6 (0 + 1) c6) (fun e => g_apart H6.out HR6.out.row (by decide) _ rfl e); simpa using h), Lib.hid (by rw [List.length_append, HAL.out]; exact (H6.out.stored 0 (.slice A6 (0 + 1) c6)).1), HX6.out.setCell (by rw [HWS.out]; exact Nat.le_refl _) _, Lib.hid (by have hh := HE.out; rw [drop_cons HTX.out, chg_some HV0.out, HPN.out] at hh; exact hh)⟩
          case measure => simp [intOf]; omega
        · obtain ⟨z, hz⟩ : ∃ z, acc[q]? = some z := ⟨_, List.getElem?_eq_getElem (by have := HAL.out; omega)⟩
          obtain ⟨bo, rfl, hbo1, hbo2⟩ := own_some HP5.out (by omega)
          have p1 : wv.cell? ⟨bo, q * 4 + 1, none⟩ = some (.int .i64 z.Free.A) := by rw [HP5.out.cellAt (q * 4 + 1) (by omega)]; exact (flatMap_get (enc := Pt.enc) (j := 1) Pt.size (by omega) hz).trans rfl
          have p2 : wv.cell? ⟨bo, q * 4 + 2, none⟩ = some (.int .i64 z.Free.B) := by rw [HP5.out.cellAt (q * 4 + 2) (by omega)]; exact (flatMap_get (enc := Pt.enc) (j := 2) Pt.size (by omega) hz).trans rfl
          have p3 : wv.cell? ⟨bo, q * 4 + 3, none⟩ = some (.int .i64 z.Free.C) := by rw [HP5.out.cellAt (q * 4 + 3) (by omega)]; exact (flatMap_get (enc := Pt.enc) (j := 3) Pt.size (by omega) hz).trans rfl
          have HZQ := Lib.hid hz
          clear hz
          have hg1 : ((q : Int) + 1 == 0) = false := by rw [beq_eq_false_iff_ne]; omega
          have hg0 : decide ((q : Int) + 1 = 0) = false := by rw [decide_eq_false_iff_not]; omega
          have hg2 : IntKind.i64.wrap ((q : Int) + 1 - 1) = (q : Int) := by rw [show (q : Int) + 1 - 1 = q by omega]; exact IntWalk.i64_in _ ⟨by omega, by omega⟩
          rcases hd : decide (z.Free = s) with _ | _
          · have he := vec_beq hd
            have HD := Lib.hid hd
            clear hd
            go_quiet (fail)
            have HPN := Lib.hid (put_new HAL.out HZQ.out HD.out (t := t))
            go_wp2_with (at_builtin; go_must (refine wpList_append_r (enc := Pt.enc) (ok := Pt.ok) (.tmp 53) (.tmp 57) _ (w.heap.size + 1 + 1 + 1) 107 i1 _ 4 32 (.slice (some ⟨bo, 0, none⟩) (q + 1) co) ((q + 1)) _ (some ⟨wv.heap.size, 0, none⟩) 1 1 [⟨t, s⟩] rfl rfl Tryz.underlying40 hi1 hJ0 hJ1 hJ2 rfl (by omega) rfl (owns_ext HP5.out (by repeat (first | exact Ext.refl _ | assumption | apply Ext.alloc | apply Ext.drewN | apply Ext.drew | (refine Ext.setCell ?_ (by first | (simp; done) | (simp; omega) | omega) _) | (refine Ext.trans ?_ (by assumption))))) rfl (by exact sl_one_at (enc := Pt.enc) _ _ (by simp) (⟨t, s⟩ : Pt) 107 rfl HPO.out) Pt.size pt_one (by unfold maxLen; omega) (by omega) (by simp; omega) ?_); intro A6 c6 w6 hr6; have HR6 := Lib.hid hr6; have H6 := Lib.hid (hr6.other (owns_ext HK5.out (by repeat (first | exact Ext.refl _ | assumption | apply Ext.alloc | apply Ext.drewN | apply Ext.drew | (refine Ext.setCell ?_ (by first | (simp; done) | (simp; omega) | omega) _) | (refine Ext.trans ?_ (by assumption))))) (g_apart HK5.out HP5.out (by decide))); have HT6 := Lib.hid (hr6.other (owns_ext HT5.out (by repeat (first | exact Ext.refl _ | assumption | apply Ext.alloc | apply Ext.drewN | apply Ext.drew | (refine Ext.setCell ?_ (by first | (simp; done) | (simp; omega) | omega) _) | (refine Ext.trans ?_ (by assumption))))) (g_apart HT5.out HP5.out (by decide))); have HX6 := Lib.hid (ext_turned (Ext.trans E5 (by repeat (first | exact Ext.refl _ | assumption | apply Ext.alloc | apply Ext.drewN | apply Ext.drew | (refine Ext.setCell ?_ (by first | (simp; done) | (simp; omega) | omega) _) | (refine Ext.trans ?_ (by assumption))))) (hr6.turned (lo := (w.heap.size + 1 + 1 + 1)) (fun q hq => (HP5.out.lt q hq).1)) (by rw [HWS.out]; exact Nat.le_refl _)); have m6 := (gcells1 H6.out).1; have mf6 := (gcells1 H6.out).2.1; have ml6 := (gcells1 H6.out).2.2; clear hr6)
            go_wp2
            go_roundw
            case rel => exact ⟨j + 1, acc ++ [⟨t, s⟩], A6, c6, by omega, by rw [List.length_append, HAL.out, List.length_singleton]; omega, by go_num, Lib.hid (fun z hz => by rcases List.mem_append.1 hz with hz | hz; exact HOK.out z hz; rw [List.mem_singleton.1 hz]; exact HPO.out), Lib.hid (g_far HT6.out (fun e => g_apart H6.out HT6.out (by decide) _ rfl e)), Lib.hid (by rw [List.length_append, HAL.out, List.flatMap_append]; have h := g_far HR6.out.row (p := 0) (u := .slice A6 ((q + 1) + 1) c6) (fun e => g_apart H6.out HR6.out.row (by decide) _ rfl e); simpa using h), Lib.hid (by rw [List.length_append, HAL.out]; exact (H6.out.stored 0 (.slice A6 ((q + 1) + 1) c6)).1), HX6.out.setCell (by rw [HWS.out]; exact Nat.le_refl _) _, Lib.hid (by have hh := HE.out; rw [drop_cons HTX.out, chg_some HV0.out, HPN.out] at hh; exact hh)⟩
            case measure => simp [intOf]; omega
          · have he := vec_beq hd
            have HD := Lib.hid hd
            clear hd
            go_quiet (fail)
            go_wp2
            go_roundw
            case rel => exact ⟨j + 1, acc, some ⟨bo, 0, none⟩, co, by omega, by have := HAL.out; omega, by go_num, HOK, Lib.hid (owns_ext HT5.out (by repeat (first | exact Ext.refl _ | assumption | apply Ext.alloc | apply Ext.drewN | apply Ext.drew | (refine Ext.setCell ?_ (by first | (simp; done) | (simp; omega) | omega) _) | (refine Ext.trans ?_ (by assumption))))), Lib.hid (by rw [HAL.out]; exact owns_ext HP5.out (by repeat (first | exact Ext.refl _ | assumption | apply Ext.alloc | apply Ext.drewN | apply Ext.drew | (refine Ext.setCell ?_ (by first | (simp; done) | (simp; omega) | omega) _) | (refine Ext.trans ?_ (by assumption))))), Lib.hid (by rw [HAL.out]; exact owns_ext HK5.out (by repeat (first | exact Ext.refl _ | assumption | apply Ext.alloc | apply Ext.drewN | apply Ext.drew | (refine Ext.setCell ?_ (by first | (simp; done) | (simp; omega) | omega) _) | (refine Ext.trans ?_ (by assumption))))), Ext.trans E5 (by repeat (first | exact Ext.refl _ | assumption | apply Ext.alloc | apply Ext.drewN | apply Ext.drew | (refine Ext.setCell ?_ (by first | (simp; done) | (simp; omega) | omega) _) | (refine Ext.trans ?_ (by assumption)))), Lib.hid (by have hh := HE.out; rw [drop_cons HTX.out, chg_some HV0.out, put_same HAL.out HZQ.out HD.out] at hh; exact hh)⟩
            case measure => simp [intOf]; omega
      · have hsz := hs3 (fun hh => h2 hh.2)
        subst hsz
        clear hs2 hs3
        go_upto_region 9 with fail
        have HVB := HGB
        have HEV := Lib.hid ((Ext.refl w4).alloc (.cells #[.int .i64 s.A, .int .i64 s.B, .int .i64 s.C] 59))
        generalize (w4.alloc (.cells #[.int .i64 s.A, .int .i64 s.B, .int .i64 s.C] 59)) = wv at *
        clear HGB h1
        have E5 := E4.trans HEV.out
        have HP5 := Lib.hid (owns_ext HP4.out HEV.out)
        have HT5 := Lib.hid (owns_ext HT4.out HEV.out)
        have HK5 := Lib.hid (owns_ext HK4.out HEV.out)
        have v0 : wv.cell? ⟨w4.heap.size, 0, none⟩ = some (.int .i64 s.A) := by rw [HVB.out.cellAt 0 (by omega)]; rfl
        have v1 : wv.cell? ⟨w4.heap.size, 1, none⟩ = some (.int .i64 s.B) := by rw [HVB.out.cellAt 1 (by omega)]; rfl
        have v2 : wv.cell? ⟨w4.heap.size, 2, none⟩ = some (.int .i64 s.C) := by rw [HVB.out.cellAt 2 (by omega)]; rfl
        have vl : w4.heap.size < wv.heap.size := lt_of_cell v0
        clear b0 b1 m0 mf0 ml0 HP4 HT4 HK4 HVB
        obtain ⟨m0, mf0, ml0⟩ := gcells1 HK5.out
        have hne1 : w.heap.size + 1 + 1 + 1 ≠ w4.heap.size := by omega
        have HPO := Lib.hid (show Pt.ok ⟨t, s⟩ from pt_ok HTI.out HVY.out)
        generalize hal : acc.length = q at *
        have HAL := Lib.hid hal
        clear hal
        rcases q with _ | q
        · go_quiet (fail)
          have HPN := Lib.hid (put_first HAL.out (t := t) (y := s))
          go_wp2_with (at_builtin; go_must (refine wpList_append_r (enc := Pt.enc) (ok := Pt.ok) (.tmp 53) (.tmp 57) _ (w.heap.size + 1 + 1 + 1) 107 i1 _ 4 32 (.slice Ao 0 co) (0) _ (some ⟨wv.heap.size, 0, none⟩) 1 1 [⟨t, s⟩] rfl rfl Tryz.underlying40 hi1 hJ0 hJ1 hJ2 rfl (by omega) rfl (owns_ext HP5.out (by repeat (first | exact Ext.refl _ | assumption | apply Ext.alloc | apply Ext.drewN | apply Ext.drew | (refine Ext.setCell ?_ (by first | (simp; done) | (simp; omega) | omega) _) | (refine Ext.trans ?_ (by assumption))))) rfl (by exact sl_one_at (enc := Pt.enc) _ _ (by simp) (⟨t, s⟩ : Pt) 107 rfl HPO.out) Pt.size pt_one (by unfold maxLen; omega) (by omega) (by simp; omega) ?_); intro A6 c6 w6 hr6; have HR6 := Lib.hid hr6; have H6 := Lib.hid (hr6.other (owns_ext HK5.out (by repeat (first | exact Ext.refl _ | assumption | apply Ext.alloc | apply Ext.drewN | apply Ext.drew | (refine Ext.setCell ?_ (by first | (simp; done) | (simp; omega) | omega) _) | (refine Ext.trans ?_ (by assumption))))) (g_apart HK5.out HP5.out (by decide))); have HT6 := Lib.hid (hr6.other (owns_ext HT5.out (by repeat (first | exact Ext.refl _ | assumption | apply Ext.alloc | apply Ext.drewN | apply Ext.drew | (refine Ext.setCell ?_ (by first | (simp; done) | (simp; omega) | omega) _) | (refine Ext.trans ?_ (by assumption))))) (g_apart HT5.out HP5.out (by decide))); have HX6 := Lib.hid (ext_turned (Ext.trans E5 (by repeat (first | exact Ext.refl _ | assumption | apply Ext.alloc | apply Ext.drewN | apply Ext.drew | (refine Ext.setCell ?_ (by first | (simp; done) | (simp; omega) | omega) _) | (refine Ext.trans ?_ (by assumption))))) (hr6.turned (lo := (w.heap.size + 1 + 1 + 1)) (fun q hq => (HP5.out.lt q hq).1)) (by rw [HWS.out]; exact Nat.le_refl _)); have m6 := (gcells1 H6.out).1; have mf6 := (gcells1 H6.out).2.1; have ml6 := (gcells1 H6.out).2.2; clear hr6)
          go_wp2
          go_roundw
          case rel => exact ⟨j + 1, acc ++ [⟨t, s⟩], A6, c6, by omega, by rw [List.length_append, HAL.out, List.length_singleton]; omega, by go_num, Lib.hid (fun z hz => by rcases List.mem_append.1 hz with hz | hz; exact HOK.out z hz; rw [List.mem_singleton.1 hz]; exact HPO.out), Lib.hid (g_far HT6.out (fun e => g_apart H6.out HT6.out (by decide) _ rfl e)), Lib.hid (by rw [List.length_append, HAL.out, List.flatMap_append]; have h := g_far HR6.out.row (p := 0) (u := .slice A6 (0 + 1) c6) (fun e => g_apart H6.out HR6.out.row (by decide) _ rfl e); simpa using h), Lib.hid (by rw [List.length_append, HAL.out]; exact (H6.out.stored 0 (.slice A6 (0 + 1) c6)).1), HX6.out.setCell (by rw [HWS.out]; exact Nat.le_refl _) _, Lib.hid (by have hh := HE.out; rw [drop_cons HTX.out, chg_some HV0.out, HPN.out] at hh; exact hh)⟩
          case measure => simp [intOf]; omega
        · obtain ⟨z, hz⟩ : ∃ z, acc[q]? = some z := ⟨_, List.getElem?_eq_getElem (by have := HAL.out; omega)⟩
          obtain ⟨bo, rfl, hbo1, hbo2⟩ := own_some HP5.out (by omega)
          have p1 : wv.cell? ⟨bo, q * 4 + 1, none⟩ = some (.int .i64 z.Free.A) := by rw [HP5.out.cellAt (q * 4 + 1) (by omega)]; exact (flatMap_get (enc := Pt.enc) (j := 1) Pt.size (by omega) hz).trans rfl
          have p2 : wv.cell? ⟨bo, q * 4 + 2, none⟩ = some (.int .i64 z.Free.B) := by rw [HP5.out.cellAt (q * 4 + 2) (by omega)]; exact (flatMap_get (enc := Pt.enc) (j := 2) Pt.size (by omega) hz).trans rfl
          have p3 : wv.cell? ⟨bo, q * 4 + 3, none⟩ = some (.int .i64 z.Free.C) := by rw [HP5.out.cellAt (q * 4 + 3) (by omega)]; exact (flatMap_get (enc := Pt.enc) (j := 3) Pt.size (by omega) hz).trans rfl
          have HZQ := Lib.hid hz
          clear hz
          have hg1 : ((q : Int) + 1 == 0) = false := by rw [beq_eq_false_iff_ne]; omega
          have hg0 : decide ((q : Int) + 1 = 0) = false := by rw [decide_eq_false_iff_not]; omega
          have hg2 : IntKind.i64.wrap ((q : Int) + 1 - 1) = (q : Int) := by rw [show (q : Int) + 1 - 1 = q by omega]; exact IntWalk.i64_in _ ⟨by omega, by omega⟩
          rcases hd : decide (z.Free = s) with _ | _
          · have he := vec_beq hd
            have HD := Lib.hid hd
            clear hd
            go_quiet (fail)
            have HPN := Lib.hid (put_new HAL.out HZQ.out HD.out (t := t))
            go_wp2_with (at_builtin; go_must (refine wpList_append_r (enc := Pt.enc) (ok := Pt.ok) (.tmp 53) (.tmp 57) _ (w.heap.size + 1 + 1 + 1) 107 i1 _ 4 32 (.slice (some ⟨bo, 0, none⟩) (q + 1) co) ((q + 1)) _ (some ⟨wv.heap.size, 0, none⟩) 1 1 [⟨t, s⟩] rfl rfl Tryz.underlying40 hi1 hJ0 hJ1 hJ2 rfl (by omega) rfl (owns_ext HP5.out (by repeat (first | exact Ext.refl _ | assumption | apply Ext.alloc | apply Ext.drewN | apply Ext.drew | (refine Ext.setCell ?_ (by first | (simp; done) | (simp; omega) | omega) _) | (refine Ext.trans ?_ (by assumption))))) rfl (by exact sl_one_at (enc := Pt.enc) _ _ (by simp) (⟨t, s⟩ : Pt) 107 rfl HPO.out) Pt.size pt_one (by unfold maxLen; omega) (by omega) (by simp; omega) ?_); intro A6 c6 w6 hr6; have HR6 := Lib.hid hr6; have H6 := Lib.hid (hr6.other (owns_ext HK5.out (by repeat (first | exact Ext.refl _ | assumption | apply Ext.alloc | apply Ext.drewN | apply Ext.drew | (refine Ext.setCell ?_ (by first | (simp; done) | (simp; omega) | omega) _) | (refine Ext.trans ?_ (by assumption))))) (g_apart HK5.out HP5.out (by decide))); have HT6 := Lib.hid (hr6.other (owns_ext HT5.out (by repeat (first | exact Ext.refl _ | assumption | apply Ext.alloc | apply Ext.drewN | apply Ext.drew | (refine Ext.setCell ?_ (by first | (simp; done) | (simp; omega) | omega) _) | (refine Ext.trans ?_ (by assumption))))) (g_apart HT5.out HP5.out (by decide))); have HX6 := Lib.hid (ext_turned (Ext.trans E5 (by repeat (first | exact Ext.refl _ | assumption | apply Ext.alloc | apply Ext.drewN | apply Ext.drew | (refine Ext.setCell ?_ (by first | (simp; done) | (simp; omega) | omega) _) | (refine Ext.trans ?_ (by assumption))))) (hr6.turned (lo := (w.heap.size + 1 + 1 + 1)) (fun q hq => (HP5.out.lt q hq).1)) (by rw [HWS.out]; exact Nat.le_refl _)); have m6 := (gcells1 H6.out).1; have mf6 := (gcells1 H6.out).2.1; have ml6 := (gcells1 H6.out).2.2; clear hr6)
            go_wp2
            go_roundw
            case rel => exact ⟨j + 1, acc ++ [⟨t, s⟩], A6, c6, by omega, by rw [List.length_append, HAL.out, List.length_singleton]; omega, by go_num, Lib.hid (fun z hz => by rcases List.mem_append.1 hz with hz | hz; exact HOK.out z hz; rw [List.mem_singleton.1 hz]; exact HPO.out), Lib.hid (g_far HT6.out (fun e => g_apart H6.out HT6.out (by decide) _ rfl e)), Lib.hid (by rw [List.length_append, HAL.out, List.flatMap_append]; have h := g_far HR6.out.row (p := 0) (u := .slice A6 ((q + 1) + 1) c6) (fun e => g_apart H6.out HR6.out.row (by decide) _ rfl e); simpa using h), Lib.hid (by rw [List.length_append, HAL.out]; exact (H6.out.stored 0 (.slice A6 ((q + 1) + 1) c6)).1), HX6.out.setCell (by rw [HWS.out]; exact Nat.le_refl _) _, Lib.hid (by have hh := HE.out; rw [drop_cons HTX.out, chg_some HV0.out, HPN.out] at hh; exact hh)⟩
            case measure => simp [intOf]; omega
          · have he := vec_beq hd
            have HD := Lib.hid hd
            clear hd
            go_quiet (fail)
            go_wp2
            go_roundw
            case rel => exact ⟨j + 1, acc, some ⟨bo, 0, none⟩, co, by omega, by have := HAL.out; omega, by go_num, HOK, Lib.hid (owns_ext HT5.out (by repeat (first | exact Ext.refl _ | assumption | apply Ext.alloc | apply Ext.drewN | apply Ext.drew | (refine Ext.setCell ?_ (by first | (simp; done) | (simp; omega) | omega) _) | (refine Ext.trans ?_ (by assumption))))), Lib.hid (by rw [HAL.out]; exact owns_ext HP5.out (by repeat (first | exact Ext.refl _ | assumption | apply Ext.alloc | apply Ext.drewN | apply Ext.drew | (refine Ext.setCell ?_ (by first | (simp; done) | (simp; omega) | omega) _) | (refine Ext.trans ?_ (by assumption))))), Lib.hid (by rw [HAL.out]; exact owns_ext HK5.out (by repeat (first | exact Ext.refl _ | assumption | apply Ext.alloc | apply Ext.drewN | apply Ext.drew | (refine Ext.setCell ?_ (by first | (simp; done) | (simp; omega) | omega) _) | (refine Ext.trans ?_ (by assumption))))), Ext.trans E5 (by repeat (first | exact Ext.refl _ | assumption | apply Ext.alloc | apply Ext.drewN | apply Ext.drew | (refine Ext.setCell ?_ (by first | (simp; done) | (simp; omega) | omega) _) | (refine Ext.trans ?_ (by assumption)))), Lib.hid (by have hh := HE.out; rw [drop_cons HTX.out, chg_some HV0.out, put_same HAL.out HZQ.out HD.out] at hh; exact hh)⟩
            case measure => simp [intOf]; omega
    · have HRA := Lib.hid (show acc = o by have h := HE.out; rw [List.drop_eq_nil_of_le (by have := HMM.out; omega)] at h; injection h)
      obtain ⟨m0, mf0, ml0⟩ := gcells1 H14.out
      obtain ⟨_, _, r0, rf0⟩ := HW0.out wr hbq
      have hrl := lt_of_cell r0
      have HOF := Lib.hid (show (wr.setCell ⟨w.heap.size + 1 + 1, 0, none⟩ (.slice Ao acc.length co)).ownsRow w.heap.size 107 4 (.slice Ao o.length co) o.length (o.flatMap Pt.enc) from by
        have h := owns_base (own_set HO5.out (b := w.heap.size + 1 + 1) (p := 0) (u := .slice Ao acc.length co) (by omega)) (show w.heap.size ≤ w.heap.size + 1 + 1 + 1 by omega)
        rw [HRA.out] at h ⊢; exact h)
      have HAL := Lib.hid (show acc.length = o.length by rw [HRA.out])
      have HOKF := Lib.hid (show ∀ y ∈ o, y.ok from by rw [← HRA.out]; exact HOK.out)
      have HXF := Lib.hid ((EW.trans hbq).setCell (p := ⟨w.heap.size + 1 + 1, 0, none⟩) (by simp only []; omega) (.slice Ao acc.length co))
      clear HO4 HO5 H14 HE
      go_wp2
      exact bodyPost_ret (v := .agg #[.slice Ao acc.length co]) (by simp [results, Tryz.results28, go_sem, *]) rfl ⟨Ao, co, by rw [HAL.out], HOF.out, HOKF.out, HXF.out⟩
end Go.Proofs.YtgmlcohffdeplaaGreat
/-! RestW -/
namespace Go.Proofs.YtgmlcohffdeplaaGreat
open Go.RowKit
set_option linter.unusedVariables false
theorem asc_pair : ∀ (l : List Int) (p : Option Int), chainGo (fun _ => true) ltI p l = true → (∀ q, p = some q → ∀ x ∈ l, q < x) ∧ l.Pairwise (· < ·) := by
  intro l
  induction l with
  | nil => intro p _; exact ⟨(fun _ _ _ hx => by cases hx), List.Pairwise.nil⟩
  | cons a r ih =>
    intro p h
    have h' : chainGo (fun _ => true) ltI (some a) r = true ∧ ∀ q, p = some q → q < a := by
      cases p with
      | none => simp [chainGo] at h; exact ⟨h, fun q hq => by cases hq⟩
      | some q =>
        simp [chainGo, ltI] at h
        exact ⟨h.2, fun q' hq => by injection hq with hq; subst hq; exact h.1⟩
    obtain ⟨h1, h2⟩ := ih _ h'.1
    refine ⟨fun q hq x hx => ?_, List.pairwise_cons.2 ⟨fun x hx => h1 a rfl x hx, h2⟩⟩
    rcases List.mem_cons.1 hx with rfl | hx
    · exact h'.2 q hq
    · have := h1 a rfl x hx; have := h'.2 q hq; omega
theorem win_good {ps : List Int} {ns : List Node} {xs : List Window} (h : windowsB ps ns xs = true) : ∀ x ∈ xs, goodWin ns.length x ∧ spanT x.From x.To = true := by
  intro x hx
  unfold windowsB at h
  simp only [Bool.and_eq_true] at h
  have h1 := chain_all xs none h.2.2 x hx
  unfold winOkT wspanB at h1
  simp only [Bool.and_eq_true, decide_eq_true_eq] at h1
  obtain ⟨⟨h2, h3, h4⟩, _, ⟨h5, _⟩, h6⟩ := h1
  refine ⟨⟨⟨h2, h3, h4⟩, ?_, fun n hn => ?_⟩, by unfold spanT; rw [h2, h3]; simp [h4]⟩
  · have := (asc_pair _ _ h6).2
    exact this.imp (fun h => by omega)
  · unfold nodesB at h5
    rw [List.all_eq_true] at h5
    have := h5 n hn
    unfold withinB at this
    simp only [decide_eq_true_eq] at this
    omega
theorem takeG_chg {l o : List Pt} {fr te : Int} {g : Vec → Option Vec} (h : takeG l fr te g = some o) : chgGo l fr te g (timesL l fr te) [] = some o := by
  unfold takeG at h
  split at h
  · cases h
  · rename_i o' ho
    split at h
    · injection h with h; subst h; exact ho
    · cases h
theorem restN_step {fr te n : Int} {r : List Int} {pl qs : List (List Pt)} {i : Nat} {p : List Pt} (h : restN fr te (n :: r) pl = some qs) (hn : n = (i : Int)) (hp : pl[i]? = some p) : ∃ o, takeG p fr te restG = some o ∧ restN fr te r (pl.set i o) = some qs := by
  subst hn
  rw [restN] at h
  have e : pl.getD ((i : Int)).toNat [] = p := by rw [show ((i : Int)).toNat = i by omega, List.getD_eq_getElem?_getD, hp]; rfl
  rw [e] at h
  split at h
  · cases h
  · rename_i o ho
    rw [show ((i : Int)).toNat = i by omega] at h
    exact ⟨o, ho, h⟩
theorem restL_step {x : Window} {r : List Window} {pl qs : List (List Pt)} (h : restL (x :: r) pl = some qs) : ∃ ms, restN x.From x.To x.Nodes pl = some ms ∧ restL r ms = some qs := by
  rw [restL] at h
  split at h
  · cases h
  · rename_i ms hm
    exact ⟨ms, hm, h⟩
theorem restsB_at (l : List Window) (n t : Int) : restingB l n t = restAt l n t := rfl
/-- A room at rest is handed back, or none. -/
def RetRestR (w : World) (ps : List Int) (ns : List Node) (up : List Bool) (lic : List Pt) (R : Option (List (List Pt))) : Ending → World → Prop := fun e w' => ∃ A1 n1 c1 A2 n2 c2 A3 n3 c3 A4 n4 c4 A5 n5 c5, e = .returned (.tuple #[.agg #[.slice A1 n1 c1, .slice A2 n2 c2, .slice A3 n3 c3, .slice A4 n4 c4, .slice A5 n5 c5], .bool R.isSome]) ∧ (∀ qs, R = some qs → n4 = qs.length ∧ RoomAt w' ps ns up (qs, lic) (.agg #[.slice A1 n1 c1, .slice A2 n2 c2, .slice A3 n3 c3, .slice A4 n4 c4, .slice A5 n5 c5])) ∧ (R = none → n4 = 0) ∧ Ext w w'
theorem retRest_none {w w' : World} {ps : List Int} {ns : List Node} {up : List Bool} {lic : List Pt} (hb : Ext w w') : RetRestR w ps ns up lic none (.returned (.tuple #[.agg #[.slice none 0 0, .slice none 0 0, .slice none 0 0, .slice none 0 0, .slice none 0 0], .bool false])) w' :=
  ⟨none, 0, 0, none, 0, 0, none, 0, 0, none, 0, 0, none, 0, 0, rfl, (fun r hr => by cases hr), (fun _ => rfl), hb⟩
end Go.Proofs.YtgmlcohffdeplaaGreat
/-! SRest -/
namespace Go.Proofs.YtgmlcohffdeplaaGreat
open Go.RowKit
set_option linter.unusedVariables false
set_option maxHeartbeats 16000000 in
set_option maxRecDepth 10000 in
theorem sRest_c (ps : List Int) (ns : List Node) (up : List Bool) (pl : List (List Pt)) (lic : List Pt) (xs : List Window) (qs : List (List Pt)) (D : Option Addr) (q f : Nat) (v : Value) (w : World) (h : RoomAt w ps ns up (pl, lic) v) (hsm : roomSm ps ns up pl lic) (h3 : SlAt RWindow 3 w D q xs) (hl3 : q ≤ 1000) (hq : (roomB ps ns up pl lic && windowsB ps ns xs) = true → restL xs pl = some qs ∧ roomB ps ns up qs lic = true) : Calls Tryz.prog 7 #[v, .slice D q f] w (RetRestR w ps ns up lic (if (roomB ps ns up pl lic && windowsB ps ns xs) = true then some qs else none)) := by
  have HRO := Lib.hid (fun (u : World) (e : Ext w u) => sRoomOkG_c ps ns up pl lic v u (h.ext e) hsm)
  have HRP := Lib.hid (fun (hr : roomB ps ns up pl lic = true) => show topoB ps ns = true ∧ up.length = ns.length ∧ roomOkM ns.length (pl, lic) from roomB_parts hr)
  have HCP := Lib.hid (fun (hr : roomB ps ns up pl lic = true) (u : World) (e : Ext w u) => by
    obtain ⟨ht, hu, hrm⟩ := roomB_parts hr
    obtain ⟨⟨_, hp1⟩, hn1, _⟩ := topo_parts ht
    have hpl := hrm.1
    simp only [] at hpl
    exact l04Copy_c ps ns up pl lic v u (h.ext e) hp1 hn1 (by omega) (by omega) (fun p hp => (profB_parts (hrm.2.1 p hp)).2.1) (profB_parts hrm.2.2).2.1)
  have HRQ := Lib.hid (fun (hr : roomB ps ns up qs lic = true) (v' : Value) (u : World) (h' : RoomAt u ps ns up (qs, lic) v') => sRoomOkG_c ps ns up qs lic v' u h' (roomB_sm hr).1)
  obtain ⟨A1, c1, A2, c2, A3, c3, A4, c4, A5, c5, rfl, h1, h2, _, _, _⟩ := h
  simp only [] at HRO HCP ⊢
  have HWO := Lib.hid (fun (u : World) (e : Ext w u) => sWindowsOk_c ps ns xs A1 ps.length c1 A2 ns.length c2 D q f u (h1.ext (Flat.mono _ _) e) (by have := hsm.1.1; unfold maxLen; omega) (h2.ext (Flat.mono _ _) e) (by have := hsm.1.2.1; unfold maxLen; omega) (h3.ext RWindow.mono e) (by unfold maxLen; omega))
  have H3 := Lib.hid (fun (u : World) (e : Ext w u) => h3.ext RWindow.mono e)
  have HXL := Lib.hid h3.len
  have HWG := Lib.hid (fun (hw : windowsB ps ns xs = true) => win_good hw)
  clear h1 h2 h3 hsm
  rcases hrb : roomB ps ns up pl lic with _ | _
  · rw [hrb] at HRO
    rw [Bool.false_and, if_neg (by simp)]
    clear HRP HCP HRQ HWO HWG hq hrb
    generalize ps.length = np at *
    generalize ns.length = nn at *
    generalize up.length = nu at *
    generalize pl.length = m at *
    generalize lic.length = nl at *
    go_enter Tryz.func7, Tryz.ntmps7
    go_wp2_with fail
    refine (HRO.out _ (by repeat (first | exact Ext.refl _ | assumption | apply Ext.alloc | apply Ext.drewN | apply Ext.drew | (refine Ext.setCell ?_ (by first | (simp; done) | (simp; omega) | omega) _) | (refine Ext.trans ?_ (by assumption))))).mono ?_
    rintro e w1 ⟨rfl, hb1⟩
    obtain ⟨hcr1, hfr1, hz1⟩ := hb1.rules
    (try simp at hz1)
    have hy1_w0 : w.heap.size < w1.heap.size := (by omega)
    have hy1_w1 : w.heap.size + 1 < w1.heap.size := (by omega)
    have r0 := (hb1).cell (cell_box_at (w.alloc (.cells #[.slice A1 np c1, .slice A2 nn c2, .slice A3 nu c3, .slice A4 m c4, .slice A5 nl c5] 44)) (w.heap.size + 1) (by simp) [.slice none 0 0, .slice none 0 0, .slice none 0 0, .slice none 0 0, .slice none 0 0] 44 0 _ rfl)
    have r1 := (hb1).cell (cell_box_at (w.alloc (.cells #[.slice A1 np c1, .slice A2 nn c2, .slice A3 nu c3, .slice A4 m c4, .slice A5 nl c5] 44)) (w.heap.size + 1) (by simp) [.slice none 0 0, .slice none 0 0, .slice none 0 0, .slice none 0 0, .slice none 0 0] 44 1 _ rfl)
    have r2 := (hb1).cell (cell_box_at (w.alloc (.cells #[.slice A1 np c1, .slice A2 nn c2, .slice A3 nu c3, .slice A4 m c4, .slice A5 nl c5] 44)) (w.heap.size + 1) (by simp) [.slice none 0 0, .slice none 0 0, .slice none 0 0, .slice none 0 0, .slice none 0 0] 44 2 _ rfl)
    have r3 := (hb1).cell (cell_box_at (w.alloc (.cells #[.slice A1 np c1, .slice A2 nn c2, .slice A3 nu c3, .slice A4 m c4, .slice A5 nl c5] 44)) (w.heap.size + 1) (by simp) [.slice none 0 0, .slice none 0 0, .slice none 0 0, .slice none 0 0, .slice none 0 0] 44 3 _ rfl)
    have r4 := (hb1).cell (cell_box_at (w.alloc (.cells #[.slice A1 np c1, .slice A2 nn c2, .slice A3 nu c3, .slice A4 m c4, .slice A5 nl c5] 44)) (w.heap.size + 1) (by simp) [.slice none 0 0, .slice none 0 0, .slice none 0 0, .slice none 0 0, .slice none 0 0] 44 4 _ rfl)
    have rf0 := ((hb1).frozenEq (a := ⟨w.heap.size + 1, 0, none⟩) (by simp)).trans (frozen_box_at (w.alloc (.cells #[.slice A1 np c1, .slice A2 nn c2, .slice A3 nu c3, .slice A4 m c4, .slice A5 nl c5] 44)) (w.heap.size + 1) (by simp) #[.slice none 0 0, .slice none 0 0, .slice none 0 0, .slice none 0 0, .slice none 0 0] 44 0)
    have rf1 := ((hb1).frozenEq (a := ⟨w.heap.size + 1, 1, none⟩) (by simp)).trans (frozen_box_at (w.alloc (.cells #[.slice A1 np c1, .slice A2 nn c2, .slice A3 nu c3, .slice A4 m c4, .slice A5 nl c5] 44)) (w.heap.size + 1) (by simp) #[.slice none 0 0, .slice none 0 0, .slice none 0 0, .slice none 0 0, .slice none 0 0] 44 1)
    have rf2 := ((hb1).frozenEq (a := ⟨w.heap.size + 1, 2, none⟩) (by simp)).trans (frozen_box_at (w.alloc (.cells #[.slice A1 np c1, .slice A2 nn c2, .slice A3 nu c3, .slice A4 m c4, .slice A5 nl c5] 44)) (w.heap.size + 1) (by simp) #[.slice none 0 0, .slice none 0 0, .slice none 0 0, .slice none 0 0, .slice none 0 0] 44 2)
    have rf3 := ((hb1).frozenEq (a := ⟨w.heap.size + 1, 3, none⟩) (by simp)).trans (frozen_box_at (w.alloc (.cells #[.slice A1 np c1, .slice A2 nn c2, .slice A3 nu c3, .slice A4 m c4, .slice A5 nl c5] 44)) (w.heap.size + 1) (by simp) #[.slice none 0 0, .slice none 0 0, .slice none 0 0, .slice none 0 0, .slice none 0 0] 44 3)
    have rf4 := ((hb1).frozenEq (a := ⟨w.heap.size + 1, 4, none⟩) (by simp)).trans (frozen_box_at (w.alloc (.cells #[.slice A1 np c1, .slice A2 nn c2, .slice A3 nu c3, .slice A4 m c4, .slice A5 nl c5] 44)) (w.heap.size + 1) (by simp) #[.slice none 0 0, .slice none 0 0, .slice none 0 0, .slice none 0 0, .slice none 0 0] 44 4)
    have hrl := lt_of_cell r0
    have HXF := Lib.hid ((((Ext.refl w).alloc _).alloc _).trans hb1)
    clear hb1 hcr1 hfr1
    go_wp2
    exact bodyPost_ret (v := .tuple #[.agg #[.slice none 0 0, .slice none 0 0, .slice none 0 0, .slice none 0 0, .slice none 0 0], .bool false]) (by simp [results, Tryz.results7, go_sem, *]) rfl (retRest_none (HXF.out.five (by omega) _ _ _ _ _))
  rw [hrb] at HRO
  rcases hwb : windowsB ps ns xs with _ | _
  · rw [hwb] at HWO
    rw [Bool.true_and, if_neg (by simp)]
    clear HRP HCP HRQ HWG hq hrb hwb
    generalize ps.length = np at *
    generalize ns.length = nn at *
    generalize up.length = nu at *
    generalize pl.length = m at *
    generalize lic.length = nl at *
    go_enter Tryz.func7, Tryz.ntmps7
    go_wp2_with fail
    refine (HRO.out _ (by repeat (first | exact Ext.refl _ | assumption | apply Ext.alloc | apply Ext.drewN | apply Ext.drew | (refine Ext.setCell ?_ (by first | (simp; done) | (simp; omega) | omega) _) | (refine Ext.trans ?_ (by assumption))))).mono ?_
    rintro e w1 ⟨rfl, hb1⟩
    obtain ⟨hcr1, hfr1, hz1⟩ := hb1.rules
    (try simp at hz1)
    have hy1_w0 : w.heap.size < w1.heap.size := (by omega)
    have hy1_w1 : w.heap.size + 1 < w1.heap.size := (by omega)
    have q0 := (((Ext.refl _).alloc _).trans hb1).cell (cell_box_at w (w.heap.size) (by simp) [.slice A1 np c1, .slice A2 nn c2, .slice A3 nu c3, .slice A4 m c4, .slice A5 nl c5] 44 0 _ rfl)
    have q1 := (((Ext.refl _).alloc _).trans hb1).cell (cell_box_at w (w.heap.size) (by simp) [.slice A1 np c1, .slice A2 nn c2, .slice A3 nu c3, .slice A4 m c4, .slice A5 nl c5] 44 1 _ rfl)
    have q2 := (((Ext.refl _).alloc _).trans hb1).cell (cell_box_at w (w.heap.size) (by simp) [.slice A1 np c1, .slice A2 nn c2, .slice A3 nu c3, .slice A4 m c4, .slice A5 nl c5] 44 2 _ rfl)
    have q3 := (((Ext.refl _).alloc _).trans hb1).cell (cell_box_at w (w.heap.size) (by simp) [.slice A1 np c1, .slice A2 nn c2, .slice A3 nu c3, .slice A4 m c4, .slice A5 nl c5] 44 3 _ rfl)
    have q4 := (((Ext.refl _).alloc _).trans hb1).cell (cell_box_at w (w.heap.size) (by simp) [.slice A1 np c1, .slice A2 nn c2, .slice A3 nu c3, .slice A4 m c4, .slice A5 nl c5] 44 4 _ rfl)
    have qf0 := ((((Ext.refl _).alloc _).trans hb1).frozenEq (a := ⟨w.heap.size, 0, none⟩) (by simp)).trans (frozen_box_at w (w.heap.size) (by simp) #[.slice A1 np c1, .slice A2 nn c2, .slice A3 nu c3, .slice A4 m c4, .slice A5 nl c5] 44 0)
    have qf1 := ((((Ext.refl _).alloc _).trans hb1).frozenEq (a := ⟨w.heap.size, 1, none⟩) (by simp)).trans (frozen_box_at w (w.heap.size) (by simp) #[.slice A1 np c1, .slice A2 nn c2, .slice A3 nu c3, .slice A4 m c4, .slice A5 nl c5] 44 1)
    have qf2 := ((((Ext.refl _).alloc _).trans hb1).frozenEq (a := ⟨w.heap.size, 2, none⟩) (by simp)).trans (frozen_box_at w (w.heap.size) (by simp) #[.slice A1 np c1, .slice A2 nn c2, .slice A3 nu c3, .slice A4 m c4, .slice A5 nl c5] 44 2)
    have qf3 := ((((Ext.refl _).alloc _).trans hb1).frozenEq (a := ⟨w.heap.size, 3, none⟩) (by simp)).trans (frozen_box_at w (w.heap.size) (by simp) #[.slice A1 np c1, .slice A2 nn c2, .slice A3 nu c3, .slice A4 m c4, .slice A5 nl c5] 44 3)
    have qf4 := ((((Ext.refl _).alloc _).trans hb1).frozenEq (a := ⟨w.heap.size, 4, none⟩) (by simp)).trans (frozen_box_at w (w.heap.size) (by simp) #[.slice A1 np c1, .slice A2 nn c2, .slice A3 nu c3, .slice A4 m c4, .slice A5 nl c5] 44 4)
    have hql := lt_of_cell q0
    go_wp2_with fail
    refine (HWO.out _ ((((Ext.refl w).alloc _).alloc _).trans hb1)).mono ?_
    rintro e w2 ⟨rfl, hb2⟩
    have r0 := (hb1.trans hb2).cell (cell_box_at (w.alloc (.cells #[.slice A1 np c1, .slice A2 nn c2, .slice A3 nu c3, .slice A4 m c4, .slice A5 nl c5] 44)) (w.heap.size + 1) (by simp) [.slice none 0 0, .slice none 0 0, .slice none 0 0, .slice none 0 0, .slice none 0 0] 44 0 _ rfl)
    have r1 := (hb1.trans hb2).cell (cell_box_at (w.alloc (.cells #[.slice A1 np c1, .slice A2 nn c2, .slice A3 nu c3, .slice A4 m c4, .slice A5 nl c5] 44)) (w.heap.size + 1) (by simp) [.slice none 0 0, .slice none 0 0, .slice none 0 0, .slice none 0 0, .slice none 0 0] 44 1 _ rfl)
    have r2 := (hb1.trans hb2).cell (cell_box_at (w.alloc (.cells #[.slice A1 np c1, .slice A2 nn c2, .slice A3 nu c3, .slice A4 m c4, .slice A5 nl c5] 44)) (w.heap.size + 1) (by simp) [.slice none 0 0, .slice none 0 0, .slice none 0 0, .slice none 0 0, .slice none 0 0] 44 2 _ rfl)
    have r3 := (hb1.trans hb2).cell (cell_box_at (w.alloc (.cells #[.slice A1 np c1, .slice A2 nn c2, .slice A3 nu c3, .slice A4 m c4, .slice A5 nl c5] 44)) (w.heap.size + 1) (by simp) [.slice none 0 0, .slice none 0 0, .slice none 0 0, .slice none 0 0, .slice none 0 0] 44 3 _ rfl)
    have r4 := (hb1.trans hb2).cell (cell_box_at (w.alloc (.cells #[.slice A1 np c1, .slice A2 nn c2, .slice A3 nu c3, .slice A4 m c4, .slice A5 nl c5] 44)) (w.heap.size + 1) (by simp) [.slice none 0 0, .slice none 0 0, .slice none 0 0, .slice none 0 0, .slice none 0 0] 44 4 _ rfl)
    have rf0 := ((hb1.trans hb2).frozenEq (a := ⟨w.heap.size + 1, 0, none⟩) (by simp)).trans (frozen_box_at (w.alloc (.cells #[.slice A1 np c1, .slice A2 nn c2, .slice A3 nu c3, .slice A4 m c4, .slice A5 nl c5] 44)) (w.heap.size + 1) (by simp) #[.slice none 0 0, .slice none 0 0, .slice none 0 0, .slice none 0 0, .slice none 0 0] 44 0)
    have rf1 := ((hb1.trans hb2).frozenEq (a := ⟨w.heap.size + 1, 1, none⟩) (by simp)).trans (frozen_box_at (w.alloc (.cells #[.slice A1 np c1, .slice A2 nn c2, .slice A3 nu c3, .slice A4 m c4, .slice A5 nl c5] 44)) (w.heap.size + 1) (by simp) #[.slice none 0 0, .slice none 0 0, .slice none 0 0, .slice none 0 0, .slice none 0 0] 44 1)
    have rf2 := ((hb1.trans hb2).frozenEq (a := ⟨w.heap.size + 1, 2, none⟩) (by simp)).trans (frozen_box_at (w.alloc (.cells #[.slice A1 np c1, .slice A2 nn c2, .slice A3 nu c3, .slice A4 m c4, .slice A5 nl c5] 44)) (w.heap.size + 1) (by simp) #[.slice none 0 0, .slice none 0 0, .slice none 0 0, .slice none 0 0, .slice none 0 0] 44 2)
    have rf3 := ((hb1.trans hb2).frozenEq (a := ⟨w.heap.size + 1, 3, none⟩) (by simp)).trans (frozen_box_at (w.alloc (.cells #[.slice A1 np c1, .slice A2 nn c2, .slice A3 nu c3, .slice A4 m c4, .slice A5 nl c5] 44)) (w.heap.size + 1) (by simp) #[.slice none 0 0, .slice none 0 0, .slice none 0 0, .slice none 0 0, .slice none 0 0] 44 3)
    have rf4 := ((hb1.trans hb2).frozenEq (a := ⟨w.heap.size + 1, 4, none⟩) (by simp)).trans (frozen_box_at (w.alloc (.cells #[.slice A1 np c1, .slice A2 nn c2, .slice A3 nu c3, .slice A4 m c4, .slice A5 nl c5] 44)) (w.heap.size + 1) (by simp) #[.slice none 0 0, .slice none 0 0, .slice none 0 0, .slice none 0 0, .slice none 0 0] 44 4)
    have hrl := lt_of_cell r0
    have HXF := Lib.hid ((((Ext.refl w).alloc _).alloc _).trans (hb1.trans hb2))
    clear hb1 hb2 hcr1 hfr1 q0 q1 q2 q3 q4 qf0 qf1 qf2 qf3 qf4 hql
    go_wp2
    exact bodyPost_ret (v := .tuple #[.agg #[.slice none 0 0, .slice none 0 0, .slice none 0 0, .slice none 0 0, .slice none 0 0], .bool false]) (by simp [results, Tryz.results7, go_sem, *]) rfl (retRest_none (HXF.out.five (by omega) _ _ _ _ _))
  rw [hwb] at HWO
  rw [Bool.true_and, if_pos rfl]
  obtain ⟨hq1, hq2⟩ := hq (by rw [hrb, hwb]; rfl)
  obtain ⟨htb, hul, hrm⟩ := HRP.out hrb
  have HRL := Lib.hid hq1
  have HRB := Lib.hid (HRQ.out hq2)
  rw [hq2] at HRB
  have HCC := Lib.hid (HCP.out hrb)
  have HWN := Lib.hid (HWG.out hwb)
  have HPV := Lib.hid (show pl.length = ns.length ∧ ∀ p ∈ pl, profB p = true from ⟨hrm.1, hrm.2.1⟩)
  clear HRP HCP HRQ HWG hq hrb hwb hq1 hq2 htb hul hrm
  go_enter Tryz.func7, Tryz.ntmps7
  go_wp2_with fail
  refine (HRO.out _ (by repeat (first | exact Ext.refl _ | assumption | apply Ext.alloc | apply Ext.drewN | apply Ext.drew | (refine Ext.setCell ?_ (by first | (simp; done) | (simp; omega) | omega) _) | (refine Ext.trans ?_ (by assumption))))).mono ?_
  rintro e w1 ⟨rfl, hb1⟩
  obtain ⟨hcr1, hfr1, hz1⟩ := hb1.rules
  (try simp at hz1)
  have hy1_w0 : w.heap.size < w1.heap.size := (by omega)
  have hy1_w1 : w.heap.size + 1 < w1.heap.size := (by omega)
  have q0 := (((Ext.refl _).alloc _).trans hb1).cell (cell_box_at w (w.heap.size) (by simp) [.slice A1 ps.length c1, .slice A2 ns.length c2, .slice A3 up.length c3, .slice A4 pl.length c4, .slice A5 lic.length c5] 44 0 _ rfl)
  have q1 := (((Ext.refl _).alloc _).trans hb1).cell (cell_box_at w (w.heap.size) (by simp) [.slice A1 ps.length c1, .slice A2 ns.length c2, .slice A3 up.length c3, .slice A4 pl.length c4, .slice A5 lic.length c5] 44 1 _ rfl)
  have q2 := (((Ext.refl _).alloc _).trans hb1).cell (cell_box_at w (w.heap.size) (by simp) [.slice A1 ps.length c1, .slice A2 ns.length c2, .slice A3 up.length c3, .slice A4 pl.length c4, .slice A5 lic.length c5] 44 2 _ rfl)
  have q3 := (((Ext.refl _).alloc _).trans hb1).cell (cell_box_at w (w.heap.size) (by simp) [.slice A1 ps.length c1, .slice A2 ns.length c2, .slice A3 up.length c3, .slice A4 pl.length c4, .slice A5 lic.length c5] 44 3 _ rfl)
  have q4 := (((Ext.refl _).alloc _).trans hb1).cell (cell_box_at w (w.heap.size) (by simp) [.slice A1 ps.length c1, .slice A2 ns.length c2, .slice A3 up.length c3, .slice A4 pl.length c4, .slice A5 lic.length c5] 44 4 _ rfl)
  have qf0 := ((((Ext.refl _).alloc _).trans hb1).frozenEq (a := ⟨w.heap.size, 0, none⟩) (by simp)).trans (frozen_box_at w (w.heap.size) (by simp) #[.slice A1 ps.length c1, .slice A2 ns.length c2, .slice A3 up.length c3, .slice A4 pl.length c4, .slice A5 lic.length c5] 44 0)
  have qf1 := ((((Ext.refl _).alloc _).trans hb1).frozenEq (a := ⟨w.heap.size, 1, none⟩) (by simp)).trans (frozen_box_at w (w.heap.size) (by simp) #[.slice A1 ps.length c1, .slice A2 ns.length c2, .slice A3 up.length c3, .slice A4 pl.length c4, .slice A5 lic.length c5] 44 1)
  have qf2 := ((((Ext.refl _).alloc _).trans hb1).frozenEq (a := ⟨w.heap.size, 2, none⟩) (by simp)).trans (frozen_box_at w (w.heap.size) (by simp) #[.slice A1 ps.length c1, .slice A2 ns.length c2, .slice A3 up.length c3, .slice A4 pl.length c4, .slice A5 lic.length c5] 44 2)
  have qf3 := ((((Ext.refl _).alloc _).trans hb1).frozenEq (a := ⟨w.heap.size, 3, none⟩) (by simp)).trans (frozen_box_at w (w.heap.size) (by simp) #[.slice A1 ps.length c1, .slice A2 ns.length c2, .slice A3 up.length c3, .slice A4 pl.length c4, .slice A5 lic.length c5] 44 3)
  have qf4 := ((((Ext.refl _).alloc _).trans hb1).frozenEq (a := ⟨w.heap.size, 4, none⟩) (by simp)).trans (frozen_box_at w (w.heap.size) (by simp) #[.slice A1 ps.length c1, .slice A2 ns.length c2, .slice A3 up.length c3, .slice A4 pl.length c4, .slice A5 lic.length c5] 44 4)
  have hql := lt_of_cell q0
  go_wp2_with fail
  refine (HWO.out _ ((((Ext.refl w).alloc _).alloc _).trans hb1)).mono ?_
  rintro e w2 ⟨rfl, hb2⟩
  have hb12 := hb1.trans hb2
  have z0 := hb2.cell q0
  have z1 := hb2.cell q1
  have z2 := hb2.cell q2
  have z3 := hb2.cell q3
  have z4 := hb2.cell q4
  have hzl := lt_of_cell z0
  clear hcr1 hfr1 q0 q1 q2 q3 q4 qf0 qf1 qf2 qf3 qf4 hql
  go_wp2_with fail
  refine (HCC.out _ ((((Ext.refl w).alloc _).alloc _).trans hb12)).mono ?_
  rintro e w5 ⟨B1, d1, B2, d2, B3, d3, B4, d4, B5, d5, rfl, hro, hb5⟩
  have HX5 := Lib.hid (show Ext ((w.alloc (.cells #[.slice A1 ps.length c1, .slice A2 ns.length c2, .slice A3 up.length c3, .slice A4 pl.length c4, .slice A5 lic.length c5] 44)).alloc (.cells #[.slice none 0 0, .slice none 0 0, .slice none 0 0, .slice none 0 0, .slice none 0 0] 44)) w5 from hb12.trans hb5)
  have hz2 : w.heap.size + 1 + 1 ≤ w2.heap.size := by have := hb12.le; simp at this; omega
  have hz5 := hb5.le
  have HR5 := Lib.hid (hro.base (lo' := w.heap.size + 1 + 1) hz2)
  have HB5 := Lib.hid (show (w5.alloc (.cells #[.slice B1 ps.length d1, .slice B2 ns.length d2, .slice B3 up.length d3, .slice B4 pl.length d4, .slice B5 lic.length d5] 44)).ownsRow (w.heap.size + 1 + 1) 44 5 (.slice (some ⟨w5.heap.size, 0, none⟩) 1 1) 1 [.slice B1 ps.length d1, .slice B2 ns.length d2, .slice B3 up.length d3, .slice B4 pl.length d4, .slice B5 lic.length d5] from owns_base (gbox w5 [.slice B1 ps.length d1, .slice B2 ns.length d2, .slice B3 up.length d3, .slice B4 pl.length d4, .slice B5 lic.length d5] 44 5 rfl) (by omega))
  have hzb : (w.heap.size + 1 + 1) ≤ w5.heap.size := by omega
  have EW : Ext w ((w.alloc (.cells #[.slice A1 ps.length c1, .slice A2 ns.length c2, .slice A3 up.length c3, .slice A4 pl.length c4, .slice A5 lic.length c5] 44)).alloc (.cells #[.slice none 0 0, .slice none 0 0, .slice none 0 0, .slice none 0 0, .slice none 0 0] 44)) := ((Ext.refl w).alloc _).alloc _
  have r0 := ((Ext.refl _)).cell (cell_box_at (w.alloc (.cells #[.slice A1 ps.length c1, .slice A2 ns.length c2, .slice A3 up.length c3, .slice A4 pl.length c4, .slice A5 lic.length c5] 44)) (w.heap.size + 1) (by simp) [.slice none 0 0, .slice none 0 0, .slice none 0 0, .slice none 0 0, .slice none 0 0] 44 0 _ rfl)
  have r1 := ((Ext.refl _)).cell (cell_box_at (w.alloc (.cells #[.slice A1 ps.length c1, .slice A2 ns.length c2, .slice A3 up.length c3, .slice A4 pl.length c4, .slice A5 lic.length c5] 44)) (w.heap.size + 1) (by simp) [.slice none 0 0, .slice none 0 0, .slice none 0 0, .slice none 0 0, .slice none 0 0] 44 1 _ rfl)
  have r2 := ((Ext.refl _)).cell (cell_box_at (w.alloc (.cells #[.slice A1 ps.length c1, .slice A2 ns.length c2, .slice A3 up.length c3, .slice A4 pl.length c4, .slice A5 lic.length c5] 44)) (w.heap.size + 1) (by simp) [.slice none 0 0, .slice none 0 0, .slice none 0 0, .slice none 0 0, .slice none 0 0] 44 2 _ rfl)
  have r3 := ((Ext.refl _)).cell (cell_box_at (w.alloc (.cells #[.slice A1 ps.length c1, .slice A2 ns.length c2, .slice A3 up.length c3, .slice A4 pl.length c4, .slice A5 lic.length c5] 44)) (w.heap.size + 1) (by simp) [.slice none 0 0, .slice none 0 0, .slice none 0 0, .slice none 0 0, .slice none 0 0] 44 3 _ rfl)
  have r4 := ((Ext.refl _)).cell (cell_box_at (w.alloc (.cells #[.slice A1 ps.length c1, .slice A2 ns.length c2, .slice A3 up.length c3, .slice A4 pl.length c4, .slice A5 lic.length c5] 44)) (w.heap.size + 1) (by simp) [.slice none 0 0, .slice none 0 0, .slice none 0 0, .slice none 0 0, .slice none 0 0] 44 4 _ rfl)
  have rf0 := (((Ext.refl _)).frozenEq (a := ⟨w.heap.size + 1, 0, none⟩) (by simp)).trans (frozen_box_at (w.alloc (.cells #[.slice A1 ps.length c1, .slice A2 ns.length c2, .slice A3 up.length c3, .slice A4 pl.length c4, .slice A5 lic.length c5] 44)) (w.heap.size + 1) (by simp) #[.slice none 0 0, .slice none 0 0, .slice none 0 0, .slice none 0 0, .slice none 0 0] 44 0)
  have rf1 := (((Ext.refl _)).frozenEq (a := ⟨w.heap.size + 1, 1, none⟩) (by simp)).trans (frozen_box_at (w.alloc (.cells #[.slice A1 ps.length c1, .slice A2 ns.length c2, .slice A3 up.length c3, .slice A4 pl.length c4, .slice A5 lic.length c5] 44)) (w.heap.size + 1) (by simp) #[.slice none 0 0, .slice none 0 0, .slice none 0 0, .slice none 0 0, .slice none 0 0] 44 1)
  have rf2 := (((Ext.refl _)).frozenEq (a := ⟨w.heap.size + 1, 2, none⟩) (by simp)).trans (frozen_box_at (w.alloc (.cells #[.slice A1 ps.length c1, .slice A2 ns.length c2, .slice A3 up.length c3, .slice A4 pl.length c4, .slice A5 lic.length c5] 44)) (w.heap.size + 1) (by simp) #[.slice none 0 0, .slice none 0 0, .slice none 0 0, .slice none 0 0, .slice none 0 0] 44 2)
  have rf3 := (((Ext.refl _)).frozenEq (a := ⟨w.heap.size + 1, 3, none⟩) (by simp)).trans (frozen_box_at (w.alloc (.cells #[.slice A1 ps.length c1, .slice A2 ns.length c2, .slice A3 up.length c3, .slice A4 pl.length c4, .slice A5 lic.length c5] 44)) (w.heap.size + 1) (by simp) #[.slice none 0 0, .slice none 0 0, .slice none 0 0, .slice none 0 0, .slice none 0 0] 44 3)
  have rf4 := (((Ext.refl _)).frozenEq (a := ⟨w.heap.size + 1, 4, none⟩) (by simp)).trans (frozen_box_at (w.alloc (.cells #[.slice A1 ps.length c1, .slice A2 ns.length c2, .slice A3 up.length c3, .slice A4 pl.length c4, .slice A5 lic.length c5] 44)) (w.heap.size + 1) (by simp) #[.slice none 0 0, .slice none 0 0, .slice none 0 0, .slice none 0 0, .slice none 0 0] 44 4)
  have HWS := Lib.hid (show ((w.alloc (.cells #[.slice A1 ps.length c1, .slice A2 ns.length c2, .slice A3 up.length c3, .slice A4 pl.length c4, .slice A5 lic.length c5] 44)).alloc (.cells #[.slice none 0 0, .slice none 0 0, .slice none 0 0, .slice none 0 0, .slice none 0 0] 44)).heap.size = w.heap.size + 1 + 1 by simp)
  clear hro hb1 hb2 hb12 hb5 z0 z1 z2 z3 z4 hzl HRO HWO HCC
  go_wp2
  generalize ((w.alloc (.cells #[.slice A1 ps.length c1, .slice A2 ns.length c2, .slice A3 up.length c3, .slice A4 pl.length c4, .slice A5 lic.length c5] 44)).alloc (.cells #[.slice none 0 0, .slice none 0 0, .slice none 0 0, .slice none 0 0, .slice none 0 0] 44)) = W at *
  have HRZ := Lib.hid (fun (u : World) (e : Ext W u) => show (u.cell? ⟨w.heap.size + 1, 0, none⟩ = some (.slice none 0 0) ∧ u.cell? ⟨w.heap.size + 1, 1, none⟩ = some (.slice none 0 0) ∧ u.cell? ⟨w.heap.size + 1, 2, none⟩ = some (.slice none 0 0) ∧ u.cell? ⟨w.heap.size + 1, 3, none⟩ = some (.slice none 0 0) ∧ u.cell? ⟨w.heap.size + 1, 4, none⟩ = some (.slice none 0 0)) ∧ u.frozen? ⟨w.heap.size + 1, 0, none⟩ = false ∧ u.frozen? ⟨w.heap.size + 1, 1, none⟩ = false ∧ u.frozen? ⟨w.heap.size + 1, 2, none⟩ = false ∧ u.frozen? ⟨w.heap.size + 1, 3, none⟩ = false ∧ u.frozen? ⟨w.heap.size + 1, 4, none⟩ = false from ⟨⟨e.cell r0, e.cell r1, e.cell r2, e.cell r3, e.cell r4⟩, (e.frozenEq (a := ⟨w.heap.size + 1, 0, none⟩) (lt_of_cell r0)).trans rf0, (e.frozenEq (a := ⟨w.heap.size + 1, 1, none⟩) (lt_of_cell r1)).trans rf1, (e.frozenEq (a := ⟨w.heap.size + 1, 2, none⟩) (lt_of_cell r2)).trans rf2, (e.frozenEq (a := ⟨w.heap.size + 1, 3, none⟩) (lt_of_cell r3)).trans rf3, (e.frozenEq (a := ⟨w.heap.size + 1, 4, none⟩) (lt_of_cell r4)).trans rf4⟩)
  clear r0 r1 r2 r3 r4 rf0 rf1 rf2 rf3 rf4
  generalize hbxx : w5.heap.size = bx at *
  have HBX5 := Lib.hid (show Ext W (w5.alloc (.cells #[.slice B1 ps.length d1, .slice B2 ns.length d2, .slice B3 up.length d3, .slice B4 pl.length d4, .slice B5 lic.length d5] 44)) from HX5.out.alloc _)
  have HR6 := Lib.hid (HR5.out.ext ((Ext.refl _).alloc (.cells #[.slice B1 ps.length d1, .slice B2 ns.length d2, .slice B3 up.length d3, .slice B4 pl.length d4, .slice B5 lic.length d5] 44)))
  generalize (w5.alloc (.cells #[.slice B1 ps.length d1, .slice B2 ns.length d2, .slice B3 up.length d3, .slice B4 pl.length d4, .slice B5 lic.length d5] 44)) = w6 at *
  clear HX5 HR5 hz5 hz2 hbxx
  have HPN := Lib.hid HPV.out.1
  generalize hpm : pl.length = pm at *
  have HPM := Lib.hid hpm
  clear hpm
  go_loopw [26] (fun iv wr => ∃ (k : Nat) (ql : List (List Pt)), k ≤ q ∧ iv = .int .i64 k ∧ Hid (restL (xs.drop k) ql = some qs) ∧ Hid (RoomS wr (w.heap.size + 1 + 1) ps ns up (ql, lic) B1 d1 B2 d2 B3 d3 B4 d4 B5 d5) ∧ Hid (ql.length = pm ∧ ∀ p ∈ ql, profB p = true) ∧ Hid (wr.ownsRow (w.heap.size + 1 + 1) 44 5 (.slice (some ⟨bx, 0, none⟩) 1 1) 1 [.slice B1 ps.length d1, .slice B2 ns.length d2, .slice B3 up.length d3, .slice B4 pm d4, .slice B5 lic.length d5]) ∧ Ext W wr) (fun iv _ => q - (intOf iv).toNat)
  case atStart => exact ⟨0, pl, Nat.zero_le _, rfl, HRL, HR6, Lib.hid ⟨HPM.out, HPV.out.2⟩, HB5, HBX5.out⟩
  case round =>
    clear HRL HR6 HB5 HBX5
    obtain ⟨k, ql, hk, rfl, HG, HRO, HQV, HBX, hb⟩ := hrel
    by_cases hlt : k < q
    · obtain ⟨bo, oo, x, cs, hD, hbw, hx, _, hc, hrw⟩ := (H3.out w (Ext.refl w)).at_ hlt
      subst hD
      obtain ⟨An, cn, rfl, hsn, hnm, hfi, hti⟩ := win_cells hrw
      have y0 := (EW.trans hb).cell (hc 0 _ rfl)
      have y1 := (EW.trans hb).cell (hc 1 _ rfl)
      have y2 := (EW.trans hb).cell (hc 2 _ rfl)
      simp only [Nat.add_zero] at y0
      have hyl := lt_of_cell y0
      have HGX := Lib.hid (HWN.out x (List.mem_of_getElem? hx))
      obtain ⟨ms, hm1, hm2⟩ := restL_step (by have h := HG.out; rw [drop_cons hx] at h; exact h)
      have HM1 := Lib.hid hm1
      have HM2 := Lib.hid hm2
      have HSN := Lib.hid (fun (u : World) (e : Ext w u) => hsn.ext (Flat.mono encInt In64) e)
      have hlw : (w.heap.size + 1 + 1) ≤ wr.heap.size := by have := (HBX.out.lt bx rfl).2; have := (HBX.out.lt bx rfl).1; omega
      clear hx hc hrw hsn hm1 hm2 hfi hti
      have HNL := Lib.hid (rfl : x.Nodes.length = x.Nodes.length)
      generalize hxn : x.Nodes.length = xn at *
      have HXN := Lib.hid hxn
      clear hxn HNL
      unfold maxLen at hnm
      have HBA := Lib.hid (owns_ext HBX.out ((Ext.refl wr).alloc (.cells #[.int .i64 x.From, .int .i64 x.To, .slice An xn cn] 73)))
      have HRA := Lib.hid (HRO.out.ext ((Ext.refl wr).alloc (.cells #[.int .i64 x.From, .int .i64 x.To, .slice An xn cn] 73)))
      have HVA := Lib.hid (owns_base (gbox wr [.int .i64 x.From, .int .i64 x.To, .slice An xn cn] 73 3 rfl) hlw)
      have hbx9 := (HBX.out.lt bx rfl).2
      obtain ⟨bv, hbv⟩ : ∃ bv, bv = wr.heap.size := ⟨_, rfl⟩
      have hbvx : bx ≠ bv := by omega
      have hkd : decide (k < q) = true := decide_eq_true hlt
      have hkd2 : decide ((k : Int) < (q : Int)) = true := by rw [decide_eq_true_iff]; omega
      rw [← hbv] at HVA
      clear HRO HBX HG
      obtain ⟨wo, rfl⟩ : ∃ wo, wo = wr := ⟨_, rfl⟩
      go_wp2
      rw [← hbv]
      clear hbv y0 y1 y2
      go_loopw [33] (fun jv wq => ∃ (j : Nat) (ql2 : List (List Pt)), j ≤ xn ∧ jv = .int .i64 j ∧ Hid (restN x.From x.To (x.Nodes.drop j) ql2 = some ms) ∧ Hid (RoomS wq (w.heap.size + 1 + 1) ps ns up (ql2, lic) B1 d1 B2 d2 B3 d3 B4 d4 B5 d5) ∧ Hid (ql2.length = pm ∧ ∀ p ∈ ql2, profB p = true) ∧ Hid (wq.ownsRow (w.heap.size + 1 + 1) 44 5 (.slice (some ⟨bx, 0, none⟩) 1 1) 1 [.slice B1 ps.length d1, .slice B2 ns.length d2, .slice B3 up.length d3, .slice B4 pm d4, .slice B5 lic.length d5]) ∧ Hid (wq.ownsRow (w.heap.size + 1 + 1) 73 3 (.slice (some ⟨bv, 0, none⟩) 1 1) 1 [.int .i64 x.From, .int .i64 x.To, .slice An xn cn]) ∧ Ext W wq) (fun jv _ => xn - (intOf jv).toNat)
      case atStart => exact ⟨0, ql, Nat.zero_le _, rfl, HM1, HRA, HQV, HBA, HVA, hb.alloc _⟩
      case round =>
        clear HM1 HRA HBA HVA HQV
        obtain ⟨j, ql2, hj, rfl, HG2, HRO, HQV, HBX, HVX, hb2⟩ := hrel
        by_cases hlt2 : j < xn
        · obtain ⟨bp, op, y, cs2, hD2, hbw2, hy, _, hc2, rfl, _⟩ := (HSN.out wr (EW.trans hb2)).at_ hlt2
          subst hD2
          have g0 := hc2 0 _ rfl
          simp only [Nat.mul_one, Nat.add_zero] at g0
          obtain ⟨hy0, hy1⟩ := HGX.out.1.2.2 y (List.mem_of_getElem? hy)
          obtain ⟨i, rfl⟩ := Int.eq_ofNat_of_zero_le hy0
          obtain ⟨p, hp⟩ : ∃ p, ql2[i]? = some p := ⟨_, List.getElem?_eq_getElem (by have := HQV.out.1; have := HPN.out; omega)⟩
          obtain ⟨o, ho, hro2⟩ := restN_step (by have h := HG2.out; rw [drop_cons hy] at h; exact h) rfl hp
          obtain ⟨gb, rfl, hg1, hg2⟩ := HRO.out.pro.form (by have := HQV.out.1; have := HPN.out; simp only []; omega)
          obtain ⟨Ap, cp, hcell, hsp, hfz, _, _⟩ := HRO.out.pro.get hp
          have HPX := Lib.hid (HQV.out.2 p (List.mem_of_getElem? hp))
          have HND := Lib.hid (fun (u : World) (e : Ext wr u) => l15Node_c p o x.From x.To (some ⟨bp, op, none⟩) xn cn Ap p.length cp u (hsp.ext (Flat.mono _ _) e) HPX.out HGX.out.2 (takeG_chg ho))
          have HOV := Lib.hid (rest_valid HPX.out HGX.out.1.1 ho)
          have HG3 := Lib.hid hro2
          have HCELL := Lib.hid hcell
          have HFZ := Lib.hid hfz
          have hil2 : i < pm := by have := HPN.out; omega
          have hil : (i : Int) < (pm : Int) := by omega
          have HII := Lib.hid (show i < ql2.length by have h1 := HQV.out.1; omega)
          have hgx : gb ≠ bx := fun e => by
            obtain ⟨_, L, hL, _⟩ := HRO.out.pro
            subst e; exact g_apart hL HBX.out (by decide) _ rfl rfl
          obtain ⟨_, L0, hL0, _⟩ := HRO.out.pro
          have HLL := Lib.hid hL0
          have t3 := (gcells5 HBX.out).2.2.2.1
          have hbl := (HBX.out.lt bx rfl).2
          have v0 : wr.cell? ⟨bv, 0, none⟩ = some (.int .i64 x.From) := by rw [HVX.out.cellAt 0 (by omega)]; rfl
          have v1 : wr.cell? ⟨bv, 1, none⟩ = some (.int .i64 x.To) := by rw [HVX.out.cellAt 1 (by omega)]; rfl
          have v2 : wr.cell? ⟨bv, 2, none⟩ = some (.slice (some ⟨bp, op, none⟩) xn cn) := by rw [HVX.out.cellAt 2 (by omega)]; rfl
          have hvl : bv < wr.heap.size := lt_of_cell v0
          clear hy hc2 hp hsp ho hro2 hcell hfz hL0
          have c3 := HCELL.out
          have f3 := HFZ.out
          go_upto_region 10 with fail
          go_region_law (go_simp; go_at_call 28; (with_reducible refine (HND.out _ ((Ext.refl _).drew)).mono ?_); rintro e w7 ⟨A6, c6, rfl, ho7, hy7, hb7⟩; have HE7 := Lib.hid (show Ext wr w7 from Ext.trans ((Ext.refl _).drew) hb7); have c7 := HE7.out.cell HCELL.out; have f7 := (HE7.out.frozenEq (a := ⟨gb, i, none⟩) hg2).trans HFZ.out; have t7 := HE7.out.cell t3; have l7 := lt_of_cell t7; have m7 := lt_of_cell c7; have HO7 := Lib.hid (owns_base ho7 (show (w.heap.size + 1 + 1) ≤ wr.drew.heap.size from Nat.le_trans (HBX.out.lt bx rfl).1 (Nat.le_of_lt hbl))); have HY7 := Lib.hid hy7; clear ho7 hb7)
          all_goals
            have HRS := Lib.hid ((HRO.out.ext HE7.out).setp HII.out HO7.out HY7.out)
            have HBS := Lib.hid ((HRO.out.ext HE7.out).box_far (i := i) (u := .slice A6 o.length c6) (owns_ext HBX.out HE7.out))
            have HVS := Lib.hid (g_far (g := gb) (p := i) (u := .slice A6 o.length c6) (owns_ext HVX.out HE7.out) (fun e => g_apart HVX.out HLL.out (by decide) _ e rfl))
            have HXS := Lib.hid ((hb2.trans HE7.out).setCell (p := ⟨gb, i, none⟩) (by rw [HWS.out]; exact hg1) (.slice A6 o.length c6))
            clear c3 f3 t3 v0 v1 v2 c7 t7 HRO HBX HVX HE7 HO7 HND HCELL HFZ HLL
            go_wp2
            go_roundw
            case rel => exact ⟨j + 1, ql2.set i o, by omega, by go_num, HG3, HRS, Lib.hid ⟨by rw [List.length_set]; exact HQV.out.1, fun q hq => (List.mem_or_eq_of_mem_set hq).elim (HQV.out.2 q) (fun e => by rw [e]; exact HOV.out)⟩, HBS, HVS, HXS.out⟩
            case measure => simp [intOf]; omega
        · obtain rfl : j = xn := by omega
          have HMS := Lib.hid (show ql2 = ms from by have h := HG2.out; rw [List.drop_eq_nil_of_le (by have := HXN.out; omega)] at h; injection h)
          go_wp2
          go_roundw
          case rel => exact ⟨k + 1, ql2, by omega, by go_num, Lib.hid (by rw [HMS.out]; exact HM2.out), HRO, HQV, HBX, hb2⟩
          case measure => simp [intOf]; omega
    · obtain rfl : k = q := by omega
      have HMS := Lib.hid (show ql = qs from by have h := HG.out; rw [List.drop_eq_nil_of_le (by have := HXL.out; omega)] at h; injection h)
      obtain ⟨t0, t1, t2, t3, t4, tf0, tf1, tf2, tf3, tf4, tl⟩ := gcells5 HBX.out
      have HQ := Lib.hid (show RoomAt wr ps ns up (qs, lic) (.agg #[.slice B1 ps.length d1, .slice B2 ns.length d2, .slice B3 up.length d3, .slice B4 pm d4, .slice B5 lic.length d5]) from by
        have h := HRO.out.at_; rw [HMS.out] at h; simp only [] at h; rw [show qs.length = pm by rw [← HMS.out]; exact HQV.out.1] at h; exact h)
      go_wp2_with fail
      refine (HRB.out _ wr HQ.out).mono ?_
      rintro e w8 ⟨rfl, hb8⟩
      have HRS := Lib.hid (HRO.out.ext hb8)
      obtain ⟨u0, u1, u2, u3, u4, uf0, uf1, uf2, uf3, uf4, ul⟩ := gcells5 (owns_ext HBX.out hb8)
      obtain ⟨⟨r0, r1, r2, r3, r4⟩, rf0, rf1, rf2, rf3, rf4⟩ := HRZ.out w8 (hb.trans hb8)
      have hrl := lt_of_cell r0
      have hne : w.heap.size + 1 ≠ bx := by have := (HBX.out.lt bx rfl).1; omega
      have HRT := Lib.hid (((((HRS.out.low (b := w.heap.size + 1) (p := 0) (u := .slice B1 ps.length d1) (by omega)).low (b := w.heap.size + 1) (p := 1) (u := .slice B2 ns.length d2) (by omega)).low (b := w.heap.size + 1) (p := 2) (u := .slice B3 up.length d3) (by omega)).low (b := w.heap.size + 1) (p := 3) (u := .slice B4 pm d4) (by omega)).low (b := w.heap.size + 1) (p := 4) (u := .slice B5 lic.length d5) (by omega))
      have HQF := Lib.hid (show pm = qs.length ∧ RoomAt (((((w8.setCell ⟨w.heap.size + 1, 0, none⟩ (.slice B1 ps.length d1)).setCell ⟨w.heap.size + 1, 1, none⟩ (.slice B2 ns.length d2)).setCell ⟨w.heap.size + 1, 2, none⟩ (.slice B3 up.length d3)).setCell ⟨w.heap.size + 1, 3, none⟩ (.slice B4 pm d4)).setCell ⟨w.heap.size + 1, 4, none⟩ (.slice B5 lic.length d5)) ps ns up (qs, lic) (.agg #[.slice B1 ps.length d1, .slice B2 ns.length d2, .slice B3 up.length d3, .slice B4 pm d4, .slice B5 lic.length d5]) from by
        have hlq : qs.length = pm := by rw [← HMS.out]; exact HQV.out.1
        have h := HRT.out.at_; rw [HMS.out] at h; simp only [] at h; rw [hlq] at h; exact ⟨hlq.symm, h⟩)
      have HXF := Lib.hid ((EW.trans (hb.trans hb8)).five (b := w.heap.size + 1) (by omega) (.slice B1 ps.length d1) (.slice B2 ns.length d2) (.slice B3 up.length d3) (.slice B4 pm d4) (.slice B5 lic.length d5))
      clear t0 t1 t2 t3 t4 tf0 tf1 tf2 tf3 tf4 tl HQ HRO HBX HRS HRT hb hb8 HG
      go_wp2
      exact bodyPost_ret (v := .tuple #[.agg #[.slice B1 ps.length d1, .slice B2 ns.length d2, .slice B3 up.length d3, .slice B4 pm d4, .slice B5 lic.length d5], .bool true]) (by simp [results, Tryz.results7, go_sem, *]) rfl ⟨B1, ps.length, d1, B2, ns.length, d2, B3, up.length, d3, B4, pm, d4, B5, lic.length, d5, rfl, fun r hr => by injection hr with hr; subst hr; exact HQF.out, (fun h => by cases h), HXF.out⟩
end Go.Proofs.YtgmlcohffdeplaaGreat
/-! IRest -/
namespace Go.Proofs.YtgmlcohffdeplaaGreat
open Go.RowKit
set_option linter.unusedVariables false
theorem Rest1_run (vs : Array Value) (u : World) : Sem.run Tryz.prog (callFunc 37 vs) u = .ok (.enter 37 vs) u := by simp [go_sem]
set_option maxHeartbeats 1000000 in
theorem Rest1_c (x : Vec) (w : World) : Calls Tryz.prog 37 #[.agg #[.int .i64 x.A, .int .i64 x.B, .int .i64 x.C]] w (Ret w (.tuple #[.agg #[.int .i64 0, .int .i64 0, .int .i64 0], .bool true])) := by
  go_enter Tryz.func37, Tryz.ntmps37
  go_wp2
  exact ret_any (by simp [results, Tryz.results37, go_sem, *]) rfl rfl (by repeat (first | exact Ext.refl _ | apply Ext.alloc | (refine Ext.setCell ?_ (by simp) _)))
set_option maxHeartbeats 16000000 in
set_option maxRecDepth 10000 in
theorem Rest_c (ps : List Int) (ns : List Node) (up : List Bool) (pl : List (List Pt)) (lic : List Pt) (xs : List Window) (qs : List (List Pt)) (D : Option Addr) (q f : Nat) (v : Value) (w : World) (h : RoomAt w ps ns up (pl, lic) v) (hsm : roomSm ps ns up pl lic) (h3 : SlAt RWindow 3 w D q xs) (hl3 : q ≤ 1000) (hq : (roomB ps ns up pl lic && windowsB ps ns xs) = true → restL xs pl = some qs ∧ roomB ps ns up qs lic = true) : Calls Tryz.prog 10 #[v, .slice D q f] w (RetRestR w ps ns up lic (if (roomB ps ns up pl lic && windowsB ps ns xs) = true then some qs else none)) := by
  have HRO := Lib.hid (fun (u : World) (e : Ext w u) => RoomOkG_c ps ns up pl lic v u (h.ext e) hsm)
  have HRP := Lib.hid (fun (hr : roomB ps ns up pl lic = true) => show topoB ps ns = true ∧ up.length = ns.length ∧ roomOkM ns.length (pl, lic) from roomB_parts hr)
  have HCP := Lib.hid (fun (hr : roomB ps ns up pl lic = true) (u : World) (e : Ext w u) => by
    obtain ⟨ht, hu, hrm⟩ := roomB_parts hr
    obtain ⟨⟨_, hp1⟩, hn1, _⟩ := topo_parts ht
    have hpl := hrm.1
    simp only [] at hpl
    exact copyRoom_c ps ns up pl lic v u (h.ext e) hp1 hn1 (by omega) (by omega) (fun p hp => (profB_parts (hrm.2.1 p hp)).2.1) (profB_parts hrm.2.2).2.1)
  obtain ⟨A1, c1, A2, c2, A3, c3, A4, c4, A5, c5, rfl, h1, h2, _, _, _⟩ := h
  simp only [] at HRO HCP ⊢
  have HWO := Lib.hid (fun (u : World) (e : Ext w u) => WindowsOk_c ps ns xs A1 ps.length c1 A2 ns.length c2 D q f u (h1.ext (Flat.mono _ _) e) (by have := hsm.1.1; unfold maxLen; omega) (h2.ext (Flat.mono _ _) e) (by have := hsm.1.2.1; unfold maxLen; omega) (h3.ext RWindow.mono e) (by unfold maxLen; omega))
  have H3 := Lib.hid (fun (u : World) (e : Ext w u) => h3.ext RWindow.mono e)
  have HXL := Lib.hid h3.len
  have HWG := Lib.hid (fun (hw : windowsB ps ns xs = true) => win_good hw)
  clear h1 h2 h3 hsm
  rcases hrb : roomB ps ns up pl lic with _ | _
  · rw [hrb] at HRO
    rw [Bool.false_and, if_neg (by simp)]
    clear HRP HCP HWO HWG hq hrb
    generalize ps.length = np at *
    generalize ns.length = nn at *
    generalize up.length = nu at *
    generalize pl.length = m at *
    generalize lic.length = nl at *
    go_enter Tryz.func10, Tryz.ntmps10
    go_wp2_with fail
    refine (HRO.out _ (by repeat (first | exact Ext.refl _ | assumption | apply Ext.alloc | apply Ext.drewN | apply Ext.drew | (refine Ext.setCell ?_ (by first | (simp; done) | (simp; omega) | omega) _) | (refine Ext.trans ?_ (by assumption))))).mono ?_
    rintro e w1 ⟨rfl, hb1⟩
    obtain ⟨hcr1, hfr1, hz1⟩ := hb1.rules
    (try simp at hz1)
    have hy1_w0 : w.heap.size < w1.heap.size := (by omega)
    have hy1_w1 : w.heap.size + 1 < w1.heap.size := (by omega)
    have r0 := (hb1).cell (cell_box_at (w.alloc (.cells #[.slice A1 np c1, .slice A2 nn c2, .slice A3 nu c3, .slice A4 m c4, .slice A5 nl c5] 44)) (w.heap.size + 1) (by simp) [.slice none 0 0, .slice none 0 0, .slice none 0 0, .slice none 0 0, .slice none 0 0] 44 0 _ rfl)
    have r1 := (hb1).cell (cell_box_at (w.alloc (.cells #[.slice A1 np c1, .slice A2 nn c2, .slice A3 nu c3, .slice A4 m c4, .slice A5 nl c5] 44)) (w.heap.size + 1) (by simp) [.slice none 0 0, .slice none 0 0, .slice none 0 0, .slice none 0 0, .slice none 0 0] 44 1 _ rfl)
    have r2 := (hb1).cell (cell_box_at (w.alloc (.cells #[.slice A1 np c1, .slice A2 nn c2, .slice A3 nu c3, .slice A4 m c4, .slice A5 nl c5] 44)) (w.heap.size + 1) (by simp) [.slice none 0 0, .slice none 0 0, .slice none 0 0, .slice none 0 0, .slice none 0 0] 44 2 _ rfl)
    have r3 := (hb1).cell (cell_box_at (w.alloc (.cells #[.slice A1 np c1, .slice A2 nn c2, .slice A3 nu c3, .slice A4 m c4, .slice A5 nl c5] 44)) (w.heap.size + 1) (by simp) [.slice none 0 0, .slice none 0 0, .slice none 0 0, .slice none 0 0, .slice none 0 0] 44 3 _ rfl)
    have r4 := (hb1).cell (cell_box_at (w.alloc (.cells #[.slice A1 np c1, .slice A2 nn c2, .slice A3 nu c3, .slice A4 m c4, .slice A5 nl c5] 44)) (w.heap.size + 1) (by simp) [.slice none 0 0, .slice none 0 0, .slice none 0 0, .slice none 0 0, .slice none 0 0] 44 4 _ rfl)
    have rf0 := ((hb1).frozenEq (a := ⟨w.heap.size + 1, 0, none⟩) (by simp)).trans (frozen_box_at (w.alloc (.cells #[.slice A1 np c1, .slice A2 nn c2, .slice A3 nu c3, .slice A4 m c4, .slice A5 nl c5] 44)) (w.heap.size + 1) (by simp) #[.slice none 0 0, .slice none 0 0, .slice none 0 0, .slice none 0 0, .slice none 0 0] 44 0)
    have rf1 := ((hb1).frozenEq (a := ⟨w.heap.size + 1, 1, none⟩) (by simp)).trans (frozen_box_at (w.alloc (.cells #[.slice A1 np c1, .slice A2 nn c2, .slice A3 nu c3, .slice A4 m c4, .slice A5 nl c5] 44)) (w.heap.size + 1) (by simp) #[.slice none 0 0, .slice none 0 0, .slice none 0 0, .slice none 0 0, .slice none 0 0] 44 1)
    have rf2 := ((hb1).frozenEq (a := ⟨w.heap.size + 1, 2, none⟩) (by simp)).trans (frozen_box_at (w.alloc (.cells #[.slice A1 np c1, .slice A2 nn c2, .slice A3 nu c3, .slice A4 m c4, .slice A5 nl c5] 44)) (w.heap.size + 1) (by simp) #[.slice none 0 0, .slice none 0 0, .slice none 0 0, .slice none 0 0, .slice none 0 0] 44 2)
    have rf3 := ((hb1).frozenEq (a := ⟨w.heap.size + 1, 3, none⟩) (by simp)).trans (frozen_box_at (w.alloc (.cells #[.slice A1 np c1, .slice A2 nn c2, .slice A3 nu c3, .slice A4 m c4, .slice A5 nl c5] 44)) (w.heap.size + 1) (by simp) #[.slice none 0 0, .slice none 0 0, .slice none 0 0, .slice none 0 0, .slice none 0 0] 44 3)
    have rf4 := ((hb1).frozenEq (a := ⟨w.heap.size + 1, 4, none⟩) (by simp)).trans (frozen_box_at (w.alloc (.cells #[.slice A1 np c1, .slice A2 nn c2, .slice A3 nu c3, .slice A4 m c4, .slice A5 nl c5] 44)) (w.heap.size + 1) (by simp) #[.slice none 0 0, .slice none 0 0, .slice none 0 0, .slice none 0 0, .slice none 0 0] 44 4)
    have hrl := lt_of_cell r0
    have HXF := Lib.hid ((((Ext.refl w).alloc _).alloc _).trans hb1)
    clear hb1 hcr1 hfr1
    go_wp2
    exact bodyPost_ret (v := .tuple #[.agg #[.slice none 0 0, .slice none 0 0, .slice none 0 0, .slice none 0 0, .slice none 0 0], .bool false]) (by simp [results, Tryz.results10, go_sem, *]) rfl (retRest_none (HXF.out.five (by omega) _ _ _ _ _))
  rw [hrb] at HRO
  rcases hwb : windowsB ps ns xs with _ | _
  · rw [hwb] at HWO
    rw [Bool.true_and, if_neg (by simp)]
    clear HRP HCP HWG hq hrb hwb
    generalize ps.length = np at *
    generalize ns.length = nn at *
    generalize up.length = nu at *
    generalize pl.length = m at *
    generalize lic.length = nl at *
    go_enter Tryz.func10, Tryz.ntmps10
    go_wp2_with fail
    refine (HRO.out _ (by repeat (first | exact Ext.refl _ | assumption | apply Ext.alloc | apply Ext.drewN | apply Ext.drew | (refine Ext.setCell ?_ (by first | (simp; done) | (simp; omega) | omega) _) | (refine Ext.trans ?_ (by assumption))))).mono ?_
    rintro e w1 ⟨rfl, hb1⟩
    obtain ⟨hcr1, hfr1, hz1⟩ := hb1.rules
    (try simp at hz1)
    have hy1_w0 : w.heap.size < w1.heap.size := (by omega)
    have hy1_w1 : w.heap.size + 1 < w1.heap.size := (by omega)
    have q0 := (((Ext.refl _).alloc _).trans hb1).cell (cell_box_at w (w.heap.size) (by simp) [.slice A1 np c1, .slice A2 nn c2, .slice A3 nu c3, .slice A4 m c4, .slice A5 nl c5] 44 0 _ rfl)
    have q1 := (((Ext.refl _).alloc _).trans hb1).cell (cell_box_at w (w.heap.size) (by simp) [.slice A1 np c1, .slice A2 nn c2, .slice A3 nu c3, .slice A4 m c4, .slice A5 nl c5] 44 1 _ rfl)
    have q2 := (((Ext.refl _).alloc _).trans hb1).cell (cell_box_at w (w.heap.size) (by simp) [.slice A1 np c1, .slice A2 nn c2, .slice A3 nu c3, .slice A4 m c4, .slice A5 nl c5] 44 2 _ rfl)
    have q3 := (((Ext.refl _).alloc _).trans hb1).cell (cell_box_at w (w.heap.size) (by simp) [.slice A1 np c1, .slice A2 nn c2, .slice A3 nu c3, .slice A4 m c4, .slice A5 nl c5] 44 3 _ rfl)
    have q4 := (((Ext.refl _).alloc _).trans hb1).cell (cell_box_at w (w.heap.size) (by simp) [.slice A1 np c1, .slice A2 nn c2, .slice A3 nu c3, .slice A4 m c4, .slice A5 nl c5] 44 4 _ rfl)
    have qf0 := ((((Ext.refl _).alloc _).trans hb1).frozenEq (a := ⟨w.heap.size, 0, none⟩) (by simp)).trans (frozen_box_at w (w.heap.size) (by simp) #[.slice A1 np c1, .slice A2 nn c2, .slice A3 nu c3, .slice A4 m c4, .slice A5 nl c5] 44 0)
    have qf1 := ((((Ext.refl _).alloc _).trans hb1).frozenEq (a := ⟨w.heap.size, 1, none⟩) (by simp)).trans (frozen_box_at w (w.heap.size) (by simp) #[.slice A1 np c1, .slice A2 nn c2, .slice A3 nu c3, .slice A4 m c4, .slice A5 nl c5] 44 1)
    have qf2 := ((((Ext.refl _).alloc _).trans hb1).frozenEq (a := ⟨w.heap.size, 2, none⟩) (by simp)).trans (frozen_box_at w (w.heap.size) (by simp) #[.slice A1 np c1, .slice A2 nn c2, .slice A3 nu c3, .slice A4 m c4, .slice A5 nl c5] 44 2)
    have qf3 := ((((Ext.refl _).alloc _).trans hb1).frozenEq (a := ⟨w.heap.size, 3, none⟩) (by simp)).trans (frozen_box_at w (w.heap.size) (by simp) #[.slice A1 np c1, .slice A2 nn c2, .slice A3 nu c3, .slice A4 m c4, .slice A5 nl c5] 44 3)
    have qf4 := ((((Ext.refl _).alloc _).trans hb1).frozenEq (a := ⟨w.heap.size, 4, none⟩) (by simp)).trans (frozen_box_at w (w.heap.size) (by simp) #[.slice A1 np c1, .slice A2 nn c2, .slice A3 nu c3, .slice A4 m c4, .slice A5 nl c5] 44 4)
    have hql := lt_of_cell q0
    go_wp2_with fail
    refine (HWO.out _ ((((Ext.refl w).alloc _).alloc _).trans hb1)).mono ?_
    rintro e w2 ⟨rfl, hb2⟩
    have r0 := (hb1.trans hb2).cell (cell_box_at (w.alloc (.cells #[.slice A1 np c1, .slice A2 nn c2, .slice A3 nu c3, .slice A4 m c4, .slice A5 nl c5] 44)) (w.heap.size + 1) (by simp) [.slice none 0 0, .slice none 0 0, .slice none 0 0, .slice none 0 0, .slice none 0 0] 44 0 _ rfl)
    have r1 := (hb1.trans hb2).cell (cell_box_at (w.alloc (.cells #[.slice A1 np c1, .slice A2 nn c2, .slice A3 nu c3, .slice A4 m c4, .slice A5 nl c5] 44)) (w.heap.size + 1) (by simp) [.slice none 0 0, .slice none 0 0, .slice none 0 0, .slice none 0 0, .slice none 0 0] 44 1 _ rfl)
    have r2 := (hb1.trans hb2).cell (cell_box_at (w.alloc (.cells #[.slice A1 np c1, .slice A2 nn c2, .slice A3 nu c3, .slice A4 m c4, .slice A5 nl c5] 44)) (w.heap.size + 1) (by simp) [.slice none 0 0, .slice none 0 0, .slice none 0 0, .slice none 0 0, .slice none 0 0] 44 2 _ rfl)
    have r3 := (hb1.trans hb2).cell (cell_box_at (w.alloc (.cells #[.slice A1 np c1, .slice A2 nn c2, .slice A3 nu c3, .slice A4 m c4, .slice A5 nl c5] 44)) (w.heap.size + 1) (by simp) [.slice none 0 0, .slice none 0 0, .slice none 0 0, .slice none 0 0, .slice none 0 0] 44 3 _ rfl)
    have r4 := (hb1.trans hb2).cell (cell_box_at (w.alloc (.cells #[.slice A1 np c1, .slice A2 nn c2, .slice A3 nu c3, .slice A4 m c4, .slice A5 nl c5] 44)) (w.heap.size + 1) (by simp) [.slice none 0 0, .slice none 0 0, .slice none 0 0, .slice none 0 0, .slice none 0 0] 44 4 _ rfl)
    have rf0 := ((hb1.trans hb2).frozenEq (a := ⟨w.heap.size + 1, 0, none⟩) (by simp)).trans (frozen_box_at (w.alloc (.cells #[.slice A1 np c1, .slice A2 nn c2, .slice A3 nu c3, .slice A4 m c4, .slice A5 nl c5] 44)) (w.heap.size + 1) (by simp) #[.slice none 0 0, .slice none 0 0, .slice none 0 0, .slice none 0 0, .slice none 0 0] 44 0)
    have rf1 := ((hb1.trans hb2).frozenEq (a := ⟨w.heap.size + 1, 1, none⟩) (by simp)).trans (frozen_box_at (w.alloc (.cells #[.slice A1 np c1, .slice A2 nn c2, .slice A3 nu c3, .slice A4 m c4, .slice A5 nl c5] 44)) (w.heap.size + 1) (by simp) #[.slice none 0 0, .slice none 0 0, .slice none 0 0, .slice none 0 0, .slice none 0 0] 44 1)
    have rf2 := ((hb1.trans hb2).frozenEq (a := ⟨w.heap.size + 1, 2, none⟩) (by simp)).trans (frozen_box_at (w.alloc (.cells #[.slice A1 np c1, .slice A2 nn c2, .slice A3 nu c3, .slice A4 m c4, .slice A5 nl c5] 44)) (w.heap.size + 1) (by simp) #[.slice none 0 0, .slice none 0 0, .slice none 0 0, .slice none 0 0, .slice none 0 0] 44 2)
    have rf3 := ((hb1.trans hb2).frozenEq (a := ⟨w.heap.size + 1, 3, none⟩) (by simp)).trans (frozen_box_at (w.alloc (.cells #[.slice A1 np c1, .slice A2 nn c2, .slice A3 nu c3, .slice A4 m c4, .slice A5 nl c5] 44)) (w.heap.size + 1) (by simp) #[.slice none 0 0, .slice none 0 0, .slice none 0 0, .slice none 0 0, .slice none 0 0] 44 3)
    have rf4 := ((hb1.trans hb2).frozenEq (a := ⟨w.heap.size + 1, 4, none⟩) (by simp)).trans (frozen_box_at (w.alloc (.cells #[.slice A1 np c1, .slice A2 nn c2, .slice A3 nu c3, .slice A4 m c4, .slice A5 nl c5] 44)) (w.heap.size + 1) (by simp) #[.slice none 0 0, .slice none 0 0, .slice none 0 0, .slice none 0 0, .slice none 0 0] 44 4)
    have hrl := lt_of_cell r0
    have HXF := Lib.hid ((((Ext.refl w).alloc _).alloc _).trans (hb1.trans hb2))
    clear hb1 hb2 hcr1 hfr1 q0 q1 q2 q3 q4 qf0 qf1 qf2 qf3 qf4 hql
    go_wp2
    exact bodyPost_ret (v := .tuple #[.agg #[.slice none 0 0, .slice none 0 0, .slice none 0 0, .slice none 0 0, .slice none 0 0], .bool false]) (by simp [results, Tryz.results10, go_sem, *]) rfl (retRest_none (HXF.out.five (by omega) _ _ _ _ _))
  rw [hwb] at HWO
  rw [Bool.true_and, if_pos rfl]
  obtain ⟨hq1, hq2⟩ := hq (by rw [hrb, hwb]; rfl)
  obtain ⟨htb, hul, hrm⟩ := HRP.out hrb
  have HRL := Lib.hid hq1
  have HCC := Lib.hid (HCP.out hrb)
  have HWN := Lib.hid (HWG.out hwb)
  have HPV := Lib.hid (show pl.length = ns.length ∧ ∀ p ∈ pl, profB p = true from ⟨hrm.1, hrm.2.1⟩)
  clear HRP HCP HWG hq hrb hwb hq1 hq2 htb hul hrm
  go_enter Tryz.func10, Tryz.ntmps10
  go_wp2_with fail
  refine (HRO.out _ (by repeat (first | exact Ext.refl _ | assumption | apply Ext.alloc | apply Ext.drewN | apply Ext.drew | (refine Ext.setCell ?_ (by first | (simp; done) | (simp; omega) | omega) _) | (refine Ext.trans ?_ (by assumption))))).mono ?_
  rintro e w1 ⟨rfl, hb1⟩
  obtain ⟨hcr1, hfr1, hz1⟩ := hb1.rules
  (try simp at hz1)
  have hy1_w0 : w.heap.size < w1.heap.size := (by omega)
  have hy1_w1 : w.heap.size + 1 < w1.heap.size := (by omega)
  have q0 := (((Ext.refl _).alloc _).trans hb1).cell (cell_box_at w (w.heap.size) (by simp) [.slice A1 ps.length c1, .slice A2 ns.length c2, .slice A3 up.length c3, .slice A4 pl.length c4, .slice A5 lic.length c5] 44 0 _ rfl)
  have q1 := (((Ext.refl _).alloc _).trans hb1).cell (cell_box_at w (w.heap.size) (by simp) [.slice A1 ps.length c1, .slice A2 ns.length c2, .slice A3 up.length c3, .slice A4 pl.length c4, .slice A5 lic.length c5] 44 1 _ rfl)
  have q2 := (((Ext.refl _).alloc _).trans hb1).cell (cell_box_at w (w.heap.size) (by simp) [.slice A1 ps.length c1, .slice A2 ns.length c2, .slice A3 up.length c3, .slice A4 pl.length c4, .slice A5 lic.length c5] 44 2 _ rfl)
  have q3 := (((Ext.refl _).alloc _).trans hb1).cell (cell_box_at w (w.heap.size) (by simp) [.slice A1 ps.length c1, .slice A2 ns.length c2, .slice A3 up.length c3, .slice A4 pl.length c4, .slice A5 lic.length c5] 44 3 _ rfl)
  have q4 := (((Ext.refl _).alloc _).trans hb1).cell (cell_box_at w (w.heap.size) (by simp) [.slice A1 ps.length c1, .slice A2 ns.length c2, .slice A3 up.length c3, .slice A4 pl.length c4, .slice A5 lic.length c5] 44 4 _ rfl)
  have qf0 := ((((Ext.refl _).alloc _).trans hb1).frozenEq (a := ⟨w.heap.size, 0, none⟩) (by simp)).trans (frozen_box_at w (w.heap.size) (by simp) #[.slice A1 ps.length c1, .slice A2 ns.length c2, .slice A3 up.length c3, .slice A4 pl.length c4, .slice A5 lic.length c5] 44 0)
  have qf1 := ((((Ext.refl _).alloc _).trans hb1).frozenEq (a := ⟨w.heap.size, 1, none⟩) (by simp)).trans (frozen_box_at w (w.heap.size) (by simp) #[.slice A1 ps.length c1, .slice A2 ns.length c2, .slice A3 up.length c3, .slice A4 pl.length c4, .slice A5 lic.length c5] 44 1)
  have qf2 := ((((Ext.refl _).alloc _).trans hb1).frozenEq (a := ⟨w.heap.size, 2, none⟩) (by simp)).trans (frozen_box_at w (w.heap.size) (by simp) #[.slice A1 ps.length c1, .slice A2 ns.length c2, .slice A3 up.length c3, .slice A4 pl.length c4, .slice A5 lic.length c5] 44 2)
  have qf3 := ((((Ext.refl _).alloc _).trans hb1).frozenEq (a := ⟨w.heap.size, 3, none⟩) (by simp)).trans (frozen_box_at w (w.heap.size) (by simp) #[.slice A1 ps.length c1, .slice A2 ns.length c2, .slice A3 up.length c3, .slice A4 pl.length c4, .slice A5 lic.length c5] 44 3)
  have qf4 := ((((Ext.refl _).alloc _).trans hb1).frozenEq (a := ⟨w.heap.size, 4, none⟩) (by simp)).trans (frozen_box_at w (w.heap.size) (by simp) #[.slice A1 ps.length c1, .slice A2 ns.length c2, .slice A3 up.length c3, .slice A4 pl.length c4, .slice A5 lic.length c5] 44 4)
  have hql := lt_of_cell q0
  go_wp2_with fail
  refine (HWO.out _ ((((Ext.refl w).alloc _).alloc _).trans hb1)).mono ?_
  rintro e w2 ⟨rfl, hb2⟩
  have hb12 := hb1.trans hb2
  have z0 := hb2.cell q0
  have z1 := hb2.cell q1
  have z2 := hb2.cell q2
  have z3 := hb2.cell q3
  have z4 := hb2.cell q4
  have hzl := lt_of_cell z0
  clear hcr1 hfr1 q0 q1 q2 q3 q4 qf0 qf1 qf2 qf3 qf4 hql
  go_wp2_with fail
  refine (HCC.out _ ((((Ext.refl w).alloc _).alloc _).trans hb12)).mono ?_
  rintro e w5 ⟨B1, d1, B2, d2, B3, d3, B4, d4, B5, d5, rfl, hro, hb5⟩
  have HX5 := Lib.hid (show Ext ((w.alloc (.cells #[.slice A1 ps.length c1, .slice A2 ns.length c2, .slice A3 up.length c3, .slice A4 pl.length c4, .slice A5 lic.length c5] 44)).alloc (.cells #[.slice none 0 0, .slice none 0 0, .slice none 0 0, .slice none 0 0, .slice none 0 0] 44)) w5 from hb12.trans hb5)
  have hz2 : w.heap.size + 1 + 1 ≤ w2.heap.size := by have := hb12.le; simp at this; omega
  have hz5 := hb5.le
  have HR5 := Lib.hid (hro.base (lo' := w.heap.size + 1 + 1) hz2)
  have HB5 := Lib.hid (show (w5.alloc (.cells #[.slice B1 ps.length d1, .slice B2 ns.length d2, .slice B3 up.length d3, .slice B4 pl.length d4, .slice B5 lic.length d5] 44)).ownsRow (w.heap.size + 1 + 1) 44 5 (.slice (some ⟨w5.heap.size, 0, none⟩) 1 1) 1 [.slice B1 ps.length d1, .slice B2 ns.length d2, .slice B3 up.length d3, .slice B4 pl.length d4, .slice B5 lic.length d5] from owns_base (gbox w5 [.slice B1 ps.length d1, .slice B2 ns.length d2, .slice B3 up.length d3, .slice B4 pl.length d4, .slice B5 lic.length d5] 44 5 rfl) (by omega))
  have hzb : (w.heap.size + 1 + 1) ≤ w5.heap.size := by omega
  have EW : Ext w ((w.alloc (.cells #[.slice A1 ps.length c1, .slice A2 ns.length c2, .slice A3 up.length c3, .slice A4 pl.length c4, .slice A5 lic.length c5] 44)).alloc (.cells #[.slice none 0 0, .slice none 0 0, .slice none 0 0, .slice none 0 0, .slice none 0 0] 44)) := ((Ext.refl w).alloc _).alloc _
  have r0 := ((Ext.refl _)).cell (cell_box_at (w.alloc (.cells #[.slice A1 ps.length c1, .slice A2 ns.length c2, .slice A3 up.length c3, .slice A4 pl.length c4, .slice A5 lic.length c5] 44)) (w.heap.size + 1) (by simp) [.slice none 0 0, .slice none 0 0, .slice none 0 0, .slice none 0 0, .slice none 0 0] 44 0 _ rfl)
  have r1 := ((Ext.refl _)).cell (cell_box_at (w.alloc (.cells #[.slice A1 ps.length c1, .slice A2 ns.length c2, .slice A3 up.length c3, .slice A4 pl.length c4, .slice A5 lic.length c5] 44)) (w.heap.size + 1) (by simp) [.slice none 0 0, .slice none 0 0, .slice none 0 0, .slice none 0 0, .slice none 0 0] 44 1 _ rfl)
  have r2 := ((Ext.refl _)).cell (cell_box_at (w.alloc (.cells #[.slice A1 ps.length c1, .slice A2 ns.length c2, .slice A3 up.length c3, .slice A4 pl.length c4, .slice A5 lic.length c5] 44)) (w.heap.size + 1) (by simp) [.slice none 0 0, .slice none 0 0, .slice none 0 0, .slice none 0 0, .slice none 0 0] 44 2 _ rfl)
  have r3 := ((Ext.refl _)).cell (cell_box_at (w.alloc (.cells #[.slice A1 ps.length c1, .slice A2 ns.length c2, .slice A3 up.length c3, .slice A4 pl.length c4, .slice A5 lic.length c5] 44)) (w.heap.size + 1) (by simp) [.slice none 0 0, .slice none 0 0, .slice none 0 0, .slice none 0 0, .slice none 0 0] 44 3 _ rfl)
  have r4 := ((Ext.refl _)).cell (cell_box_at (w.alloc (.cells #[.slice A1 ps.length c1, .slice A2 ns.length c2, .slice A3 up.length c3, .slice A4 pl.length c4, .slice A5 lic.length c5] 44)) (w.heap.size + 1) (by simp) [.slice none 0 0, .slice none 0 0, .slice none 0 0, .slice none 0 0, .slice none 0 0] 44 4 _ rfl)
  have rf0 := (((Ext.refl _)).frozenEq (a := ⟨w.heap.size + 1, 0, none⟩) (by simp)).trans (frozen_box_at (w.alloc (.cells #[.slice A1 ps.length c1, .slice A2 ns.length c2, .slice A3 up.length c3, .slice A4 pl.length c4, .slice A5 lic.length c5] 44)) (w.heap.size + 1) (by simp) #[.slice none 0 0, .slice none 0 0, .slice none 0 0, .slice none 0 0, .slice none 0 0] 44 0)
  have rf1 := (((Ext.refl _)).frozenEq (a := ⟨w.heap.size + 1, 1, none⟩) (by simp)).trans (frozen_box_at (w.alloc (.cells #[.slice A1 ps.length c1, .slice A2 ns.length c2, .slice A3 up.length c3, .slice A4 pl.length c4, .slice A5 lic.length c5] 44)) (w.heap.size + 1) (by simp) #[.slice none 0 0, .slice none 0 0, .slice none 0 0, .slice none 0 0, .slice none 0 0] 44 1)
  have rf2 := (((Ext.refl _)).frozenEq (a := ⟨w.heap.size + 1, 2, none⟩) (by simp)).trans (frozen_box_at (w.alloc (.cells #[.slice A1 ps.length c1, .slice A2 ns.length c2, .slice A3 up.length c3, .slice A4 pl.length c4, .slice A5 lic.length c5] 44)) (w.heap.size + 1) (by simp) #[.slice none 0 0, .slice none 0 0, .slice none 0 0, .slice none 0 0, .slice none 0 0] 44 2)
  have rf3 := (((Ext.refl _)).frozenEq (a := ⟨w.heap.size + 1, 3, none⟩) (by simp)).trans (frozen_box_at (w.alloc (.cells #[.slice A1 ps.length c1, .slice A2 ns.length c2, .slice A3 up.length c3, .slice A4 pl.length c4, .slice A5 lic.length c5] 44)) (w.heap.size + 1) (by simp) #[.slice none 0 0, .slice none 0 0, .slice none 0 0, .slice none 0 0, .slice none 0 0] 44 3)
  have rf4 := (((Ext.refl _)).frozenEq (a := ⟨w.heap.size + 1, 4, none⟩) (by simp)).trans (frozen_box_at (w.alloc (.cells #[.slice A1 ps.length c1, .slice A2 ns.length c2, .slice A3 up.length c3, .slice A4 pl.length c4, .slice A5 lic.length c5] 44)) (w.heap.size + 1) (by simp) #[.slice none 0 0, .slice none 0 0, .slice none 0 0, .slice none 0 0, .slice none 0 0] 44 4)
  have HWS := Lib.hid (show ((w.alloc (.cells #[.slice A1 ps.length c1, .slice A2 ns.length c2, .slice A3 up.length c3, .slice A4 pl.length c4, .slice A5 lic.length c5] 44)).alloc (.cells #[.slice none 0 0, .slice none 0 0, .slice none 0 0, .slice none 0 0, .slice none 0 0] 44)).heap.size = w.heap.size + 1 + 1 by simp)
  clear hro hb1 hb2 hb12 hb5 z0 z1 z2 z3 z4 hzl HRO HWO HCC
  go_wp2
  generalize ((w.alloc (.cells #[.slice A1 ps.length c1, .slice A2 ns.length c2, .slice A3 up.length c3, .slice A4 pl.length c4, .slice A5 lic.length c5] 44)).alloc (.cells #[.slice none 0 0, .slice none 0 0, .slice none 0 0, .slice none 0 0, .slice none 0 0] 44)) = W at *
  have HRZ := Lib.hid (fun (u : World) (e : Ext W u) => show (u.cell? ⟨w.heap.size + 1, 0, none⟩ = some (.slice none 0 0) ∧ u.cell? ⟨w.heap.size + 1, 1, none⟩ = some (.slice none 0 0) ∧ u.cell? ⟨w.heap.size + 1, 2, none⟩ = some (.slice none 0 0) ∧ u.cell? ⟨w.heap.size + 1, 3, none⟩ = some (.slice none 0 0) ∧ u.cell? ⟨w.heap.size + 1, 4, none⟩ = some (.slice none 0 0)) ∧ u.frozen? ⟨w.heap.size + 1, 0, none⟩ = false ∧ u.frozen? ⟨w.heap.size + 1, 1, none⟩ = false ∧ u.frozen? ⟨w.heap.size + 1, 2, none⟩ = false ∧ u.frozen? ⟨w.heap.size + 1, 3, none⟩ = false ∧ u.frozen? ⟨w.heap.size + 1, 4, none⟩ = false from ⟨⟨e.cell r0, e.cell r1, e.cell r2, e.cell r3, e.cell r4⟩, (e.frozenEq (a := ⟨w.heap.size + 1, 0, none⟩) (lt_of_cell r0)).trans rf0, (e.frozenEq (a := ⟨w.heap.size + 1, 1, none⟩) (lt_of_cell r1)).trans rf1, (e.frozenEq (a := ⟨w.heap.size + 1, 2, none⟩) (lt_of_cell r2)).trans rf2, (e.frozenEq (a := ⟨w.heap.size + 1, 3, none⟩) (lt_of_cell r3)).trans rf3, (e.frozenEq (a := ⟨w.heap.size + 1, 4, none⟩) (lt_of_cell r4)).trans rf4⟩)
  clear r0 r1 r2 r3 r4 rf0 rf1 rf2 rf3 rf4
  generalize hbxx : w5.heap.size = bx at *
  have HBX5 := Lib.hid (show Ext W (w5.alloc (.cells #[.slice B1 ps.length d1, .slice B2 ns.length d2, .slice B3 up.length d3, .slice B4 pl.length d4, .slice B5 lic.length d5] 44)) from HX5.out.alloc _)
  have HR6 := Lib.hid (HR5.out.ext ((Ext.refl _).alloc (.cells #[.slice B1 ps.length d1, .slice B2 ns.length d2, .slice B3 up.length d3, .slice B4 pl.length d4, .slice B5 lic.length d5] 44)))
  generalize (w5.alloc (.cells #[.slice B1 ps.length d1, .slice B2 ns.length d2, .slice B3 up.length d3, .slice B4 pl.length d4, .slice B5 lic.length d5] 44)) = w6 at *
  clear HX5 HR5 hz5 hz2 hbxx
  have HPN := Lib.hid HPV.out.1
  generalize hpm : pl.length = pm at *
  have HPM := Lib.hid hpm
  clear hpm
  go_loopw [28] (fun iv wr => ∃ (k : Nat) (ql : List (List Pt)), k ≤ q ∧ iv = .int .i64 k ∧ Hid (restL (xs.drop k) ql = some qs) ∧ Hid (RoomO wr (w.heap.size + 1 + 1) ps ns up (ql, lic) B1 d1 B2 d2 B3 d3 B4 d4 B5 d5) ∧ Hid (ql.length = pm ∧ ∀ p ∈ ql, profB p = true) ∧ Hid (wr.ownsRow (w.heap.size + 1 + 1) 44 5 (.slice (some ⟨bx, 0, none⟩) 1 1) 1 [.slice B1 ps.length d1, .slice B2 ns.length d2, .slice B3 up.length d3, .slice B4 pm d4, .slice B5 lic.length d5]) ∧ Ext W wr) (fun iv _ => q - (intOf iv).toNat)
  case atStart => exact ⟨0, pl, Nat.zero_le _, rfl, HRL, HR6, Lib.hid ⟨HPM.out, HPV.out.2⟩, HB5, HBX5.out⟩
  case round =>
    clear HRL HR6 HB5 HBX5
    obtain ⟨k, ql, hk, rfl, HG, HRO, HQV, HBX, hb⟩ := hrel
    by_cases hlt : k < q
    · obtain ⟨bo, oo, x, cs, hD, hbw, hx, _, hc, hrw⟩ := (H3.out w (Ext.refl w)).at_ hlt
      subst hD
      obtain ⟨An, cn, rfl, hsn, hnm, hfi, hti⟩ := win_cells hrw
      have y0 := (EW.trans hb).cell (hc 0 _ rfl)
      have y1 := (EW.trans hb).cell (hc 1 _ rfl)
      have y2 := (EW.trans hb).cell (hc 2 _ rfl)
      simp only [Nat.add_zero] at y0
      have hyl := lt_of_cell y0
      have HGX := Lib.hid (HWN.out x (List.mem_of_getElem? hx))
      obtain ⟨ms, hm1, hm2⟩ := restL_step (by have h := HG.out; rw [drop_cons hx] at h; exact h)
      have HM1 := Lib.hid hm1
      have HM2 := Lib.hid hm2
      have HSN := Lib.hid (fun (u : World) (e : Ext w u) => hsn.ext (Flat.mono encInt In64) e)
      have hlw : (w.heap.size + 1 + 1) ≤ wr.heap.size := by have := (HBX.out.lt bx rfl).2; have := (HBX.out.lt bx rfl).1; omega
      clear hx hc hrw hsn hm1 hm2 hfi hti
      have HNL := Lib.hid (rfl : x.Nodes.length = x.Nodes.length)
      generalize hxn : x.Nodes.length = xn at *
      have HXN := Lib.hid hxn
      clear hxn HNL
      unfold maxLen at hnm
      have HBA := Lib.hid (owns_ext HBX.out ((Ext.refl wr).alloc (.cells #[.int .i64 x.From, .int .i64 x.To, .slice An xn cn] 73)))
      have HRA := Lib.hid (HRO.out.ext ((Ext.refl wr).alloc (.cells #[.int .i64 x.From, .int .i64 x.To, .slice An xn cn] 73)))
      have HVA := Lib.hid (owns_base (gbox wr [.int .i64 x.From, .int .i64 x.To, .slice An xn cn] 73 3 rfl) hlw)
      have hbx9 := (HBX.out.lt bx rfl).2
      obtain ⟨bv, hbv⟩ : ∃ bv, bv = wr.heap.size := ⟨_, rfl⟩
      have hbvx : bx ≠ bv := by omega
      have hkd : decide (k < q) = true := decide_eq_true hlt
      have hkd2 : decide ((k : Int) < (q : Int)) = true := by rw [decide_eq_true_iff]; omega
      rw [← hbv] at HVA
      clear HRO HBX HG
      obtain ⟨wo, rfl⟩ : ∃ wo, wo = wr := ⟨_, rfl⟩
      go_wp2
      rw [← hbv]
      clear hbv y0 y1 y2
      go_loopw [35] (fun jv wq => ∃ (j : Nat) (ql2 : List (List Pt)), j ≤ xn ∧ jv = .int .i64 j ∧ Hid (restN x.From x.To (x.Nodes.drop j) ql2 = some ms) ∧ Hid (RoomO wq (w.heap.size + 1 + 1) ps ns up (ql2, lic) B1 d1 B2 d2 B3 d3 B4 d4 B5 d5) ∧ Hid (ql2.length = pm ∧ ∀ p ∈ ql2, profB p = true) ∧ Hid (wq.ownsRow (w.heap.size + 1 + 1) 44 5 (.slice (some ⟨bx, 0, none⟩) 1 1) 1 [.slice B1 ps.length d1, .slice B2 ns.length d2, .slice B3 up.length d3, .slice B4 pm d4, .slice B5 lic.length d5]) ∧ Hid (wq.ownsRow (w.heap.size + 1 + 1) 73 3 (.slice (some ⟨bv, 0, none⟩) 1 1) 1 [.int .i64 x.From, .int .i64 x.To, .slice An xn cn]) ∧ Ext W wq) (fun jv _ => xn - (intOf jv).toNat)
      case atStart => exact ⟨0, ql, Nat.zero_le _, rfl, HM1, HRA, HQV, HBA, HVA, hb.alloc _⟩
      case round =>
        clear HM1 HRA HBA HVA HQV
        obtain ⟨j, ql2, hj, rfl, HG2, HRO, HQV, HBX, HVX, hb2⟩ := hrel
        by_cases hlt2 : j < xn
        · obtain ⟨bp, op, y, cs2, hD2, hbw2, hy, _, hc2, rfl, _⟩ := (HSN.out wr (EW.trans hb2)).at_ hlt2
          subst hD2
          have g0 := hc2 0 _ rfl
          simp only [Nat.mul_one, Nat.add_zero] at g0
          obtain ⟨hy0, hy1⟩ := HGX.out.1.2.2 y (List.mem_of_getElem? hy)
          obtain ⟨i, rfl⟩ := Int.eq_ofNat_of_zero_le hy0
          obtain ⟨p, hp⟩ : ∃ p, ql2[i]? = some p := ⟨_, List.getElem?_eq_getElem (by have := HQV.out.1; have := HPN.out; omega)⟩
          obtain ⟨o, ho, hro2⟩ := restN_step (by have h := HG2.out; rw [drop_cons hy] at h; exact h) rfl hp
          obtain ⟨gb, rfl, hg1, hg2⟩ := HRO.out.pro.form (by have := HQV.out.1; have := HPN.out; simp only []; omega)
          obtain ⟨Ap, cp, hcell, hsp, hfz, _, _⟩ := HRO.out.pro.get hp
          have HPX := Lib.hid (HQV.out.2 p (List.mem_of_getElem? hp))
          have HND := Lib.hid (fun (u : World) (e : Ext wr u) => show Calls Tryz.prog 36 #[.agg #[.slice Ap p.length cp], .int .i64 x.From, .int .i64 x.To, .func (.func 37) #[] #[]] u (RetP u (takeG p x.From x.To restG)) from changed_c p x.From x.To (fun _ => ⟨0, 0, 0⟩) (fun _ => true) 37 #[] Ap p.length cp u (hsp.ext (Flat.mono _ _) e) HPX.out HGX.out.2 (fun _ _ _ => by decide) Rest1_run (fun x u _ => Rest1_c x u))
          rw [ho] at HND
          have HOV := Lib.hid (rest_valid HPX.out HGX.out.1.1 ho)
          have HG3 := Lib.hid hro2
          have HCELL := Lib.hid hcell
          have HFZ := Lib.hid hfz
          have hil2 : i < pm := by have := HPN.out; omega
          have hil : (i : Int) < (pm : Int) := by omega
          have HII := Lib.hid (show i < ql2.length by have h1 := HQV.out.1; omega)
          have hgx : gb ≠ bx := fun e => by
            obtain ⟨_, L, hL, _⟩ := HRO.out.pro
            subst e; exact g_apart hL HBX.out (by decide) _ rfl rfl
          obtain ⟨_, L0, hL0, _⟩ := HRO.out.pro
          have HLL := Lib.hid hL0
          have t3 := (gcells5 HBX.out).2.2.2.1
          have hbl := (HBX.out.lt bx rfl).2
          have v0 : wr.cell? ⟨bv, 0, none⟩ = some (.int .i64 x.From) := by rw [HVX.out.cellAt 0 (by omega)]; rfl
          have v1 : wr.cell? ⟨bv, 1, none⟩ = some (.int .i64 x.To) := by rw [HVX.out.cellAt 1 (by omega)]; rfl
          have v2 : wr.cell? ⟨bv, 2, none⟩ = some (.slice (some ⟨bp, op, none⟩) xn cn) := by rw [HVX.out.cellAt 2 (by omega)]; rfl
          have hvl : bv < wr.heap.size := lt_of_cell v0
          clear hy hc2 hp hsp ho hro2 hcell hfz hL0
          have c3 := HCELL.out
          have f3 := HFZ.out
          go_upto_region 10 with fail
          have HLW := Lib.hid (show (w.heap.size + 1 + 1) ≤ wr.heap.size from Nat.le_trans (HBX.out.lt bx rfl).1 (Nat.le_of_lt hbl))
          have HKS := Lib.hid (fun (u : World) (e : Ext wr u) => show Ext wr u ∧ u.cell? ⟨bx, 3, none⟩ = some (.slice (some ⟨gb, 0, none⟩) pm d4) ∧ u.cell? ⟨gb, i, none⟩ = some (.slice Ap p.length cp) ∧ u.cell? ⟨bv, 0, none⟩ = some (.int .i64 x.From) ∧ u.cell? ⟨bv, 1, none⟩ = some (.int .i64 x.To) from ⟨e, e.cell t3, e.cell HCELL.out, e.cell v0, e.cell v1⟩)
          go_cut [11, 12, 35] from 35 to 60 (fun s11 s12 s35 wx => ∃ bz A6 c6, s11 = .pointer (some ⟨bz, 0, none⟩) ∧ s12 = .bool true ∧ s35 = .int .i64 (j : Int) ∧ wr.heap.size ≤ bz ∧ Hid (wx.ownsRow (w.heap.size + 1 + 1) 107 4 (.slice A6 o.length c6) o.length (o.flatMap Pt.enc) ∧ ∀ y ∈ o, y.ok) ∧ Hid (wx.ownsRow wr.heap.size 42 1 (.slice (some ⟨bz, 0, none⟩) 1 1) 1 [.slice A6 o.length c6]) ∧ Ext wr wx)
          case first =>
            go_region_held3 (fun u => Ext wr u ∧ u.cell? ⟨bx, 3, none⟩ = some (.slice (some ⟨gb, 0, none⟩) pm d4) ∧ u.cell? ⟨gb, i, none⟩ = some (.slice Ap p.length cp) ∧ u.cell? ⟨bv, 0, none⟩ = some (.int .i64 x.From) ∧ u.cell? ⟨bv, 1, none⟩ = some (.int .i64 x.To)) ((refine HKS.out _ ?_; first | exact (Ext.refl _).drew | assumption | exact ((Ext.refl _).drew).alloc _ | exact HE6.out | exact HE6.out.alloc _ | exact HE6.out.setCell (Nat.le_refl _) _)) ((go_at_call 36; (with_reducible refine (HND.out _ (by repeat (first | exact Ext.refl _ | apply Ext.alloc | apply Ext.drew))).mono ?_); rintro e w6 ⟨A6, c6, l, rfl, hR6, ho6, hy6, hb6⟩; have HE6 := Lib.hid (show Ext wr w6 from Ext.trans (by repeat (first | exact Ext.refl _ | apply Ext.alloc | apply Ext.drew)) hb6); have hl6 := HE6.out.le; obtain rfl : l = o := (by rcases hR6 with h6 | ⟨h6, _⟩; (injection h6 with h6; exact h6.symm); (cases h6)); have HO6 := Lib.hid (owns_base ho6 (show (w.heap.size + 1 + 1) ≤ _ from Nat.le_trans HLW.out (by first | exact Nat.le_refl _ | (simp; done) | exact Nat.le_succ _))); (first | (have HB6 := Lib.hid (owns_ext (gbox wr [.slice none 0 0] 42 1 rfl) hb6); obtain ⟨m0, mf0, ml0⟩ := gcells1 HB6.out) | (have HB6 := Lib.hid (owns_ext (gbox wr [.slice none 0 0] 42 1 rfl) (((Ext.refl _).drew).trans hb6)); obtain ⟨m0, mf0, ml0⟩ := gcells1 HB6.out) | skip); clear hR6 ho6))
            all_goals
              go_wp2_with fail
              go_meet
              first
                | exact ⟨_, A6, c6, rfl, rfl, rfl, by first | omega | (simp; omega), Lib.hid ⟨owns_ext HO6.out ((Ext.refl _).alloc _), hy6⟩, Lib.hid (owns_base (gbox w6 [.slice A6 l.length c6] 42 1 rfl) hl6), HE6.out.alloc _⟩
                | exact ⟨_, A6, c6, rfl, rfl, rfl, Nat.le_refl _, Lib.hid ⟨g_far HO6.out (fun e => g_apart HO6.out HB6.out (by decide) _ e rfl), hy6⟩, Lib.hid (HB6.out.stored 0 _).1, HE6.out.setCell (Nat.le_refl _) _⟩
          case rest =>
            obtain ⟨bz, A6, c6, rfl, rfl, rfl, hbz, HFT, HFB, hx7⟩ := hcut
            have HE7 := Lib.hid hx7
            have hbz1 : bx ≠ bz := by omega
            have hbz2 : gb ≠ bz := by omega
            obtain ⟨m0, mf0, ml0⟩ := gcells1 HFB.out
            have c7 := HE7.out.cell HCELL.out
            have f7 := (HE7.out.frozenEq (a := ⟨gb, i, none⟩) hg2).trans HFZ.out
            have t7 := HE7.out.cell t3
            have l7 : bx < wc.heap.size := lt_of_cell t7
            have m7 : gb < wc.heap.size := lt_of_cell c7
            have HRS := Lib.hid ((HRO.out.ext HE7.out).setp HII.out HFT.out.1 HFT.out.2)
            have HBS := Lib.hid ((HRO.out.ext HE7.out).box_far (i := i) (u := .slice A6 o.length c6) (owns_ext HBX.out HE7.out))
            have HVS := Lib.hid (g_far (g := gb) (p := i) (u := .slice A6 o.length c6) (owns_ext HVX.out HE7.out) (fun e => g_apart HVX.out HLL.out (by decide) _ e rfl))
            have HXS := Lib.hid ((hb2.trans HE7.out).setCell (p := ⟨gb, i, none⟩) (by rw [HWS.out]; exact hg1) (.slice A6 o.length c6))
            clear c3 f3 t3 v0 v1 v2 HRO HBX HVX HE7 HND HCELL HFZ HLL HKS HFT HFB
            go_wp2
            go_roundw
            case rel => exact ⟨j + 1, ql2.set i o, by omega, by go_num, HG3, HRS, Lib.hid ⟨by rw [List.length_set]; exact HQV.out.1, fun q hq => (List.mem_or_eq_of_mem_set hq).elim (HQV.out.2 q) (fun e => by rw [e]; exact HOV.out)⟩, HBS, HVS, HXS.out⟩
            case measure => simp [intOf]; omega
        · obtain rfl : j = xn := by omega
          have HMS := Lib.hid (show ql2 = ms from by have h := HG2.out; rw [List.drop_eq_nil_of_le (by have := HXN.out; omega)] at h; injection h)
          go_wp2
          go_roundw
          case rel => exact ⟨k + 1, ql2, by omega, by go_num, Lib.hid (by rw [HMS.out]; exact HM2.out), HRO, HQV, HBX, hb2⟩
          case measure => simp [intOf]; omega
    · obtain rfl : k = q := by omega
      have HMS := Lib.hid (show ql = qs from by have h := HG.out; rw [List.drop_eq_nil_of_le (by have := HXL.out; omega)] at h; injection h)
      obtain ⟨t0, t1, t2, t3, t4, tf0, tf1, tf2, tf3, tf4, tl⟩ := gcells5 HBX.out
      have HQ := Lib.hid (show RoomAt wr ps ns up (qs, lic) (.agg #[.slice B1 ps.length d1, .slice B2 ns.length d2, .slice B3 up.length d3, .slice B4 pm d4, .slice B5 lic.length d5]) from by
        have h := HRO.out.at_; rw [HMS.out] at h; simp only [] at h; rw [show qs.length = pm by rw [← HMS.out]; exact HQV.out.1] at h; exact h)
      have hb8 := Ext.refl wr
      have HRS := Lib.hid (HRO.out.ext hb8)
      obtain ⟨u0, u1, u2, u3, u4, uf0, uf1, uf2, uf3, uf4, ul⟩ := gcells5 (owns_ext HBX.out hb8)
      obtain ⟨⟨r0, r1, r2, r3, r4⟩, rf0, rf1, rf2, rf3, rf4⟩ := HRZ.out wr (hb.trans hb8)
      have hrl := lt_of_cell r0
      have hne : w.heap.size + 1 ≠ bx := by have := (HBX.out.lt bx rfl).1; omega
      have HRT := Lib.hid (((((HRS.out.low (b := w.heap.size + 1) (p := 0) (u := .slice B1 ps.length d1) (by omega)).low (b := w.heap.size + 1) (p := 1) (u := .slice B2 ns.length d2) (by omega)).low (b := w.heap.size + 1) (p := 2) (u := .slice B3 up.length d3) (by omega)).low (b := w.heap.size + 1) (p := 3) (u := .slice B4 pm d4) (by omega)).low (b := w.heap.size + 1) (p := 4) (u := .slice B5 lic.length d5) (by omega))
      have HQF := Lib.hid (show pm = qs.length ∧ RoomAt (((((wr.setCell ⟨w.heap.size + 1, 0, none⟩ (.slice B1 ps.length d1)).setCell ⟨w.heap.size + 1, 1, none⟩ (.slice B2 ns.length d2)).setCell ⟨w.heap.size + 1, 2, none⟩ (.slice B3 up.length d3)).setCell ⟨w.heap.size + 1, 3, none⟩ (.slice B4 pm d4)).setCell ⟨w.heap.size + 1, 4, none⟩ (.slice B5 lic.length d5)) ps ns up (qs, lic) (.agg #[.slice B1 ps.length d1, .slice B2 ns.length d2, .slice B3 up.length d3, .slice B4 pm d4, .slice B5 lic.length d5]) from by
        have hlq : qs.length = pm := by rw [← HMS.out]; exact HQV.out.1
        have h := HRT.out.at_; rw [HMS.out] at h; simp only [] at h; rw [hlq] at h; exact ⟨hlq.symm, h⟩)
      have HXF := Lib.hid ((EW.trans (hb.trans hb8)).five (b := w.heap.size + 1) (by omega) (.slice B1 ps.length d1) (.slice B2 ns.length d2) (.slice B3 up.length d3) (.slice B4 pm d4) (.slice B5 lic.length d5))
      clear t0 t1 t2 t3 t4 tf0 tf1 tf2 tf3 tf4 tl HQ HRO HBX HRS HRT hb hb8 HG
      go_wp2
      exact bodyPost_ret (v := .tuple #[.agg #[.slice B1 ps.length d1, .slice B2 ns.length d2, .slice B3 up.length d3, .slice B4 pm d4, .slice B5 lic.length d5], .bool true]) (by simp [results, Tryz.results10, go_sem, *]) rfl ⟨B1, ps.length, d1, B2, ns.length, d2, B3, up.length, d3, B4, pm, d4, B5, lic.length, d5, rfl, fun r hr => by injection hr with hr; subst hr; exact HQF.out, (fun h => by cases h), HXF.out⟩
end Go.Proofs.YtgmlcohffdeplaaGreat
/-! ProfAtI -/
namespace Go.Proofs.YtgmlcohffdeplaaGreat
open Go.RowKit
set_option linter.unusedVariables false
set_option maxHeartbeats 2000000 in
theorem ProfAt_c (xs : List Pt) (t : Int) (A : Option Addr) (n c : Nat) (w : World) (h : SlAt RPt 4 w A n xs) (hp : profB xs = true) (ht : timeB t = true) : Calls Tryz.prog 17 #[.agg #[.slice A n c], .int .i64 t] w (Ret w (.agg #[.int .i64 (freeAt xs t).A, .int .i64 (freeAt xs t).B, .int .i64 (freeAt xs t).C])) := by
  have hl : n ≤ maxLen := by have h1 := (profB_parts hp).2.1; rw [h.len] at h1; unfold maxLen; omega
  have HP := Lib.hid (fun (u : World) (e : Ext w u) => ProfOk_c xs A n c u (h.ext (Flat.mono _ _) e) hl)
  rw [hp] at HP
  have HT := Lib.hid (fun u : World => isTime_c t u)
  rw [ht] at HT
  have HF := Lib.hid (fun (u : World) (e : Ext w u) => free_c xs t A n c u (h.ext (Flat.mono _ _) e) hl)
  clear h hp ht hl
  generalize freeAt xs t = y at *
  go_enter Tryz.func17, Tryz.ntmps17
  go_wp2_with fail
  refine (HP.out _ (by repeat (first | exact Ext.refl _ | assumption | apply Ext.alloc | apply Ext.drewN | apply Ext.drew | (refine Ext.setCell ?_ (by first | (simp; done) | (simp; omega) | omega) _) | (refine Ext.trans ?_ (by assumption))))).mono ?_
  rintro e w1 ⟨rfl, hb1⟩
  obtain ⟨hcr1, hfr1, hz1⟩ := hb1.rules
  (try simp at hz1)
  have hy1_w0 : w.heap.size < w1.heap.size := (by omega)
  have hy1_w1 : w.heap.size + 1 < w1.heap.size := (by omega)
  go_wp2_with fail
  refine (HT.out _).mono ?_
  rintro e w2 ⟨rfl, rfl⟩
  have q0 := (((Ext.refl _).alloc _).trans hb1).cell (cell_box_at w (w.heap.size) (by simp) [.slice A n c] 42 0 _ rfl)
  have qf0 := ((((Ext.refl _).alloc _).trans hb1).frozenEq (a := ⟨w.heap.size, 0, none⟩) (by simp)).trans (frozen_box_at w (w.heap.size) (by simp) #[.slice A n c] 42 0)
  have hql := lt_of_cell q0
  go_wp2_with fail
  refine (HF.out _ ((((Ext.refl w).alloc _).alloc _).trans hb1)).mono ?_
  rintro e w3 ⟨rfl, hb3⟩
  have z0 := (hb1.trans hb3).cell (cell_box_at (w.alloc (.cells #[.slice A n c] 42)) (w.heap.size + 1) (by simp) [.int .i64 0, .int .i64 0, .int .i64 0] 59 0 _ rfl)
  have z1 := (hb1.trans hb3).cell (cell_box_at (w.alloc (.cells #[.slice A n c] 42)) (w.heap.size + 1) (by simp) [.int .i64 0, .int .i64 0, .int .i64 0] 59 1 _ rfl)
  have z2 := (hb1.trans hb3).cell (cell_box_at (w.alloc (.cells #[.slice A n c] 42)) (w.heap.size + 1) (by simp) [.int .i64 0, .int .i64 0, .int .i64 0] 59 2 _ rfl)
  have zf0 := ((hb1.trans hb3).frozenEq (a := ⟨w.heap.size + 1, 0, none⟩) (by simp)).trans (frozen_box_at (w.alloc (.cells #[.slice A n c] 42)) (w.heap.size + 1) (by simp) #[.int .i64 0, .int .i64 0, .int .i64 0] 59 0)
  have zf1 := ((hb1.trans hb3).frozenEq (a := ⟨w.heap.size + 1, 1, none⟩) (by simp)).trans (frozen_box_at (w.alloc (.cells #[.slice A n c] 42)) (w.heap.size + 1) (by simp) #[.int .i64 0, .int .i64 0, .int .i64 0] 59 1)
  have zf2 := ((hb1.trans hb3).frozenEq (a := ⟨w.heap.size + 1, 2, none⟩) (by simp)).trans (frozen_box_at (w.alloc (.cells #[.slice A n c] 42)) (w.heap.size + 1) (by simp) #[.int .i64 0, .int .i64 0, .int .i64 0] 59 2)
  have hzl := lt_of_cell z0
  have HX := Lib.hid ((((Ext.refl w).alloc _).alloc _).trans (hb1.trans hb3))
  clear hb1 hb3 q0 qf0 hcr1 hfr1
  go_wp2
  exact ret_any (by simp [results, Tryz.results17, go_sem, *]) rfl rfl (((HX.out.setCell (by simp) _).setCell (by simp) _).setCell (by simp) _)
end Go.Proofs.YtgmlcohffdeplaaGreat
/-! WFnRest -/
namespace Go.Proofs.YtgmlcohffdeplaaGreat
open Go.RowKit
set_option linter.unusedVariables false
attribute [local go_sem ↓] run_vec_eq run_vec_guard run_vec_ne
theorem rest_all {ps : List Int} {ns : List Node} {up : List Bool} {pl : List (List Pt)} {lic : List Pt} {xs : List Window} (h : (roomB ps ns up pl lic && windowsB ps ns xs) = true) (hx : xs.length ≤ 3) (hp : ∀ p ∈ pl, p.length ≤ 14) : ∃ qs, restL xs pl = some qs ∧ roomB ps ns up qs lic = true ∧ qs.length = pl.length ∧ (∀ q ∈ qs, profB q = true) ∧ ∀ (i : Nat) (p q : List Pt), pl[i]? = some p → qs[i]? = some q → ∀ t : Int, 0 ≤ t → freeAt q t = if restingB xs i t = true then ⟨0, 0, 0⟩ else freeAt p t := by
  rw [Bool.and_eq_true] at h
  obtain ⟨h1, h2⟩ := h
  obtain ⟨ht, hu, hm, hv, hl⟩ := roomB_parts h1
  simp only [] at hm hv hl
  obtain ⟨qs, e1, e2, e3, e4⟩ := restL_ok (m := ns.length) xs 14 pl (fun x hx => (win_good h2 x hx).1) hm (fun p hpm => ⟨hv p hpm, hp p hpm⟩) (by omega)
  refine ⟨qs, e1, ?_, by rw [e2, hm], fun q hq => (e3 q hq).1, fun i p q h5 h6 t ht0 => by rw [restsB_at]; exact e4 i p q h5 h6 t ht0⟩
  rw [roomB_rest ht hu e2, hl, Bool.and_true, List.all_eq_true]
  exact fun q hq => (e3 q hq).1
set_option maxHeartbeats 8000000 in
set_option maxRecDepth 20000 in
theorem FnRest_c (w : World) (A0 : Option Addr) (n0 c0 : Nat) (x0 : List Int) (h0 : SlAt RU8 1 w A0 n0 x0) (hn0 : n0 ≤ maxLen) : Calls Tryz.prog 4 #[.slice A0 n0 c0] w (Ret w (.bool true)) := by
  unfold maxLen at hn0
  by_cases hbig : 1048576 < n0
  · clear h0
    go_enter Tryz.func4, Tryz.ntmps4
    go_wp2
    exact ret_bool rfl rfl rfl rfl (Ext.refl _)
  have HD := Lib.hid (DrawRest_c x0 A0 n0 c0 w h0 (by omega))
  clear h0
  go_enter Tryz.func4, Tryz.ntmps4
  go_wp2_with fail
  refine HD.out.mono ?_
  rintro e w1 ⟨A1, c1, A2, c2, A3, c3, A4, c4, A5, c5, ps, ns, up, pl, lic, D, fc, xs, rfl, hra, hsx, ⟨l1, l2, l3, l4⟩, hpp, l5, l6, l7, hb1⟩
  have hsm : roomSm ps ns up pl lic := ⟨⟨by omega, by omega, by omega⟩, by omega, by omega, fun p hp => by have := hpp p hp; omega⟩
  obtain ⟨cond, hcond⟩ : ∃ b, b = (roomB ps ns up pl lic && windowsB ps ns xs) := ⟨_, rfl⟩
  obtain ⟨qs, hqs⟩ : ∃ qs, cond = true → restL xs pl = some qs ∧ roomB ps ns up qs lic = true ∧ qs.length = pl.length ∧ (∀ q ∈ qs, profB q = true) ∧ ∀ (i : Nat) (p q : List Pt), pl[i]? = some p → qs[i]? = some q → ∀ t : Int, 0 ≤ t → freeAt q t = if restingB xs i t = true then ⟨0, 0, 0⟩ else freeAt p t := by
    cases hc : cond with
    | false => exact ⟨[], fun h => by cases h⟩
    | true =>
      obtain ⟨qs, h⟩ := rest_all (hcond ▸ hc) l6 hpp
      exact ⟨qs, fun _ => h⟩
  have HRI := Lib.hid (fun (u : World) (e : Ext w1 u) => Rest_c ps ns up pl lic xs qs D xs.length fc _ u (hra.ext e) hsm (hsx.ext RWindow.mono e) (by omega) (fun h => ⟨(hqs (hcond.trans h)).1, (hqs (hcond.trans h)).2.1⟩))
  have HRS := Lib.hid (fun (u : World) (e : Ext w1 u) => sRest_c ps ns up pl lic xs qs D xs.length fc _ u (hra.ext e) hsm (hsx.ext RWindow.mono e) (by omega) (fun h => ⟨(hqs (hcond.trans h)).1, (hqs (hcond.trans h)).2.1⟩))
  rw [← hcond] at HRI HRS
  have HRT := Lib.hid (fun (v t : Int) (u : World) (e : Ext w1 u) => Resting_c xs v t D xs.length fc u (hsx.ext RWindow.mono e) (by unfold maxLen; omega))
  have HB1 := Lib.hid hb1
  have HQS := Lib.hid hqs
  have HRA := Lib.hid (fun (u : World) (e : Ext w1 u) => hra.ext e)
  have HRB := Lib.hid (fun (hc : cond = true) => show (∀ p ∈ pl, profB p = true) from by
    rw [hcond, Bool.and_eq_true] at hc
    exact (roomB_parts hc.1).2.2.2.1)
  clear hra hsx hqs hcond hsm hpp hb1 HD
  have HBOX := Lib.hid (fun (u : World) (e : Ext (w1.alloc (.cells #[.slice A1 ps.length c1, .slice A2 ns.length c2, .slice A3 up.length c3, .slice A4 pl.length c4, .slice A5 lic.length c5] 44)) u) => show u.cell? ⟨w1.heap.size, 0, none⟩ = some (.slice A1 ps.length c1) ∧ u.cell? ⟨w1.heap.size, 1, none⟩ = some (.slice A2 ns.length c2) ∧ u.cell? ⟨w1.heap.size, 2, none⟩ = some (.slice A3 up.length c3) ∧ u.cell? ⟨w1.heap.size, 3, none⟩ = some (.slice A4 pl.length c4) ∧ u.cell? ⟨w1.heap.size, 4, none⟩ = some (.slice A5 lic.length c5) from ⟨e.cell (law_box w1 [.slice A1 ps.length c1, .slice A2 ns.length c2, .slice A3 up.length c3, .slice A4 pl.length c4, .slice A5 lic.length c5] 44 0 _ rfl), e.cell (law_box w1 [.slice A1 ps.length c1, .slice A2 ns.length c2, .slice A3 up.length c3, .slice A4 pl.length c4, .slice A5 lic.length c5] 44 1 _ rfl), e.cell (law_box w1 [.slice A1 ps.length c1, .slice A2 ns.length c2, .slice A3 up.length c3, .slice A4 pl.length c4, .slice A5 lic.length c5] 44 2 _ rfl), e.cell (law_box w1 [.slice A1 ps.length c1, .slice A2 ns.length c2, .slice A3 up.length c3, .slice A4 pl.length c4, .slice A5 lic.length c5] 44 3 _ rfl), e.cell (law_box w1 [.slice A1 ps.length c1, .slice A2 ns.length c2, .slice A3 up.length c3, .slice A4 pl.length c4, .slice A5 lic.length c5] 44 4 _ rfl)⟩)
  have HE := Lib.hid ((Ext.refl w1).alloc (.cells #[.slice A1 ps.length c1, .slice A2 ns.length c2, .slice A3 up.length c3, .slice A4 pl.length c4, .slice A5 lic.length c5] 44))
  rcases cond with _ | _
  · have HRI := Lib.hid (fun u e => HRI.out u e)
    have HRS := Lib.hid (fun u e => HRS.out u e)
    simp only [Bool.false_eq_true, if_false] at HRI HRS
    go_wp2_with fail
    refine (HRI.out _ HE.out).mono ?_
    rintro e w2 ⟨E1, n1, e1, E2, n2, e2, E3, n3, e3, E4, n4, e4, E5, n5, e5, rfl, hR2, hN2, hb2⟩
    have HR2 := Lib.hid hR2
    have HN2 := Lib.hid hN2
    clear hR2 hN2
    obtain ⟨p0, p1, p2, p3, p4⟩ := HBOX.out _ hb2
    have hlp := lt_of_cell p0
    have HE2 := Lib.hid hb2
    have HBX2 := Lib.hid (fun (u : World) (e : Ext (w2.alloc (.cells #[.slice E1 n1 e1, .slice E2 n2 e2, .slice E3 n3 e3, .slice E4 n4 e4, .slice E5 n5 e5] 44)) u) => show u.cell? ⟨w2.heap.size, 0, none⟩ = some (.slice E1 n1 e1) ∧ u.cell? ⟨w2.heap.size, 1, none⟩ = some (.slice E2 n2 e2) ∧ u.cell? ⟨w2.heap.size, 2, none⟩ = some (.slice E3 n3 e3) ∧ u.cell? ⟨w2.heap.size, 3, none⟩ = some (.slice E4 n4 e4) ∧ u.cell? ⟨w2.heap.size, 4, none⟩ = some (.slice E5 n5 e5) from ⟨e.cell (law_box w2 [.slice E1 n1 e1, .slice E2 n2 e2, .slice E3 n3 e3, .slice E4 n4 e4, .slice E5 n5 e5] 44 0 _ rfl), e.cell (law_box w2 [.slice E1 n1 e1, .slice E2 n2 e2, .slice E3 n3 e3, .slice E4 n4 e4, .slice E5 n5 e5] 44 1 _ rfl), e.cell (law_box w2 [.slice E1 n1 e1, .slice E2 n2 e2, .slice E3 n3 e3, .slice E4 n4 e4, .slice E5 n5 e5] 44 2 _ rfl), e.cell (law_box w2 [.slice E1 n1 e1, .slice E2 n2 e2, .slice E3 n3 e3, .slice E4 n4 e4, .slice E5 n5 e5] 44 3 _ rfl), e.cell (law_box w2 [.slice E1 n1 e1, .slice E2 n2 e2, .slice E3 n3 e3, .slice E4 n4 e4, .slice E5 n5 e5] 44 4 _ rfl)⟩)
    clear hb2
    go_wp2_with fail
    refine (HRS.out _ (HE.out.trans (HE2.out.alloc _))).mono ?_
    rintro e w3 ⟨F1, m1, f1, F2, m2, f2, F3, m3, f3, F4, m4, f4, F5, m5, f5, rfl, hzz1, hzz2, hb3⟩
    clear hzz1 hzz2
    have HX3 := Lib.hid ((Ext.refl w3).alloc (.cells #[.slice F1 m1 f1, .slice F2 m2 f2, .slice F3 m3 f3, .slice F4 m4 f4, .slice F5 m5 f5] 44))
    have HE3 := Lib.hid (hb3.trans HX3.out)
    have HEE := Lib.hid (show Ext w1 (w3.alloc (.cells #[.slice F1 m1 f1, .slice F2 m2 f2, .slice F3 m3 f3, .slice F4 m4 f4, .slice F5 m5 f5] 44)) from HE.out.trans ((HE2.out.alloc _).trans HE3.out))
    clear p0 p1 p2 p3 p4 hlp HRI HRS
    obtain ⟨p0, p1, p2, p3, p4⟩ := HBOX.out _ ((HE2.out.alloc _).trans hb3)
    obtain ⟨s0, s1, s2, s3, s4⟩ := HBX2.out _ hb3
    have hlp := lt_of_cell p0
    have hls := lt_of_cell s0
    clear hb3
    have hn4 := HN2.out trivial
    subst hn4
    go_wp2
    exact ret_bool rfl rfl rfl rfl (HB1.out.trans HEE.out)
  have HRI := Lib.hid (fun u e => HRI.out u e)
  have HRS := Lib.hid (fun u e => HRS.out u e)
  simp only [if_true] at HRI HRS
  go_wp2_with fail
  refine (HRI.out _ HE.out).mono ?_
  rintro e w2 ⟨E1, n1, e1, E2, n2, e2, E3, n3, e3, E4, n4, e4, E5, n5, e5, rfl, hR2, hN2, hb2⟩
  have HR2 := Lib.hid hR2
  have HN2 := Lib.hid hN2
  clear hR2 hN2
  obtain ⟨p0, p1, p2, p3, p4⟩ := HBOX.out _ hb2
  have hlp := lt_of_cell p0
  have HE2 := Lib.hid hb2
  have HBX2 := Lib.hid (fun (u : World) (e : Ext (w2.alloc (.cells #[.slice E1 n1 e1, .slice E2 n2 e2, .slice E3 n3 e3, .slice E4 n4 e4, .slice E5 n5 e5] 44)) u) => show u.cell? ⟨w2.heap.size, 0, none⟩ = some (.slice E1 n1 e1) ∧ u.cell? ⟨w2.heap.size, 1, none⟩ = some (.slice E2 n2 e2) ∧ u.cell? ⟨w2.heap.size, 2, none⟩ = some (.slice E3 n3 e3) ∧ u.cell? ⟨w2.heap.size, 3, none⟩ = some (.slice E4 n4 e4) ∧ u.cell? ⟨w2.heap.size, 4, none⟩ = some (.slice E5 n5 e5) from ⟨e.cell (law_box w2 [.slice E1 n1 e1, .slice E2 n2 e2, .slice E3 n3 e3, .slice E4 n4 e4, .slice E5 n5 e5] 44 0 _ rfl), e.cell (law_box w2 [.slice E1 n1 e1, .slice E2 n2 e2, .slice E3 n3 e3, .slice E4 n4 e4, .slice E5 n5 e5] 44 1 _ rfl), e.cell (law_box w2 [.slice E1 n1 e1, .slice E2 n2 e2, .slice E3 n3 e3, .slice E4 n4 e4, .slice E5 n5 e5] 44 2 _ rfl), e.cell (law_box w2 [.slice E1 n1 e1, .slice E2 n2 e2, .slice E3 n3 e3, .slice E4 n4 e4, .slice E5 n5 e5] 44 3 _ rfl), e.cell (law_box w2 [.slice E1 n1 e1, .slice E2 n2 e2, .slice E3 n3 e3, .slice E4 n4 e4, .slice E5 n5 e5] 44 4 _ rfl)⟩)
  clear hb2
  go_wp2_with fail
  refine (HRS.out _ (HE.out.trans (HE2.out.alloc _))).mono ?_
  rintro e w3 ⟨F1, m1, f1, F2, m2, f2, F3, m3, f3, F4, m4, f4, F5, m5, f5, rfl, hzz1, hzz2, hb3⟩
  clear hzz1 hzz2
  have HX3 := Lib.hid ((Ext.refl w3).alloc (.cells #[.slice F1 m1 f1, .slice F2 m2 f2, .slice F3 m3 f3, .slice F4 m4 f4, .slice F5 m5 f5] 44))
  have HE3 := Lib.hid (hb3.trans HX3.out)
  have HEE := Lib.hid (show Ext w1 (w3.alloc (.cells #[.slice F1 m1 f1, .slice F2 m2 f2, .slice F3 m3 f3, .slice F4 m4 f4, .slice F5 m5 f5] 44)) from HE.out.trans ((HE2.out.alloc _).trans HE3.out))
  clear p0 p1 p2 p3 p4 hlp HRI HRS
  obtain ⟨p0, p1, p2, p3, p4⟩ := HBOX.out _ ((HE2.out.alloc _).trans hb3)
  obtain ⟨s0, s1, s2, s3, s4⟩ := HBX2.out _ hb3
  have hlp := lt_of_cell p0
  have hls := lt_of_cell s0
  clear hb3
  obtain ⟨_, hrq, hql, hqv, hfr⟩ := HQS.out trivial
  obtain ⟨rfl, hrs⟩ := HR2.out qs rfl
  have hpv := HRB.out trivial
  have HPQ := Lib.hid (fun (k : Nat) (p : List Pt) (hp : pl[k]? = some p) => show profB p = true ∧ ∃ q, qs[k]? = some q ∧ profB q = true ∧ ∀ t : Int, 0 ≤ t → freeAt q t = if restingB xs k t = true then ⟨0, 0, 0⟩ else freeAt p t from by
    obtain ⟨q, hq⟩ : ∃ q, qs[k]? = some q := ⟨_, List.getElem?_eq_getElem (by rw [hql]; exact (List.getElem?_eq_some_iff.1 hp).1)⟩
    exact ⟨hpv p (List.mem_of_getElem? hp), q, hq, hqv q (List.mem_of_getElem? hq), hfr k p q hp hq⟩)
  have HRS2 := Lib.hid hrs
  have HOKS := Lib.hid (fun (u : World) (e : Ext w2 u) => RoomOkG_c ps ns up qs lic _ u (hrs.ext e) (roomB_sm hrq).1)
  rw [hrq] at HOKS
  obtain ⟨G1, g1, G2, g2, G3, g3, G4, g4, G5, g5, hv2, _, _, _, hps4, _⟩ := HRA.out w1 (Ext.refl _)
  obtain ⟨J1, j1, J2, j2, J3, j3, J4, j4, J5, j5, hv3, _, _, _, hqs4, _⟩ := hrs
  have hA4 : A4 = G4 := by simp only [Value.agg.injEq, Array.mk.injEq, List.cons.injEq, Value.slice.injEq, and_true] at hv2; exact hv2.2.2.2.1.1
  have hE4 : E4 = J4 := by simp only [Value.agg.injEq, Array.mk.injEq, List.cons.injEq, Value.slice.injEq, and_true] at hv3; exact hv3.2.2.2.1.1
  subst hA4 hE4
  simp only [] at hps4 hqs4
  have HP4 := Lib.hid (fun (u : World) (e : Ext w1 u) => hps4.ext RPf.mono e)
  have HQ4 := Lib.hid (fun (u : World) (e : Ext w2 u) => hqs4.ext RPf.mono e)
  have HQL := Lib.hid hql
  rw [hql] at HOKS
  clear hrq hqv hfr hpv hps4 hqs4 hv2 hv3
  have HBP := Lib.hid (fun (u : World) (e : Ext (w3.alloc (.cells #[.slice F1 m1 f1, .slice F2 m2 f2, .slice F3 m3 f3, .slice F4 m4 f4, .slice F5 m5 f5] 44)) u) => HBOX.out u (((HE2.out.alloc _).trans HE3.out).trans e))
  have HBQ := Lib.hid (fun (u : World) (e : Ext (w3.alloc (.cells #[.slice F1 m1 f1, .slice F2 m2 f2, .slice F3 m3 f3, .slice F4 m4 f4, .slice F5 m5 f5] 44)) u) => HBX2.out u (HE3.out.trans e))
  have HE23 := Lib.hid (show Ext w2 (w3.alloc (.cells #[.slice F1 m1 f1, .slice F2 m2 f2, .slice F3 m3 f3, .slice F4 m4 f4, .slice F5 m5 f5] 44)) from ((Ext.refl w2).alloc _).trans HE3.out)
  go_wp2
  clear p0 p1 p2 p3 p4 s0 s1 s2 s3 s4
  go_loopw [45] (fun iv wr => ∃ k : Nat, k ≤ pl.length ∧ iv = .int .i64 k ∧ Ext (w3.alloc (.cells #[.slice F1 m1 f1, .slice F2 m2 f2, .slice F3 m3 f3, .slice F4 m4 f4, .slice F5 m5 f5] 44)) wr) (fun iv _ => pl.length - (intOf iv).toNat)
  case atStart => exact ⟨0, Nat.zero_le _, rfl, Ext.refl _⟩
  case round =>
    obtain ⟨k, hk, rfl, hb⟩ := hrel
    obtain ⟨p0, p1, p2, p3, p4⟩ := HBP.out wr hb
    obtain ⟨s0, s1, s2, s3, s4⟩ := HBQ.out wr hb
    by_cases hlt : k < pl.length
    · obtain ⟨bo, oo, x, cs, hD, hbw, hx, _, hc, Ap, cp, rfl, hsp⟩ := (HP4.out w1 (Ext.refl _)).at_ hlt
      obtain ⟨hpv, q, hqx, hqv, hfr⟩ := HPQ.out k x hx
      have hltq : k < qs.length := (List.getElem?_eq_some_iff.1 hqx).1
      obtain ⟨bo2, oo2, x2, cs2, hD2, hbw2, hx2, _, hc2, Aq, cq, rfl, hsq⟩ := (HQ4.out w2 (Ext.refl _)).at_ hltq
      rw [hqx] at hx2
      injection hx2 with hx2
      subst hx2
      subst hD hD2
      have HCP := Lib.hid (hc 0 _ rfl)
      have HCQ := Lib.hid (hc2 0 _ rfl)
      simp only [Nat.mul_one, Nat.add_zero] at HCP HCQ
      have HPA := Lib.hid (fun (t : Int) (ht : timeB t = true) (u : World) (e : Ext w1 u) => ProfAt_c x t Ap x.length cp u (hsp.ext (Flat.mono _ _) e) hpv ht)
      have HPB := Lib.hid (fun (t : Int) (ht : timeB t = true) (u : World) (e : Ext w2 u) => ProfAt_c q t Aq q.length cq u (hsq.ext (Flat.mono _ _) e) hqv ht)
      have HFR := Lib.hid hfr
      have hkd : decide (k < pl.length) = true := decide_eq_true hlt
      have hkd2 : decide ((k : Int) < (pl.length : Int)) = true := by rw [decide_eq_true_iff]; omega
      clear hx hqx hc hc2 hsp hsq hpv hqv hfr hlp hls
      obtain ⟨wo, rfl⟩ : ∃ wo, wo = wr := ⟨_, rfl⟩
      go_wp2
      clear p0 p1 p2 p3 p4 s0 s1 s2 s3 s4
      go_loopw [10] (fun tv wq => ∃ t : Int, tv = .int .i64 t ∧ 0 ≤ t ∧ t ≤ 42 ∧ Ext (w3.alloc (.cells #[.slice F1 m1 f1, .slice F2 m2 f2, .slice F3 m3 f3, .slice F4 m4 f4, .slice F5 m5 f5] 44)) wq) (fun tv _ => (42 - intOf tv).toNat)
      case atStart => exact ⟨0, rfl, by omega, by omega, hb⟩
      case round =>
        obtain ⟨t, rfl, ht0, ht1, hb2⟩ := hrel
        obtain ⟨p0, p1, p2, p3, p4⟩ := HBP.out wr hb2
        have hlp := lt_of_cell p0
        by_cases hlt2 : t < 40
        · have htb : timeB t = true := by unfold timeB; rw [decide_eq_true_iff]; omega
          have cP := (HEE.out.trans hb2).cell HCP.out
          have hcl := lt_of_cell cP
          go_wp2_with fail
          refine (HPA.out t htb _ (HEE.out.trans hb2)).mono ?_
          rintro e w4 ⟨rfl, hb4⟩
          have E4 := hb2.trans hb4
          clear p0 p1 p2 p3 p4 cP hlp hcl
          obtain ⟨s0, s1, s2, s3, s4⟩ := HBQ.out w4 E4
          have hls := lt_of_cell s0
          have cQ := (HE23.out.trans E4).cell HCQ.out
          have hcl := lt_of_cell cQ
          have HFT := Lib.hid (HFR.out t ht0)
          generalize freeAt x t = ya at *
          go_wp2_with fail
          refine (HPB.out t htb _ ((HE23.out.trans E4).alloc _)).mono ?_
          rintro e w5 ⟨rfl, hb5⟩
          have E5 := E4.trans (((Ext.refl w4).alloc (.cells #[.int .i64 ya.A, .int .i64 ya.B, .int .i64 ya.C] 59)).trans hb5)
          have a0 := (hb5).cell (cell_box_at w4 (w4.heap.size) (by simp) [.int .i64 ya.A, .int .i64 ya.B, .int .i64 ya.C] 59 0 _ rfl)
          have a1 := (hb5).cell (cell_box_at w4 (w4.heap.size) (by simp) [.int .i64 ya.A, .int .i64 ya.B, .int .i64 ya.C] 59 1 _ rfl)
          have a2 := (hb5).cell (cell_box_at w4 (w4.heap.size) (by simp) [.int .i64 ya.A, .int .i64 ya.B, .int .i64 ya.C] 59 2 _ rfl)
          have af0 := ((hb5).frozenEq (a := ⟨w4.heap.size, 0, none⟩) (by simp)).trans (frozen_box_at w4 (w4.heap.size) (by simp) #[.int .i64 ya.A, .int .i64 ya.B, .int .i64 ya.C] 59 0)
          have af1 := ((hb5).frozenEq (a := ⟨w4.heap.size, 1, none⟩) (by simp)).trans (frozen_box_at w4 (w4.heap.size) (by simp) #[.int .i64 ya.A, .int .i64 ya.B, .int .i64 ya.C] 59 1)
          have af2 := ((hb5).frozenEq (a := ⟨w4.heap.size, 2, none⟩) (by simp)).trans (frozen_box_at w4 (w4.heap.size) (by simp) #[.int .i64 ya.A, .int .i64 ya.B, .int .i64 ya.C] 59 2)
          clear s0 s1 s2 s3 s4 cQ hls hcl
          have hal := lt_of_cell a0
          generalize freeAt q t = yb at *
          have HRG := Lib.hid (fun (u : World) (e : Ext (w3.alloc (.cells #[.slice F1 m1 f1, .slice F2 m2 f2, .slice F3 m3 f3, .slice F4 m4 f4, .slice F5 m5 f5] 44)) u) => HRT.out (k : Int) t u (HEE.out.trans e))
          generalize restingB xs k t = rb at *
          go_wp2_with fail
          refine (HRG.out _ (E5.alloc _)).mono ?_
          rintro e w6 ⟨rfl, hb6⟩
          have E6 := E5.trans (((Ext.refl w5).alloc (.cells #[.int .i64 yb.A, .int .i64 yb.B, .int .i64 yb.C] 59)).trans hb6)
          have b0 := (hb6).cell (cell_box_at w5 (w5.heap.size) (by simp) [.int .i64 yb.A, .int .i64 yb.B, .int .i64 yb.C] 59 0 _ rfl)
          have b1 := (hb6).cell (cell_box_at w5 (w5.heap.size) (by simp) [.int .i64 yb.A, .int .i64 yb.B, .int .i64 yb.C] 59 1 _ rfl)
          have b2 := (hb6).cell (cell_box_at w5 (w5.heap.size) (by simp) [.int .i64 yb.A, .int .i64 yb.B, .int .i64 yb.C] 59 2 _ rfl)
          have bf0 := ((hb6).frozenEq (a := ⟨w5.heap.size, 0, none⟩) (by simp)).trans (frozen_box_at w5 (w5.heap.size) (by simp) #[.int .i64 yb.A, .int .i64 yb.B, .int .i64 yb.C] 59 0)
          have bf1 := ((hb6).frozenEq (a := ⟨w5.heap.size, 1, none⟩) (by simp)).trans (frozen_box_at w5 (w5.heap.size) (by simp) #[.int .i64 yb.A, .int .i64 yb.B, .int .i64 yb.C] 59 1)
          have bf2 := ((hb6).frozenEq (a := ⟨w5.heap.size, 2, none⟩) (by simp)).trans (frozen_box_at w5 (w5.heap.size) (by simp) #[.int .i64 yb.A, .int .i64 yb.B, .int .i64 yb.C] 59 2)
          have hbl := lt_of_cell b0
          have c0 := (((Ext.refl w5).alloc (.cells #[.int .i64 yb.A, .int .i64 yb.B, .int .i64 yb.C] 59)).trans hb6).cell a0
          have c1 := (((Ext.refl w5).alloc (.cells #[.int .i64 yb.A, .int .i64 yb.B, .int .i64 yb.C] 59)).trans hb6).cell a1
          have c2 := (((Ext.refl w5).alloc (.cells #[.int .i64 yb.A, .int .i64 yb.B, .int .i64 yb.C] 59)).trans hb6).cell a2
          have hcl := lt_of_cell c0
          clear a0 a1 a2 af0 af1 af2 hal
          rcases rb with _ | _
          · have hy : yb = ya := by have h := HFT.out; simpa using h
            subst hy
            go_wp2_with fail
            refine (HRG.out _ E6).mono ?_
            rintro e w7 ⟨rfl, hb7⟩
            have d0 := hb7.cell b0
            have d1 := hb7.cell b1
            have d2 := hb7.cell b2
            have g0 := hb7.cell c0
            have g1 := hb7.cell c1
            have g2 := hb7.cell c2
            clear b0 b1 b2 c0 c1 c2 bf0 bf1 bf2
            have E7 := E6.trans hb7
            go_wp2
            go_roundw
            case rel => exact ⟨t + 3, by go_num, by omega, by omega, E7⟩
            case measure => simp [intOf]; omega
          · have hy : yb = ⟨0, 0, 0⟩ := by have h := HFT.out; simpa using h
            subst hy
            go_wp2_with fail
            refine (HRG.out _ E6).mono ?_
            rintro e w7 ⟨rfl, hb7⟩
            have E7 := E6.trans hb7
            clear b0 b1 b2 c0 c1 c2 bf0 bf1 bf2
            go_wp2
            go_roundw
            case rel => exact ⟨t + 3, by go_num, by omega, by omega, E7⟩
            case measure => simp [intOf]; omega
        · go_wp2
          go_roundw
          case rel => exact ⟨k + 1, by omega, by go_num, hb2⟩
          case measure => simp [intOf]; omega
    · have hls := lt_of_cell s0
      go_wp2_with fail
      refine (HOKS.out _ (HE23.out.trans hb)).mono ?_
      rintro e w4 ⟨rfl, hb4⟩
      go_wp2
      exact ret_bool rfl rfl rfl rfl (HB1.out.trans (HEE.out.trans (hb.trans hb4)))
end Go.Proofs.YtgmlcohffdeplaaGreat
