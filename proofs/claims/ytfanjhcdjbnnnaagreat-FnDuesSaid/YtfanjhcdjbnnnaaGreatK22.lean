/- SChg, STake. -/
import Derived.Test.YtfanjhcdjbnnnaaGreatK15
import Derived.Test.YtfanjhcdjbnnnaaGreatK21
namespace Go.Proofs.YtfanjhcdjbnnnaaGreat
set_option maxHeartbeats 8000000
set_option maxRecDepth 8000
open Go.RowKit
set_option linter.unusedVariables false
attribute [local go_sem ↓] run_vec_eq run_vec_guard run_vec_ne
theorem take_okb {xs acc : List Pt} {fr te : Int} {v : Vec} (hp : profB xs = true) (hs : spanT fr te = true) (h : chgGo xs fr te (byV v) (timesL xs fr te) [] = some acc) : profB acc = decide (acc.length ≤ 200) :=
 take_valid (fun _ _ _ h => byV_ok h) hp (span_parts hs) (free_vec hp) (timesL_sorted fr te (profB_parts hp).2.2.2.1) (timesL_time hp (span_parts hs)) (timesL_head hp (span_parts hs)) h
theorem l03Change_c (xs : List Pt) (fr te : Int) (v : Vec) (A : Option Addr) (n c : Nat) (w : World) (h : SlAt RPt 4 w A n xs) (hp : profB xs = true) (hs : spanT fr te = true) : Calls Tryz.prog 110 #[.agg #[.slice A n c],.int .i64 fr,.int .i64 te,.agg #[.int .i64 v.A,.int .i64 v.B,.int .i64 v.C],.bool false] w (RetP w (takeP xs fr te v)) := by
 obtain rfl := h.len
 have hl := (profB_parts hp).2.1
 have hM := Flat.mono Pt.enc Pt.ok
 obtain ⟨i1,hi1,hJ0,hJ1,hJ2⟩ := info_parts CPt.info
 have hff : In64 fr ∧ In64 te := by
  obtain ⟨h1,h2,h3⟩ := span_parts hs
  unfold timeB at h1 h2
  rw [decide_eq_true_iff] at h1 h2
  exact ⟨in64_if (by omega) (by omega),in64_if (by omega) (by omega)⟩
 have HTM := Hh (fun (u : World) (e : Ext w u) => l03Times_o xs fr te A xs.length c u (h.ext hM e) hl hff.1 hff.2)
 have HAT := Hh (fun (u : World) (e : Ext w u) (t : Int) => l03At_c xs t A xs.length c u (h.ext hM e) (by unfold maxLen;omega))
 have HSU := Hh (fun (y : Vec) (u : World) => sVecSub_c y v u)
 have HPK := Hh (fun (zs : List Pt) (A' : Option Addr) (n' c' : Nat) (u : World) (h' : SlAt RPt 4 u A' n' zs) (hn : n' ≤ maxLen) => sProfOk_c zs A' n' c' u h' hn)
 have HP := Hh hp
 have HS := Hh hs
 have HTM2 := Hh (timesL_time hp (span_parts hs))
 have HTL := Hh (timesL_len xs fr te)
 have HEQ := Hh (show takeP xs fr te v = takeG xs fr te (byV v) from rfl)
 have HTK := Hh (fun o (h : chgGo xs fr te (byV v) (timesL xs fr te) [] = some o) => take_okb hp hs h)
 clear hp hs h
 generalize hn : xs.length = n at *
 have HN := Hh hn
 clear hn
 go_enter Tryz.func110,Tryz.ntmps110
 go_wp2_with fail
 refine (HTM.out _ ((((Ext.refl _).alloc _).alloc _).alloc _ |>.alloc _)).mono ?_
 rintro e w2 ⟨Bt,ct,rfl,ho2,hin2,hb2⟩
 simp at ho2
 have HB2 := Hh (Ext.trans ((Ext.refl (((w.alloc (.cells #[.slice A n c] 71)).alloc (.cells #[.int .i64 v.A,.int .i64 v.B,.int .i64 v.C] 29)).alloc (.cells #[.slice none 0 0] 71))).alloc _) hb2)
 have H13 := Hh (owns_ext (gbox1 (((w.alloc (.cells #[.slice A n c] 71)).alloc (.cells #[.int .i64 v.A,.int .i64 v.B,.int .i64 v.C] 29)).alloc (.cells #[.slice none 0 0] 71)) (.slice none 0 0) 71) hb2)
 simp at H13
 have HLE : (timesL xs fr te).length ≤ 202 := by have := HTL.out;have := HN.out;omega
 clear HTL
 have hzz := hb2.size
 simp at hzz
 generalize hts : timesL xs fr te = ts at *
 have HTS := Hh hts
 clear hts
 generalize hR : chgGo xs fr te (byV v) ts [] = R
 have HRR := Hh hR
 clear hR
 obtain ⟨gt,rfl,hg1,hg2⟩ : ∃ g,Bt = some ⟨g,0,none⟩ ∧ w.heap.size + 1 + 1 + 1 ≤ g ∧ g < w2.heap.size := by
  have hmem : fr ∈ ts := by rw [← HTS.out];exact timesL_mem.2 (.inr (.inl rfl))
  obtain ⟨g,h1,h2,h3⟩ := own_some ho2 (List.length_pos_of_mem hmem)
  exact ⟨g,h1,by omega,h3⟩
 have HOT := Hh (row_low (b' := w.heap.size + 1 + 1 + 1) ho2 (by omega))
 clear ho2 hb2
 have HTMX := Hh (show ∀ t ∈ ts,timeB t = true from HTM2.out)
 generalize hmm : ts.length = m at *
 have HMM := Hh hmm
 clear hmm
 go_wp2
 go_loopw [24] (fun iv wq => ∃ (j : Nat) (acc : List Pt) (Ao : Option Addr) (co : Nat),j ≤ m ∧ acc.length ≤ j ∧ iv = .int .i64 j ∧ Hid (∀ y ∈ acc,y.ok) ∧ Hid (wq.ownsRow (w.heap.size + 1 + 1 + 1) 3 1 (.slice (some ⟨gt,0,none⟩) m ct) m (ts.flatMap encInt)) ∧ Hid (wq.ownsRow (w.heap.size + 1 + 1 + 1) 133 4 (.slice Ao acc.length co) acc.length (acc.flatMap Pt.enc)) ∧ Hid (wq.ownsRow (w.heap.size + 1 + 1 + 1) 71 1 (.slice (some ⟨w.heap.size + 1 + 1 + 1,0,none⟩) 1 1) 1 [.slice Ao acc.length co]) ∧ Ext (((w.alloc (.cells #[.slice A n c] 71)).alloc (.cells #[.int .i64 v.A,.int .i64 v.B,.int .i64 v.C] 29)).alloc (.cells #[.slice none 0 0] 71)) wq ∧ Hid (R = chgGo xs fr te (byV v) (ts.drop j) acc)) (fun iv _ => m - (intOf iv).toNat)
 case atStart => exact ⟨0,[],none,0,Nat.zero_le _,Nat.zero_le _,rfl,Hh (fun y hy => by simp at hy),HOT,Hh (World.ownsRow_nil _ _ _ _),H13,HB2.out,Hh HRR.out.symm⟩
 case round =>
  obtain ⟨j,acc,Ao,co,hj,haj,rfl,HOK,HO4,HO5,H14,hbq,HE⟩ := hrel
  by_cases hlt2 : j < m
  ·obtain ⟨t,ht⟩ : ∃ t,ts[j]? = some t := ⟨_,List.getElem?_eq_getElem (by have := HMM.out;omega)⟩
   have hc0 : wr.cell? ⟨gt,j,none⟩ = some (.int .i64 t) := by rw [HO4.out.cellAt j (by omega),enc_map,List.getElem?_map,ht];rfl
   have HTX := Hh ht
   have HTI := Hh (HTMX.out t (List.mem_of_getElem? ht))
   clear ht
   have a0 := bc1 w (w.heap.size) (.slice A n c) 71 ((Ext.trans (((Ext.refl (w.alloc (.cells #[.slice A n c] 71))).alloc _).alloc _) hbq)) (by simp)
   have af0 := YtfanjhcdjbnnnaaGreat.bf1 w (w.heap.size) (.slice A n c) 71 ((Ext.trans (((Ext.refl (w.alloc (.cells #[.slice A n c] 71))).alloc _).alloc _) hbq)) (by simp)
   have hgs := (HO4.out.lt gt rfl).2
   have h13 := (gcells1 H14.out).2.2
   go_wp2_with fail
   refine (HAT.out _ (Ext.trans ((((Ext.refl _).alloc _).alloc _).alloc _) hbq) t).mono ?_
   rintro e w4 ⟨rfl,hb4⟩
   have HB4 := Hh hb4
   have hz4 := hb4.size
   clear hc0 a0 af0
   have HVF := Hh (free_vec HP.out t)
   generalize hy : freeAt xs t = y at *
   have HY := Hh hy
   clear hy
   obtain ⟨m0,mf0,ml0⟩ := gcells1 (owns_ext H14.out hb4)
   by_cases hin : fr ≤ t ∧ t < te
   ·have HVN := Hh (show atV xs fr te (byV v) t = byV v y by unfold atV;rw [if_pos hin,HY.out])
    obtain ⟨h1,h2⟩ := hin
    obtain ⟨b0,b1,b2⟩ := bc3 (w.alloc (.cells #[.slice A n c] 71)) (w.heap.size + 1) (.int .i64 v.A) (.int .i64 v.B) (.int .i64 v.C) 29 ((Ext.trans ((Ext.refl ((w.alloc (.cells #[.slice A n c] 71)).alloc (.cells #[.int .i64 v.A,.int .i64 v.B,.int .i64 v.C] 29))).alloc _) (hbq.trans HB4.out))) (by simp)
    obtain ⟨bf0,bf1,bf2⟩ := bf3 (w.alloc (.cells #[.slice A n c] 71)) (w.heap.size + 1) (.int .i64 v.A) (.int .i64 v.B) (.int .i64 v.C) 29 ((Ext.trans ((Ext.refl ((w.alloc (.cells #[.slice A n c] 71)).alloc (.cells #[.int .i64 v.A,.int .i64 v.B,.int .i64 v.C] 29))).alloc _) (hbq.trans HB4.out))) (by simp)
    have bl := lt_of_cell b0
    go_wp2_with fail
    refine (HSU.out y _).mono ?_
    rintro e w5 ⟨rfl,hb5⟩
    have HB5 := Hh hb5
    have hz5 := hb5.size
    clear b0 b1 b2 bf0 bf1 bf2
    obtain ⟨e0,e1,e2⟩ := bc3 w4 (w4.heap.size) (.int .i64 y.A) (.int .i64 y.B) (.int .i64 y.C) 29 ((hb5)) (by simp)
    obtain ⟨ef0,ef1,ef2⟩ := bf3 w4 (w4.heap.size) (.int .i64 y.A) (.int .i64 y.B) (.int .i64 y.C) 29 ((hb5)) (by simp)
    have hw45 : Ext w4 w5 := ((Ext.refl w4).alloc _).trans hb5
    have hz6 : w4.heap.size < w5.heap.size := by have := hz5;simp at this;omega
    clear hz5
    rcases hfb : fitsB v y with _ | _
    ·have HNO := Hh (show takeG xs fr te (byV v) = none from take_none (by rw [HTS.out,HRR.out,HE.out,drop_cons HTX.out];exact chg_none (by rw [HVN.out];unfold byV;rw [if_neg (by rw [hfb];simp)])))
     have r0 := bc1 ((w.alloc (.cells #[.slice A n c] 71)).alloc (.cells #[.int .i64 v.A,.int .i64 v.B,.int .i64 v.C] 29)) (w.heap.size + 1 + 1) (.slice none 0 0) 71 ((Ext.trans hbq (HB4.out.trans hw45))) (by simp)
     have rf0 := YtfanjhcdjbnnnaaGreat.bf1 ((w.alloc (.cells #[.slice A n c] 71)).alloc (.cells #[.int .i64 v.A,.int .i64 v.B,.int .i64 v.C] 29)) (w.heap.size + 1 + 1) (.slice none 0 0) 71 ((Ext.trans hbq (HB4.out.trans hw45))) (by simp)
     have he8 := lt_of_cell r0
     have he9 : w.heap.size + 1 + 1 ≠ w4.heap.size := by have h1 := hz4;have h2 := (H14.out.lt _ rfl).2;omega
     have hw5 : Ext w w5 := Ext.trans ((((Ext.refl _).alloc _).alloc _).alloc _) (hbq.trans (HB4.out.trans hw45))
     go_wp2
     exact bodyPost_ret (v := .tuple #[.agg #[.slice none 0 0],.bool false]) (by simp [results,Tryz.results110,go_sem, *]) rfl (by rw [HEQ.out];exact retP_none HNO.out Ext.go)
    ·generalize hsv : subV y v = s at *
     have HV0 := Hh (show atV xs fr te (byV v) t = some s by rw [HVN.out];unfold byV;rw [if_pos hfb,hsv])
     have HVY := Hh (show vecB s = true from byV_ok (v := v) (x := y) (by unfold byV;rw [if_pos hfb,hsv]))
     clear HVF HVN hsv
     have HP5 := Hh (show w4.ownsRow (w.heap.size + 1 + 1 + 1) 133 4 (.slice Ao acc.length co) acc.length (acc.flatMap Pt.enc) from owns_ext HO5.out hb4)
     have HP5w := Hh (owns_ext HP5.out hw45)
     clear m0 mf0 ml0
     obtain ⟨m0,mf0,ml0⟩ := gcells1 (owns_ext (owns_ext H14.out hb4) hw45)
     have hx6 : w.heap.size + 1 + 1 + 1 ≠ w4.heap.size := by have h1 := hz4;have h2 := (H14.out.lt _ rfl).2;omega
     generalize hal : acc.length = q at *
     have HAL := Hh hal
     clear hal
     rcases q with _ | q
     ·go_wp2_with fail
      go_quiet (fail)
      have HPO := Hh (show Pt.ok ⟨t,s⟩ from pt_ok HTI.out HVY.out)
      have HPN := Hh (put_first HAL.out (t := t) (y := s))
      have H13b := Hh (owns_ext H14.out HB4.out)
      go_wp2_with (at_builtin;go_must (refine wpList_append_r (enc := Pt.enc) (ok := Pt.ok) (.tmp 72) (.tmp 76) _ (w.heap.size + 1 + 1 + 1) 133 i1 _ 4 32 (.slice Ao 0 co) (0) _ (some ⟨w5.heap.size,0,none⟩) 1 1 [⟨t,s⟩] rfl rfl Tryz.underlying69 hi1 hJ0 hJ1 hJ2 rfl (by omega) rfl (owns_ext HP5.out Ext.go) rfl (by exact sl_one_at (enc := Pt.enc) _ _ (by simp) (⟨t,s⟩ : Pt) 133 rfl HPO.out) Pt.size pt_one (by unfold maxLen;omega) (by omega) (by simp;omega) ?_);intro A6 c6 w6 hr6;have HR6 := Hh hr6;have H6 := Hh (hr6.other (owns_ext H13b.out Ext.go) (g_apart H13b.out HP5.out (by decide)));have HT6 := Hh (hr6.other (owns_ext (owns_ext HO4.out HB4.out) Ext.go) (g_apart HO4.out HO5.out (by decide)));have HX6 := Hh (ext_turned (Ext.trans (hbq.trans HB4.out) Ext.go) (hr6.turned (lo := w.heap.size + 1 + 1 + 1) (fun q hq => (HP5.out.lt q hq).1)) (by simp));have m6 := (gcells1 H6.out).1;have mf6 := (gcells1 H6.out).2.1;have ml6 := (gcells1 H6.out).2.2;clear hr6)
      go_wp2
      go_roundw
      case rel => exact ⟨j + 1,acc ++ [⟨t,s⟩],A6,c6,by omega,by rw [List.length_append,HAL.out,List.length_singleton];omega,by go_num,Hh (fun z hz => by rcases List.mem_append.1 hz with hz | hz;exact HOK.out z hz;rw [List.mem_singleton.1 hz];exact HPO.out),Hh (g_far HT6.out (fun e => g_apart H6.out HT6.out (by decide) _ rfl e)),Hh (by rw [List.length_append,HAL.out,List.flatMap_append];have h := g_far HR6.out.row (p := 0) (u := .slice A6 (0 + 1) c6) (fun e => g_apart H6.out HR6.out.row (by decide) _ rfl e);simpa using h),Hh (by rw [List.length_append,HAL.out];exact (H6.out.stored 0 (.slice A6 (0 + 1) c6)).1),HX6.out.setCell (by first | (simp;omega) | simp) _,Hh (by rw [HE.out,drop_cons HTX.out,chg_some HV0.out,HPN.out])⟩
      case measure => simp [intOf];omega
     ·obtain ⟨z,hz⟩ : ∃ z,acc[q]? = some z := ⟨_,List.getElem?_eq_getElem (by have := HAL.out;omega)⟩
      obtain ⟨bo,rfl,hbo1,hbo2⟩ := own_some HP5.out (by omega)
      have hbo4 : bo < w5.heap.size := Nat.lt_trans hbo2 hz6
      have hbo5 : bo ≠ w4.heap.size := Nat.ne_of_lt hbo2
      have hbo6 : w.heap.size + 1 + 1 + 1 ≠ w4.heap.size := by have h1 := hz4;have h2 := (H14.out.lt _ rfl).2;omega
      have p1 : w5.cell? ⟨bo,q * 4 + 1,none⟩ = some (.int .i64 z.Free.A) := by rw [HP5w.out.cellAt (q * 4 + 1) (by omega)];exact (flatMap_get (enc := Pt.enc) (j := 1) Pt.size (by omega) hz).trans rfl
      have p2 : w5.cell? ⟨bo,q * 4 + 2,none⟩ = some (.int .i64 z.Free.B) := by rw [HP5w.out.cellAt (q * 4 + 2) (by omega)];exact (flatMap_get (enc := Pt.enc) (j := 2) Pt.size (by omega) hz).trans rfl
      have p3 : w5.cell? ⟨bo,q * 4 + 3,none⟩ = some (.int .i64 z.Free.C) := by rw [HP5w.out.cellAt (q * 4 + 3) (by omega)];exact (flatMap_get (enc := Pt.enc) (j := 3) Pt.size (by omega) hz).trans rfl
      have HZQ := Hh hz
      clear hz
      rcases hd : decide (z.Free = s) with _ | _
      ·have he := vec_beq hd
       have HD := Hh hd
       clear hd
       have hg0 : decide ((q : Int) + 1 = 0) = false := by rw [decide_eq_false_iff_not];omega
       go_wp2_with fail
       have hg1 : ((q : Int) + 1 == 0) = false := by rw [beq_eq_false_iff_ne];omega
       have hg2 : IntKind.i64.wrap ((q : Int) + 1 - 1) = (q : Int) := by rw [show (q : Int) + 1 - 1 = q by omega];exact IntWalk.i64_in _ ⟨by omega,by omega⟩
       go_quiet (fail)
       have HPO := Hh (show Pt.ok ⟨t,s⟩ from pt_ok HTI.out HVY.out)
       have HPN := Hh (put_new HAL.out HZQ.out HD.out (t := t))
       have H13b := Hh (owns_ext H14.out HB4.out)
       go_wp2_with (at_builtin;go_must (refine wpList_append_r (enc := Pt.enc) (ok := Pt.ok) (.tmp 72) (.tmp 76) _ (w.heap.size + 1 + 1 + 1) 133 i1 _ 4 32 (.slice (some ⟨bo,0,none⟩) (q + 1) co) (q + 1) _ (some ⟨w5.heap.size,0,none⟩) 1 1 [⟨t,s⟩] rfl rfl Tryz.underlying69 hi1 hJ0 hJ1 hJ2 rfl (by omega) rfl (owns_ext HP5.out Ext.go) rfl (by exact sl_one_at (enc := Pt.enc) _ _ (by simp) (⟨t,s⟩ : Pt) 133 rfl HPO.out) Pt.size pt_one (by unfold maxLen;omega) (by omega) (by simp;omega) ?_);intro A6 c6 w6 hr6;have HR6 := Hh hr6;have H6 := Hh (hr6.other (owns_ext H13b.out Ext.go) (g_apart H13b.out HP5.out (by decide)));have HT6 := Hh (hr6.other (owns_ext (owns_ext HO4.out HB4.out) Ext.go) (g_apart HO4.out HO5.out (by decide)));have HX6 := Hh (ext_turned (Ext.trans (hbq.trans HB4.out) Ext.go) (hr6.turned (lo := w.heap.size + 1 + 1 + 1) (fun q hq => (HP5.out.lt q hq).1)) (by simp));have m6 := (gcells1 H6.out).1;have mf6 := (gcells1 H6.out).2.1;have ml6 := (gcells1 H6.out).2.2;clear hr6)
       go_wp2
       go_roundw
       case rel => exact ⟨j + 1,acc ++ [⟨t,s⟩],A6,c6,by omega,by rw [List.length_append,HAL.out,List.length_singleton];omega,by go_num,Hh (fun z hz => by rcases List.mem_append.1 hz with hz | hz;exact HOK.out z hz;rw [List.mem_singleton.1 hz];exact HPO.out),Hh (g_far HT6.out (fun e => g_apart H6.out HT6.out (by decide) _ rfl e)),Hh (by rw [List.length_append,HAL.out,List.flatMap_append];have h := g_far HR6.out.row (p := 0) (u := .slice A6 (q + 1 + 1) c6) (fun e => g_apart H6.out HR6.out.row (by decide) _ rfl e);simpa using h),Hh (by rw [List.length_append,HAL.out];exact (H6.out.stored 0 (.slice A6 (q + 1 + 1) c6)).1),HX6.out.setCell (by first | (simp;omega) | simp) _,Hh (by rw [HE.out,drop_cons HTX.out,chg_some HV0.out,HPN.out])⟩
       case measure => simp [intOf];omega
      ·have he := vec_beq hd
       have HD := Hh hd
       clear hd
       have hg0 : decide ((q : Int) + 1 = 0) = false := by rw [decide_eq_false_iff_not];omega
       go_wp2_with fail
       have hg1 : ((q : Int) + 1 == 0) = false := by rw [beq_eq_false_iff_ne];omega
       have hg2 : IntKind.i64.wrap ((q : Int) + 1 - 1) = (q : Int) := by rw [show (q : Int) + 1 - 1 = q by omega];exact IntWalk.i64_in _ ⟨by omega,by omega⟩
       go_quiet (fail)
       go_wp2
       go_roundw
       case rel => exact ⟨j + 1,acc,some ⟨bo,0,none⟩,co,by omega,by have := HAL.out;omega,by go_num,HOK,Hh (owns_ext (owns_ext HO4.out HB4.out) Ext.go),Hh (by rw [HAL.out];exact owns_ext HP5.out Ext.go),Hh (by rw [HAL.out];exact owns_ext (owns_ext H14.out HB4.out) Ext.go),Ext.trans (hbq.trans HB4.out) Ext.go,Hh (by rw [HE.out,drop_cons HTX.out,chg_some HV0.out];congr 1;exact put_same HAL.out HZQ.out HD.out)⟩
       case measure => simp [intOf];omega
   ·have HNI := Hh hin
    have h12 : (¬ fr ≤ t) ∨ (fr ≤ t ∧ ¬ t < te) := by omega
    clear hin
    rcases h12 with h1 | ⟨h1,h2⟩
    all_goals
     have HV0 := Hh (show atV xs fr te (byV v) t = some y by unfold atV;rw [if_neg HNI.out,HY.out])
     have HVY := Hh (show vecB y = true from HVF.out)
     clear HVF
     have HP5 := Hh (show w4.ownsRow (w.heap.size + 1 + 1 + 1) 133 4 (.slice Ao acc.length co) acc.length (acc.flatMap Pt.enc) from owns_ext HO5.out hb4)
     generalize hal : acc.length = q at *
     have HAL := Hh hal
     clear hal
     rcases q with _ | q
     ·go_wp2_with fail
      go_quiet (fail)
      have HPO := Hh (show Pt.ok ⟨t,y⟩ from pt_ok HTI.out HVY.out)
      have HPN := Hh (put_first HAL.out (t := t) (y := y))
      have H13b := Hh (owns_ext H14.out HB4.out)
      go_wp2_with (at_builtin;go_must (refine wpList_append_r (enc := Pt.enc) (ok := Pt.ok) (.tmp 72) (.tmp 76) _ (w.heap.size + 1 + 1 + 1) 133 i1 _ 4 32 (.slice Ao 0 co) (0) _ (some ⟨w4.heap.size + 1,0,none⟩) 1 1 [⟨t,y⟩] rfl rfl Tryz.underlying69 hi1 hJ0 hJ1 hJ2 rfl (by omega) rfl (owns_ext HP5.out Ext.go) rfl (by exact sl_one_at (enc := Pt.enc) _ _ (by simp) (⟨t,y⟩ : Pt) 133 rfl HPO.out) Pt.size pt_one (by unfold maxLen;omega) (by omega) (by have := HB4.out.size;simp;omega) ?_);intro A6 c6 w6 hr6;have HR6 := Hh hr6;have H6 := Hh (hr6.other (owns_ext H13b.out Ext.go) (g_apart H13b.out HP5.out (by decide)));have HT6 := Hh (hr6.other (owns_ext (owns_ext HO4.out HB4.out) Ext.go) (g_apart HO4.out HO5.out (by decide)));have HX6 := Hh (ext_turned (Ext.trans (hbq.trans HB4.out) Ext.go) (hr6.turned (lo := w.heap.size + 1 + 1 + 1) (fun q hq => (HP5.out.lt q hq).1)) (by simp));have m6 := (gcells1 H6.out).1;have mf6 := (gcells1 H6.out).2.1;have ml6 := (gcells1 H6.out).2.2;clear hr6)
      go_wp2
      go_roundw
      case rel => exact ⟨j + 1,acc ++ [⟨t,y⟩],A6,c6,by omega,by rw [List.length_append,HAL.out,List.length_singleton];omega,by go_num,Hh (fun z hz => by rcases List.mem_append.1 hz with hz | hz;exact HOK.out z hz;rw [List.mem_singleton.1 hz];exact HPO.out),Hh (g_far HT6.out (fun e => g_apart H6.out HT6.out (by decide) _ rfl e)),Hh (by rw [List.length_append,HAL.out,List.flatMap_append];have h := g_far HR6.out.row (p := 0) (u := .slice A6 (0 + 1) c6) (fun e => g_apart H6.out HR6.out.row (by decide) _ rfl e);simpa using h),Hh (by rw [List.length_append,HAL.out];exact (H6.out.stored 0 (.slice A6 (0 + 1) c6)).1),HX6.out.setCell (by first | (simp;omega) | simp) _,Hh (by rw [HE.out,drop_cons HTX.out,chg_some HV0.out,HPN.out])⟩
      case measure => simp [intOf];omega
     ·obtain ⟨z,hz⟩ : ∃ z,acc[q]? = some z := ⟨_,List.getElem?_eq_getElem (by have := HAL.out;omega)⟩
      obtain ⟨bo,rfl,hbo1,hbo2⟩ := own_some HP5.out (by omega)
      have p1 : w4.cell? ⟨bo,q * 4 + 1,none⟩ = some (.int .i64 z.Free.A) := by rw [HP5.out.cellAt (q * 4 + 1) (by omega)];exact (flatMap_get (enc := Pt.enc) (j := 1) Pt.size (by omega) hz).trans rfl
      have p2 : w4.cell? ⟨bo,q * 4 + 2,none⟩ = some (.int .i64 z.Free.B) := by rw [HP5.out.cellAt (q * 4 + 2) (by omega)];exact (flatMap_get (enc := Pt.enc) (j := 2) Pt.size (by omega) hz).trans rfl
      have p3 : w4.cell? ⟨bo,q * 4 + 3,none⟩ = some (.int .i64 z.Free.C) := by rw [HP5.out.cellAt (q * 4 + 3) (by omega)];exact (flatMap_get (enc := Pt.enc) (j := 3) Pt.size (by omega) hz).trans rfl
      have HZQ := Hh hz
      clear hz
      rcases hd : decide (z.Free = y) with _ | _
      ·have he := vec_beq hd
       have HD := Hh hd
       clear hd
       have hg0 : decide ((q : Int) + 1 = 0) = false := by rw [decide_eq_false_iff_not];omega
       go_wp2_with fail
       have hg1 : ((q : Int) + 1 == 0) = false := by rw [beq_eq_false_iff_ne];omega
       have hg2 : IntKind.i64.wrap ((q : Int) + 1 - 1) = (q : Int) := by rw [show (q : Int) + 1 - 1 = q by omega];exact IntWalk.i64_in _ ⟨by omega,by omega⟩
       go_quiet (fail)
       have HPO := Hh (show Pt.ok ⟨t,y⟩ from pt_ok HTI.out HVY.out)
       have HPN := Hh (put_new HAL.out HZQ.out HD.out (t := t))
       have H13b := Hh (owns_ext H14.out HB4.out)
       go_wp2_with (at_builtin;go_must (refine wpList_append_r (enc := Pt.enc) (ok := Pt.ok) (.tmp 72) (.tmp 76) _ (w.heap.size + 1 + 1 + 1) 133 i1 _ 4 32 (.slice (some ⟨bo,0,none⟩) (q + 1) co) (q + 1) _ (some ⟨w4.heap.size + 1,0,none⟩) 1 1 [⟨t,y⟩] rfl rfl Tryz.underlying69 hi1 hJ0 hJ1 hJ2 rfl (by omega) rfl (owns_ext HP5.out Ext.go) rfl (by exact sl_one_at (enc := Pt.enc) _ _ (by simp) (⟨t,y⟩ : Pt) 133 rfl HPO.out) Pt.size pt_one (by unfold maxLen;omega) (by omega) (by have := HB4.out.size;simp;omega) ?_);intro A6 c6 w6 hr6;have HR6 := Hh hr6;have H6 := Hh (hr6.other (owns_ext H13b.out Ext.go) (g_apart H13b.out HP5.out (by decide)));have HT6 := Hh (hr6.other (owns_ext (owns_ext HO4.out HB4.out) Ext.go) (g_apart HO4.out HO5.out (by decide)));have HX6 := Hh (ext_turned (Ext.trans (hbq.trans HB4.out) Ext.go) (hr6.turned (lo := w.heap.size + 1 + 1 + 1) (fun q hq => (HP5.out.lt q hq).1)) (by simp));have m6 := (gcells1 H6.out).1;have mf6 := (gcells1 H6.out).2.1;have ml6 := (gcells1 H6.out).2.2;clear hr6)
       go_wp2
       go_roundw
       case rel => exact ⟨j + 1,acc ++ [⟨t,y⟩],A6,c6,by omega,by rw [List.length_append,HAL.out,List.length_singleton];omega,by go_num,Hh (fun z hz => by rcases List.mem_append.1 hz with hz | hz;exact HOK.out z hz;rw [List.mem_singleton.1 hz];exact HPO.out),Hh (g_far HT6.out (fun e => g_apart H6.out HT6.out (by decide) _ rfl e)),Hh (by rw [List.length_append,HAL.out,List.flatMap_append];have h := g_far HR6.out.row (p := 0) (u := .slice A6 (q + 1 + 1) c6) (fun e => g_apart H6.out HR6.out.row (by decide) _ rfl e);simpa using h),Hh (by rw [List.length_append,HAL.out];exact (H6.out.stored 0 (.slice A6 (q + 1 + 1) c6)).1),HX6.out.setCell (by first | (simp;omega) | simp) _,Hh (by rw [HE.out,drop_cons HTX.out,chg_some HV0.out,HPN.out])⟩
       case measure => simp [intOf];omega
      ·have he := vec_beq hd
       have HD := Hh hd
       clear hd
       have hg0 : decide ((q : Int) + 1 = 0) = false := by rw [decide_eq_false_iff_not];omega
       go_wp2_with fail
       have hg1 : ((q : Int) + 1 == 0) = false := by rw [beq_eq_false_iff_ne];omega
       have hg2 : IntKind.i64.wrap ((q : Int) + 1 - 1) = (q : Int) := by rw [show (q : Int) + 1 - 1 = q by omega];exact IntWalk.i64_in _ ⟨by omega,by omega⟩
       go_quiet (fail)
       go_wp2
       go_roundw
       case rel => exact ⟨j + 1,acc,some ⟨bo,0,none⟩,co,by omega,by have := HAL.out;omega,by go_num,HOK,Hh (owns_ext (owns_ext HO4.out HB4.out) Ext.go),Hh (by rw [HAL.out];exact owns_ext HP5.out Ext.go),Hh (by rw [HAL.out];exact owns_ext (owns_ext H14.out HB4.out) Ext.go),Ext.trans (hbq.trans HB4.out) Ext.go,Hh (by rw [HE.out,drop_cons HTX.out,chg_some HV0.out];congr 1;exact put_same HAL.out HZQ.out HD.out)⟩
       case measure => simp [intOf];omega
  ·have HRA := Hh (show R = some acc by rw [HE.out,List.drop_eq_nil_of_le (by have := HMM.out;omega)];rfl)
   have HTQ := Hh (show takeG xs fr te (byV v) = if acc.length ≤ 200 then some acc else none from take_some (by rw [HTS.out,HRR.out,HRA.out]))
   have HPB := Hh (HTK.out acc (by rw [HRR.out,HRA.out]))
   have HSA := Hh (show SlAt RPt 4 wr Ao acc.length acc from (OwnAt.flat (enc := Pt.enc) (ok := Pt.ok) Pt.size HOK.out HO5.out).slAt)
   have HOA := Hh (show ∀ q,(Value.slice Ao acc.length co).ownBlock = some q → w.heap.size + 1 + 1 + 1 ≤ q from fun q hq => (HO5.out.lt q hq).1)
   have HPC := Hh (HPK.out acc Ao acc.length co wr HSA.out (by unfold maxLen;omega))
   obtain ⟨m0,mf0,ml0⟩ := gcells1 H14.out
   generalize hal : acc.length = q at *
   have HAL := Hh hal
   clear hal
   go_wp2_with fail
   refine HPC.out.mono ?_
   rintro e w3 ⟨rfl,hb3⟩
   rw [HPB.out]
   have HB3 := Hh hb3
   have HO5b := Hh (owns_ext HO5.out hb3)
   obtain ⟨m1,mf1,ml1⟩ := gcells1 (owns_ext H14.out hb3)
   have r0 := bc1 ((w.alloc (.cells #[.slice A n c] 71)).alloc (.cells #[.int .i64 v.A,.int .i64 v.B,.int .i64 v.C] 29)) (w.heap.size + 1 + 1) (.slice none 0 0) 71 ((Ext.trans hbq HB3.out)) (by simp)
   have rf0 := YtfanjhcdjbnnnaaGreat.bf1 ((w.alloc (.cells #[.slice A n c] 71)).alloc (.cells #[.int .i64 v.A,.int .i64 v.B,.int .i64 v.C] 29)) (w.heap.size + 1 + 1) (.slice none 0 0) 71 ((Ext.trans hbq HB3.out)) (by simp)
   have he8 := lt_of_cell r0
   clear m0 mf0 ml0
   by_cases hq : q ≤ 200
   ·rw [if_pos hq] at HTQ
    have hq' : decide (q ≤ 200) = true := decide_eq_true hq
    rw [hq']
    go_wp2
    exact bodyPost_ret (v := .tuple #[.agg #[.slice Ao q co],.bool true]) (by simp [results,Tryz.results110,go_sem, *]) rfl ⟨Ao,co,acc,by rw [HEQ.out,HTQ.out,HAL.out];rfl,.inl (by rw [HEQ.out,HTQ.out]),by rw [HAL.out];exact g_far (g_widen HO5b.out (fun q hq => by have := HOA.out q hq;omega)) (fun e => by have := HOA.out _ e;omega),HOK.out,Ext.setCell (Ext.trans ((((Ext.refl _).alloc _).alloc _).alloc _) (hbq.trans HB3.out)) (by first | (simp;omega) | simp) _⟩
   ·rw [if_neg hq] at HTQ
    have hq' : decide (q ≤ 200) = false := decide_eq_false hq
    rw [hq']
    go_wp2
    exact bodyPost_ret (v := .tuple #[.agg #[.slice none 0 0],.bool false]) (by simp [results,Tryz.results110,go_sem, *]) rfl (by rw [HEQ.out];exact retP_none HTQ.out (Ext.setCell (Ext.trans ((((Ext.refl _).alloc _).alloc _).alloc _) (hbq.trans HB3.out)) (by first | (simp;omega) | simp) _))
end Go.Proofs.YtfanjhcdjbnnnaaGreat
namespace Go.Proofs.YtfanjhcdjbnnnaaGreat
open Go.RowKit
set_option linter.unusedVariables false
set_option maxHeartbeats 8000000
set_option maxRecDepth 8000
theorem chg_in_none {l : List Pt} {fr te : Int} {g : Vec → Option Vec} {t : Int} (h : atV l fr te g t = none) : ∀ (ts : List Int) (acc : List Pt),t ∈ ts → chgGo l fr te g ts acc = none := by
 intro ts
 induction ts with
 | nil => intro acc hm;cases hm
 | cons x r ih =>
  intro acc hm
  rcases List.mem_cons.1 hm with e | hm
  ·subst e;exact chg_none h
  ·rw [chgGo]
   split
   ·rfl
   ·exact ih _ hm
theorem takeP_bad {xs : List Pt} {fr te : Int} {v : Vec} (hs : spanT fr te = true) (hv : vecB v = false) : takeP xs fr te v = none := by
 refine take_none (chg_in_none (t := fr) ?_ _ _ (timesL_mem.2 (.inr (.inl rfl))))
 have h3 := (span_parts hs).2.2
 unfold atV byV fitsB
 rw [if_pos ⟨by omega,h3⟩,hv]
 rfl
theorem sProfTake_c (xs : List Pt) (fr te : Int) (v : Vec) (A : Option Addr) (n c : Nat) (w : World) (h : SlAt RPt 4 w A n xs) (hl : n ≤ maxLen) : Calls Tryz.prog 92 #[.agg #[.slice A n c],.int .i64 fr,.int .i64 te,.agg #[.int .i64 v.A,.int .i64 v.B,.int .i64 v.C]] w (RetP w (takeQ xs fr te v)) := by
 have hM := Flat.mono Pt.enc Pt.ok
 have HPM := Hh (fun (u : World) (e : Ext w u) => sProfMin_c xs fr te A n c u (h.ext hM e) hl)
 have HCH := Hh (fun (u : World) (e : Ext w u) (hp : profB xs = true) (hs : spanT fr te = true) => l03Change_c xs fr te v A n c u (h.ext hM e) hp hs)
 clear h
 rcases (Bool.eq_false_or_eq_true (overB xs fr te)).symm with h1 | h1
 all_goals rw [h1] at HPM
 ·have HN := Hh (show takeQ xs fr te v = none by unfold takeQ;rw [show (profB xs && spanT fr te) = false from h1];rfl)
  clear HCH h1
  go_enter Tryz.func92,Tryz.ntmps92
  go_wp2_with fail
  refine (HPM.out _ ((((Ext.refl _).alloc _).alloc _).alloc _)).mono ?_
  rintro e w1 ⟨y,rfl,hb1⟩
  have q0 := bc1 ((w.alloc (.cells #[.slice A n c] 71)).alloc (.cells #[.int .i64 v.A,.int .i64 v.B,.int .i64 v.C] 29)) (w.heap.size + 1 + 1) (.slice none 0 0) 71 ((hb1)) (by simp)
  have qf0 := YtfanjhcdjbnnnaaGreat.bf1 ((w.alloc (.cells #[.slice A n c] 71)).alloc (.cells #[.int .i64 v.A,.int .i64 v.B,.int .i64 v.C] 29)) (w.heap.size + 1 + 1) (.slice none 0 0) 71 ((hb1)) (by simp)
  have hz1 := lt_of_cell q0
  go_wp2
  exact bodyPost_ret (v := .tuple #[.agg #[.slice none 0 0],.bool false]) (by simp [results,Tryz.results92,go_sem, *]) rfl (retP_none HN.out ((((((Ext.refl w).alloc _).alloc _).alloc _).trans hb1).setCell (by first | omega | (simp;omega) | simp) _ |>.alloc _))
 ·obtain ⟨hp,hs⟩ : profB xs = true ∧ spanT fr te = true := by
   have : (profB xs && spanT fr te) = true := h1
   rw [Bool.and_eq_true] at this;exact this
  have HQ := Hh (show takeP xs fr te v = takeQ xs fr te v by
   unfold takeQ;rw [hp,hs]
   rcases hv : vecB v with _ | _
   ·rw [takeP_bad hs hv];rfl
   ·rfl)
  have HC := Hh (fun (u : World) (e : Ext w u) => HCH.out u e hp hs)
  rw [HQ.out] at HC
  clear HCH HQ h1 hp hs
  generalize takeQ xs fr te v = R at *
  go_enter Tryz.func92,Tryz.ntmps92
  go_wp2_with fail
  refine (HPM.out _ ((((Ext.refl _).alloc _).alloc _).alloc _)).mono ?_
  rintro e w1 ⟨y,rfl,hb1⟩
  have p0 := bc1 w (w.heap.size) (.slice A n c) 71 (((((Ext.refl _).alloc _).alloc _).trans hb1)) (by simp)
  have pf0 := YtfanjhcdjbnnnaaGreat.bf1 w (w.heap.size) (.slice A n c) 71 (((((Ext.refl _).alloc _).alloc _).trans hb1)) (by simp)
  obtain ⟨b0,b1,b2⟩ := bc3 (w.alloc (.cells #[.slice A n c] 71)) (w.heap.size + 1) (.int .i64 v.A) (.int .i64 v.B) (.int .i64 v.C) 29 ((((Ext.refl _).alloc _).trans hb1)) (by simp)
  obtain ⟨bf0,bf1,bf2⟩ := bf3 (w.alloc (.cells #[.slice A n c] 71)) (w.heap.size + 1) (.int .i64 v.A) (.int .i64 v.B) (.int .i64 v.C) 29 ((((Ext.refl _).alloc _).trans hb1)) (by simp)
  have hx1 : Ext w w1 := ((((Ext.refl w).alloc _).alloc _).alloc _).trans hb1
  have bl := lt_of_cell b0
  have pl := lt_of_cell p0
  have hz1 := hb1.le
  simp at hz1
  go_wp2_with fail
  refine (HC.out _ Ext.go).mono ?_
  rintro e w5 ⟨A5,c5,l,rfl,hr,ho5,hy5,hb5⟩
  have HR := Hh hr
  have HO5 := Hh ho5
  have HY5 := Hh hy5
  have hz5 := hb5.le
  simp at hz5
  clear hr ho5 hy5 p0 pf0 b0 b1 b2 bf0 bf1 bf2
  have hb15 : Ext w1 w5 := Ext.trans Ext.go hb5
  have q0 := bc1 ((w.alloc (.cells #[.slice A n c] 71)).alloc (.cells #[.int .i64 v.A,.int .i64 v.B,.int .i64 v.C] 29)) (w.heap.size + 1 + 1) (.slice none 0 0) 71 ((hb1.trans hb15)) (by simp)
  have qf0 := YtfanjhcdjbnnnaaGreat.bf1 ((w.alloc (.cells #[.slice A n c] 71)).alloc (.cells #[.int .i64 v.A,.int .i64 v.B,.int .i64 v.C] 29)) (w.heap.size + 1 + 1) (.slice none 0 0) 71 ((hb1.trans hb15)) (by simp)
  have hq5 := lt_of_cell q0
  have hx5 : Ext w w5 := hx1.trans hb15
  go_wp2
  exact bodyPost_ret (v := .tuple #[.agg #[.slice A5 l.length c5],.bool R.isSome]) (by simp [results,Tryz.results92,go_sem, *]) rfl ⟨A5,c5,l,rfl,HR.out,owns_base (own_set HO5.out (by simp;omega)) (by simp;omega),HY5.out,Ext.go⟩
end Go.Proofs.YtfanjhcdjbnnnaaGreat
