/- HeapQ, NextF, DuesI, DuesLaw, DuesJ. -/
import Derived.Test.YtfanjhcdjbnnnaaGreatK42
import Derived.Test.YtfanjhcdjbnnnaaGreatK15
import Derived.Test.YtfanjhcdjbnnnaaGreatK27
import Derived.Test.YtfanjhcdjbnnnaaGreatK32
import Derived.Test.YtfanjhcdjbnnnaaGreatK24
namespace Go.Proofs.YtfanjhcdjbnnnaaGreat
open Go.RowKit
set_option linter.unusedVariables false
set_option maxHeartbeats 8000000
set_option maxRecDepth 10000
def RetPop (w : World) (xs : List Due) : Ending → World → Prop := fun e w' => ∃ (d : Due) (A : Option Addr) (m c : Nat) (ok : Bool),e = .returned (.tuple #[.agg #[.int .i64 d.At,.int .i64 d.Id],.slice A m c,.bool ok]) ∧ ok = decide (0 < xs.length) ∧ (0 < xs.length → d = nthD xs 0 ∧ m + 1 = xs.length) ∧ Ext w w'
theorem HeapPop_c (xs : List Due) (A : Option Addr) (n c : Nat) (w : World) (h : SlAt RDue 2 w A n xs) (hh : heapB xs = true) (hcap : n ≤ c) (hn : n ≤ 200) : Calls Tryz.prog 9 #[.slice A n c] w (RetPop w xs) := by
 obtain ⟨i1,hi1,hJ0,hJ1,hJ2⟩ := info_parts Due.info
 have HH := Hh (fun (u : World) (e : Ext w u) => HeapOk_c xs A n c u (h.ext (Flat.mono _ _) e) (by unfold maxLen;omega))
 rw [hh] at HH
 have H4 := Hh (fun (u : World) (e : Ext w u) => h.ext (Flat.mono Due.enc Due.ok) e)
 have HN := Hh h.len
 have HXK := Hh h.all
 have HRB := Hh (gbox w [.int .i64 0,.int .i64 0] 42 2 rfl)
 clear h hh
 by_cases h0 : n = 0
 ·subst h0
  go_enter Tryz.func9,Tryz.ntmps9
  go_wp2_with fail
  refine (HH.out _ ((Ext.refl w).alloc _)).mono ?_
  rintro e w1 ⟨rfl,hb1⟩
  have HR1 := Hh (owns_ext HRB.out hb1)
  obtain ⟨q0,q1,qf0,qf1,ql⟩ := gcells2 HR1.out
  have HE := Hh ((((((Ext.refl w).alloc _).trans hb1).setCell (p := ⟨w.heap.size,0,none⟩) (Nat.le_refl _) (.int .i64 0)).setCell (p := ⟨w.heap.size,1,none⟩) (Nat.le_refl _) (.int .i64 0)))
  have HN0 := Hh (show ¬ 0 < xs.length by rw [HN.out];omega)
  clear hb1
  go_wp2
  exact bodyPost_ret (v := .tuple #[.agg #[.int .i64 0,.int .i64 0],.slice none 0 0,.bool false]) (by simp [results,Tryz.results9,go_sem, *]) rfl ⟨⟨0,0⟩,none,0,0,false,rfl,(decide_eq_false HN0.out).symm,(fun h => absurd h HN0.out),HE.out⟩
 obtain ⟨m,rfl⟩ : ∃ m,n = m + 1 := ⟨n - 1,by omega⟩
 clear h0
 have hw1 : IntKind.i64.wrap (((m + 1 : Nat) : Int) - 1) = (m : Int) := by rw [show ((m + 1 : Nat) : Int) - 1 = (m : Int) by omega];exact IntWalk.i64_in _ ⟨by omega,by omega⟩
 have hw2 : IntKind.i64.wrap ((m : Int) + 1 - 1) = (m : Int) := by rw [show (m : Int) + 1 - 1 = (m : Int) by omega];exact IntWalk.i64_in _ ⟨by omega,by omega⟩
 have hz1 : (((m + 1 : Nat) : Int) == 0) = false := by rw [beq_eq_false_iff_ne];omega
 have hz2 : ((m : Int) + 1 == 0) = false := by rw [beq_eq_false_iff_ne];omega
 have hmc : m ≤ c := by omega
 have hmc2 : (m : Int) ≤ (c : Int) := by omega
 have HPOS := Hh (show 0 < xs.length by rw [HN.out];omega)
 have HTK := Hh (fun (u : World) (e : Ext w u) => (H4.out u e).cutk (show m ≤ m + 1 by omega))
 have HTO := Hh (show ∀ x ∈ xs.take m,x.ok from fun x hx => HXK.out x (List.mem_of_mem_take hx))
 have HTL := Hh (show (xs.take m).length = m by rw [List.length_take,HN.out];omega)
 go_enter Tryz.func9,Tryz.ntmps9
 go_wp2_with fail
 refine (HH.out _ ((Ext.refl w).alloc _)).mono ?_
 rintro e W ⟨rfl,hb1⟩
 have HR1 := Hh (owns_ext HRB.out hb1)
 have HE1 := Hh (((Ext.refl w).alloc (.cells #[.int .i64 0,.int .i64 0] 42)).trans hb1)
 have hlw : w.heap.size < W.heap.size := (HR1.out.lt _ rfl).2
 clear hb1 HH HRB
 go_upto_region 5 with (at_builtin;go_must (refine wpList_append_k (enc := Due.enc) (ok := Due.ok) (.tmp 21) (.tmp 24) _ W.heap.size 42 i1 _ 2 16 (.slice (some ⟨W.heap.size,0,none⟩) 0 0) 0 [] A m c (xs.take m) m ((xs.take m).flatMap Due.enc) (Nat.zero_add _) rfl rfl rfl Tryz.underlying36 hi1 hJ0 hJ1 hJ2 rfl (by omega) rfl (owns_empty W 42 2) rfl (HTK.out _ (HE1.out.alloc _)) Due.size Due.one (by unfold maxLen;omega) (by omega) (by simp) ?_);intro A6 c6 w6 hr;have HR6 := Hh hr;clear hr)
 have HX6 := Hh (HR6.out.fresh_ext (u := W) ((Ext.refl _).alloc _) (fun q hq => by injection hq with hq;rw [← hq];exact Nat.le_refl _))
 have HO6 := Hh HR6.out.row
 have HRS6 := Hh (owns_ext HR1.out HX6.out)
 have HE6 := Hh (HE1.out.trans HX6.out)
 clear HR6 HR1 HX6
 obtain ⟨bo,oo,x,cs,rfl,hbw,hx,_,hc,rfl,hok⟩ := (H4.out w (Ext.refl w)).at_ (show 0 < m + 1 by omega)
 have HNX := Hh (show nthD xs 0 = x by unfold nthD;rw [List.getD_eq_getElem?_getD,hx];rfl)
 have HGX := Hh (show ∀ u,Ext w u → u.cell? ⟨bo,oo,none⟩ = some (.int .i64 x.At) ∧ u.cell? ⟨bo,oo + 1,none⟩ = some (.int .i64 x.Id) ∧ bo < u.heap.size from fun u e => ⟨e.cell (by have := hc 0 _ rfl;simpa using this),e.cell (by have := hc 1 _ rfl;simpa using this),Nat.lt_of_lt_of_le hbw e.le⟩)
 obtain ⟨g0,g1,gl⟩ := HGX.out w6 HE6.out
 clear hc hx hok
 by_cases hm0 : m = 0
 ·subst hm0
  obtain ⟨q0,q1,qf0,qf1,ql⟩ := gcells2 HRS6.out
  have HE := Hh ((HE6.out.setCell (p := ⟨w.heap.size,0,none⟩) (Nat.le_refl _) (.int .i64 x.At)).setCell (p := ⟨w.heap.size,1,none⟩) (Nat.le_refl _) (.int .i64 x.Id))
  go_wp2
  exact bodyPost_ret (v := .tuple #[.agg #[.int .i64 x.At,.int .i64 x.Id],.slice A6 0 c6,.bool true]) (by simp [results,Tryz.results9,go_sem, *]) rfl ⟨x,A6,0,c6,true,rfl,(decide_eq_true HPOS.out).symm,(fun _ => ⟨HNX.out.symm,HN.out.symm⟩),HE.out⟩
 have hmz1 : ((m : Int) == 0) = false := by rw [beq_eq_false_iff_ne];omega
 have hm1 : 0 < m := by omega
 have hm1i : (0 : Int) < (m : Int) := by omega
 clear hm0
 obtain ⟨b2,o2,y,cs2,e2,_,hy,_,hc2,rfl,hoky⟩ := (H4.out w6 HE6.out).at_ (show m < m + 1 by omega)
 injection e2 with e2
 injection e2 with e3 e4 _
 subst e3
 subst e4
 have k0 : w6.cell? ⟨bo,oo + m * 2,none⟩ = some (.int .i64 y.At) := by have := hc2 0 _ rfl;simpa using this
 have k1 : w6.cell? ⟨bo,oo + m * 2 + 1,none⟩ = some (.int .i64 y.Id) := by have := hc2 1 _ rfl;simpa using this
 have HYK := Hh hoky
 clear hc2 hy hoky
 obtain ⟨b,rfl,hb0,hbl⟩ := down_form HO6.out hm1
 obtain ⟨z0,hz0⟩ := owns_cell HO6.out (j := 0) (by omega)
 obtain ⟨z1,hz1'⟩ := owns_cell HO6.out (j := 1) (by omega)
 have zf0 := HO6.out.frozenAt 0
 have zf1 := HO6.out.frozenAt 1
 have HROW := Hh (show ∃ hs : List Due,hs.length = m ∧ (∀ x ∈ hs,x.ok) ∧ ((w6.setCell ⟨b,0,none⟩ (.int .i64 y.At)).setCell ⟨b,1,none⟩ (.int .i64 y.Id)).ownsRow W.heap.size 42 2 (.slice (some ⟨b,0,none⟩) m c6) m (hs.flatMap Due.enc) from by
  have h0 := HO6.out
  rw [← HTL.out] at h0
  obtain ⟨t,ht⟩ : ∃ t,(xs.take m)[0]? = some t := ⟨_,List.getElem?_eq_getElem (by rw [HTL.out];exact hm1)⟩
  rw [HTL.out] at h0
  have h1 : w6.ownsRow W.heap.size 42 2 (.slice (some ⟨b,0,none⟩) (xs.take m).length c6) (xs.take m).length ((xs.take m).flatMap Due.enc) := by rw [HTL.out];exact h0
  have e1 := owns_put (k := 0) (j := 0) (x' := (⟨y.At,t.Id⟩ : Due)) Due.size (by omega) ht (u := .int .i64 y.At) rfl h1
  have g1 : ((xs.take m).set 0 ⟨y.At,t.Id⟩)[0]? = some ⟨y.At,t.Id⟩ := by rw [List.getElem?_set_self (by rw [HTL.out];exact hm1)]
  have e2 := owns_put (k := 0) (j := 1) (x' := y) Due.size (by omega) g1 (u := .int .i64 y.Id) rfl e1
  rw [List.set_set] at e2
  refine ⟨(xs.take m).set 0 y,by rw [List.length_set];exact HTL.out,all_set HTO.out HYK.out, ?_⟩
  rw [show ((xs.take m).set 0 y).length = m by rw [List.length_set];exact HTL.out] at e2
  simpa using e2)
 have HE7 := Hh ((HE6.out.setCell (p := ⟨b,0,none⟩) (show w.heap.size ≤ b by omega) (.int .i64 y.At)).setCell (p := ⟨b,1,none⟩) (show w.heap.size ≤ b by omega) (.int .i64 y.Id))
 have HQ7 := Hh (g_far (g_far HRS6.out (g := b) (p := 0) (u := .int .i64 y.At) (by simp [Value.ownBlock];omega)) (g := b) (p := 1) (u := .int .i64 y.Id) (by simp [Value.ownBlock];omega))
 go_upto_region 9 with fail
 generalize ((w6.setCell ⟨b,0,none⟩ (.int .i64 y.At)).setCell ⟨b,1,none⟩ (.int .i64 y.Id)) = w7 at *
 clear hz0 hz1' zf0 zf1 k0 k1 g0 g1 gl hbl
 obtain ⟨hs0,hl0,ho0,hr0⟩ := HROW.out
 have HL0 := Hh hl0
 have HO0 := Hh ho0
 have HR0 := Hh hr0
 clear hl0 ho0 hr0 HROW HO6 HRS6 HE6
 go_loopw [7] (fun iv wr => ∃ (i : Nat) (hs : List Due),i < m ∧ iv = .int .i64 i ∧ Hid (hs.length = m) ∧ Hid (∀ x ∈ hs,x.ok) ∧ Hid (wr.ownsRow W.heap.size 42 2 (.slice (some ⟨b,0,none⟩) m c6) m (hs.flatMap Due.enc)) ∧ Hid (wr.ownsRow w.heap.size 42 2 (.slice (some ⟨w.heap.size,0,none⟩) 1 1) 1 [.int .i64 0,.int .i64 0]) ∧ Hid (Ext w wr)) (fun iv _ => m - (intOf iv).toNat)
 case atStart => exact ⟨0,hs0,hm1,rfl,HL0,HO0,HR0,HQ7,HE7⟩
 case round =>
  clear HL0 HO0 HR0 HQ7 HE7
  obtain ⟨i,hs,hi,rfl,HL,HO,HR,HQ,HE⟩ := hrel
  have hw3 : IntKind.i64.wrap (2 * (i : Int)) = 2 * (i : Int) := IntWalk.i64_in _ ⟨by omega,by omega⟩
  have hw4 : IntKind.i64.wrap (2 * (i : Int) + 1) = 2 * (i : Int) + 1 := IntWalk.i64_in _ ⟨by omega,by omega⟩
  by_cases hk : 2 * i + 1 < m
  rotate_left
  ·have hkd : decide (2 * (i : Int) + 1 < (m : Int)) = false := by rw [decide_eq_false_iff_not];omega
   obtain ⟨g0,g1,gl⟩ := HGX.out wr HE.out
   obtain ⟨q0,q1,qf0,qf1,ql⟩ := gcells2 HQ.out
   have HEF := Hh ((HE.out.setCell (p := ⟨w.heap.size,0,none⟩) (Nat.le_refl _) (.int .i64 x.At)).setCell (p := ⟨w.heap.size,1,none⟩) (Nat.le_refl _) (.int .i64 x.Id))
   go_wp2
   exact bodyPost_ret (v := .tuple #[.agg #[.int .i64 x.At,.int .i64 x.Id],.slice (some ⟨b,0,none⟩) m c6,.bool true]) (by simp [results,Tryz.results9,go_sem, *]) rfl ⟨x,some ⟨b,0,none⟩,m,c6,true,rfl,(decide_eq_true HPOS.out).symm,(fun _ => ⟨HNX.out.symm,HN.out.symm⟩),HEF.out⟩
  have hkd : decide (2 * (i : Int) + 1 < (m : Int)) = true := by rw [decide_eq_true_iff];omega
  have hw5 : IntKind.i64.wrap (2 * (i : Int) + 1 + 1) = 2 * (i : Int) + 1 + 1 := IntWalk.i64_in _ ⟨by omega,by omega⟩
  have ht1 : (2 * (i : Int) + 1).toNat = 2 * i + 1 := by omega
  have ht2 : (2 * (i : Int) + 1 + 1).toNat = 2 * i + 2 := by omega
  have hp1 : (0 : Int) ≤ 2 * (i : Int) + 1 := by omega
  have hp2 : (0 : Int) ≤ 2 * (i : Int) + 1 + 1 := by omega
  have HCL := Hh (show ∀ (j : Nat),j < m → ∃ z : Due,hs[j]? = some z ∧ ∀ u,Ext wr u → u.cell? ⟨b,j * 2,none⟩ = some (.int .i64 z.At) ∧ u.cell? ⟨b,j * 2 + 1,none⟩ = some (.int .i64 z.Id) from fun j hj => by
   obtain ⟨z,hz⟩ : ∃ z,hs[j]? = some z := ⟨_,List.getElem?_eq_getElem (by rw [HL.out];exact hj)⟩
   refine ⟨z,hz,fun u e => ⟨e.cell ?_,e.cell ?_⟩⟩
   ·rw [HR.out.cellAt (j * 2) (by omega)];exact (flatMap_get (enc := Due.enc) (j := 0) Due.size (by omega) hz).trans rfl
   ·rw [HR.out.cellAt (j * 2 + 1) (by omega)];exact (flatMap_get (enc := Due.enc) (j := 1) Due.size (by omega) hz).trans rfl)
  have hbw2 : b < wr.heap.size := (HR.out.lt b rfl).2
  go_upto_region 11 with fail
  go_cut [61] from 46 to 61 (fun s61 wx => ∃ r : Bool,s61 = .bool r ∧ Hid (r = true → 2 * i + 2 < m) ∧ Ext wr wx)
  case first =>
   by_cases hk2 : 2 * i + 2 < m
   ·have hkd2 : decide (2 * (i : Int) + 1 + 1 < (m : Int)) = true := by rw [decide_eq_true_iff];omega
    have hk3 : 2 * (i : Int) + 1 + 1 < (m : Int) := by omega
    have hk4 : 2 * (i : Int) + 1 < (m : Int) := by omega
    obtain ⟨x1,hx1,hc1⟩ := HCL.out (2 * i + 2) hk2
    obtain ⟨x2,hx2,hc2⟩ := HCL.out (2 * i + 1) hk
    obtain ⟨p0,p1⟩ := hc1 wr (Ext.refl _)
    obtain ⟨y0,y1⟩ := hc2 wr (Ext.refl _)
    have HDF := Hh (fun u : World => DueFirst_c x1 x2 u)
    clear hx1 hx2 hc1 hc2
    rcases hr : dueFirst x1 x2 with _ | _
    all_goals rw [hr] at HDF
    ·have hcx := @Later.cell wr
     refine wp_region_ext (by kernel_rfl) (by kernel_rfl) ?_
     repeat (go_big_quiet_step ((go_at_call 18;exact Calls.quiet_ext (HDF.out _))))
     refine wpQuiet_nil ?_
     intro w9 hb9
     have HB9 := Hh hb9
     clear hcx  hb9
     go_wp2
     go_meet
     exact ⟨false,rfl,Hh (fun h => by cases h),HB9.out⟩
    ·have hcx := @Later.cell wr
     refine wp_region_ext (by kernel_rfl) (by kernel_rfl) ?_
     repeat (go_big_quiet_step ((go_at_call 18;exact Calls.quiet_ext (HDF.out _))))
     refine wpQuiet_nil ?_
     intro w9 hb9
     have HB9 := Hh hb9
     clear hcx  hb9
     go_wp2
     go_meet
     exact ⟨true,rfl,Hh (fun _ => hk2),HB9.out⟩
   ·have hkd2 : decide (2 * (i : Int) + 1 + 1 < (m : Int)) = false := by rw [decide_eq_false_iff_not];omega
    have hcx := @Later.cell wr
    refine wp_region_ext (by kernel_rfl) (by kernel_rfl) ?_
    repeat (go_big_quiet_step ((go_at_call 18;exact Calls.quiet_ext ((DueFirst_c dueZ dueZ _)))))
    refine wpQuiet_nil ?_
    intro w9 hb9
    have HB9 := Hh hb9
    clear hcx  hb9
    go_wp2
    go_meet
    exact ⟨false,rfl,Hh (fun h => by cases h),HB9.out⟩
  case rest =>
   obtain ⟨r,rfl,HRR,hx9⟩ := hcut
   have hwb : w.heap.size ≤ b := by omega
   have hwn : (Value.slice (some ⟨w.heap.size,0,none⟩) 1 1).ownBlock ≠ some b := by simp [Value.ownBlock];omega
   rcases r with _ | _
   ·skip
    obtain ⟨z1,hz1,hc1⟩ := HCL.out (2 * i + 1) (by omega)
    obtain ⟨z2,hz2,hc2⟩ := HCL.out i hi
    obtain ⟨p0,p1⟩ := hc1 wc hx9
    obtain ⟨y0,y1⟩ := hc2 wc hx9
    have HDF := Hh (fun u : World => DueFirst_c z1 z2 u)
    have HZ1 := Hh hz1
    have HZ2 := Hh hz2
    have HX9 := Hh hx9
    have hbc : b < wc.heap.size := Nat.lt_of_lt_of_le hbw2 hx9.le
    have hki : (2 * i + 1) < m := by omega
    have hki2 : 2 * (i : Int) + 1 < (m : Int) := by omega
    have hii : (i : Int) < (m : Int) := by omega
    clear hz1 hz2 hc1 hc2 hx9
    rcases hr : dueFirst z1 z2 with _ | _
    all_goals rw [hr] at HDF
    all_goals clear hr
    ·have hcx := @Later.cell wc
     go_upto_region 13 with fail
     refine wp_region_ext (by kernel_rfl) (by kernel_rfl) ?_
     repeat (go_big_quiet_step ((go_at_call 18;exact Calls.quiet_ext (HDF.out _))))
     refine wpQuiet_nil ?_
     intro w9 hb9
     have HB9 := Hh hb9
     clear hcx  hb9
     have HE9 := Hh (HE.out.trans (HX9.out.trans HB9.out))
     have HQ9 := Hh (owns_ext HQ.out (HX9.out.trans HB9.out))
     obtain ⟨g0,g1,gl⟩ := HGX.out w9 HE9.out
     obtain ⟨q0,q1,qf0,qf1,ql⟩ := gcells2 HQ9.out
     have HEF := Hh ((HE9.out.setCell (p := ⟨w.heap.size,0,none⟩) (Nat.le_refl _) (.int .i64 x.At)).setCell (p := ⟨w.heap.size,1,none⟩) (Nat.le_refl _) (.int .i64 x.Id))
     go_wp2
     exact bodyPost_ret (v := .tuple #[.agg #[.int .i64 x.At,.int .i64 x.Id],.slice (some ⟨b,0,none⟩) m c6,.bool true]) (by simp [results,Tryz.results9,go_sem, *]) rfl ⟨x,some ⟨b,0,none⟩,m,c6,true,rfl,(decide_eq_true HPOS.out).symm,(fun _ => ⟨HNX.out.symm,HN.out.symm⟩),HEF.out⟩
    ·have hcx := @Later.cell wc
     go_upto_region 13 with fail
     refine wp_region_ext (by kernel_rfl) (by kernel_rfl) ?_
     repeat (go_big_quiet_step ((go_at_call 18;exact Calls.quiet_ext (HDF.out _))))
     refine wpQuiet_nil ?_
     intro w9 hb9
     have HB9 := Hh hb9
     clear hcx  hb9
     have P0 := HB9.out.cell p0
     have P1 := HB9.out.cell p1
     have Y0 := HB9.out.cell y0
     have Y1 := HB9.out.cell y1
     have HR9 := Hh (owns_ext HR.out (HX9.out.trans HB9.out))
     have f0 := HR9.out.frozenAt (i * 2)
     have f1 := HR9.out.frozenAt (i * 2 + 1)
     have f2 := HR9.out.frozenAt ((2 * i + 1) * 2)
     have f3 := HR9.out.frozenAt ((2 * i + 1) * 2 + 1)
     have hb9 : b < w9.heap.size := lt_of_cell P0
     clear p0 p1 y0 y1 hbc
     go_upto_region 14 with fail
     go_region_law (fail)
     all_goals
      have HW := Hh (show ∃ hs' : List Due,hs'.length = m ∧ (∀ z ∈ hs',z.ok) ∧ ((((w9.setCell ⟨b,i * 2,none⟩ (.int .i64 z1.At)).setCell ⟨b,i * 2 + 1,none⟩ (.int .i64 z1.Id)).setCell ⟨b,(2 * i + 1) * 2,none⟩ (.int .i64 z2.At)).setCell ⟨b,(2 * i + 1) * 2 + 1,none⟩ (.int .i64 z2.Id)).drew.ownsRow W.heap.size 42 2 (.slice (some ⟨b,0,none⟩) m c6) m (hs'.flatMap Due.enc) from by
       have h0 := HR9.out
       rw [← HL.out] at h0
       have hli : i < hs.length := by rw [HL.out];exact hi
       have hlk : (2 * i + 1) < hs.length := by rw [HL.out];exact hki
       have e1 := owns_put (k := i) (j := 0) (x' := (⟨z1.At,z2.Id⟩ : Due)) Due.size (by omega) HZ2.out (u := .int .i64 z1.At) rfl h0
       have g1 : (hs.set i ⟨z1.At,z2.Id⟩)[i]? = some ⟨z1.At,z2.Id⟩ := by rw [List.getElem?_set_self hli]
       have e2 := owns_put (k := i) (j := 1) (x' := z1) Due.size (by omega) g1 (u := .int .i64 z1.Id) rfl e1
       rw [List.set_set] at e2
       have g2 : (hs.set i z1)[(2 * i + 1)]? = some z1 := by rw [List.getElem?_set_ne (by omega)];exact HZ1.out
       have e3 := owns_put (k := (2 * i + 1)) (j := 0) (x' := (⟨z2.At,z1.Id⟩ : Due)) Due.size (by omega) g2 (u := .int .i64 z2.At) rfl e2
       have g3 : ((hs.set i z1).set (2 * i + 1) ⟨z2.At,z1.Id⟩)[(2 * i + 1)]? = some ⟨z2.At,z1.Id⟩ := by rw [List.getElem?_set_self (by rw [List.length_set];exact hlk)]
       have e4 := owns_put (k := (2 * i + 1)) (j := 1) (x' := z2) Due.size (by omega) g3 (u := .int .i64 z2.Id) rfl e3
       rw [List.set_set] at e4
       rw [show ((hs.set i z1).set (2 * i + 1) z2).length = m by rw [List.length_set,List.length_set];exact HL.out] at e4
       simp only [Nat.add_zero] at e4
       exact ⟨(hs.set i z1).set (2 * i + 1) z2,by rw [List.length_set,List.length_set];exact HL.out,all_set (all_set HO.out (HO.out _ (List.mem_of_getElem? HZ1.out))) (HO.out _ (List.mem_of_getElem? HZ2.out)),owns_ext e4 ((Ext.refl _).drew)⟩)
      have HXW := Hh (show Ext w ((((w9.setCell ⟨b,i * 2,none⟩ (.int .i64 z1.At)).setCell ⟨b,i * 2 + 1,none⟩ (.int .i64 z1.Id)).setCell ⟨b,(2 * i + 1) * 2,none⟩ (.int .i64 z2.At)).setCell ⟨b,(2 * i + 1) * 2 + 1,none⟩ (.int .i64 z2.Id)).drew from Ext.drew (Ext.setCell (Ext.setCell (Ext.setCell (Ext.setCell (HE.out.trans (HX9.out.trans HB9.out)) hwb _) hwb _) hwb _) hwb _))
      have HQW := Hh (show ((((w9.setCell ⟨b,i * 2,none⟩ (.int .i64 z1.At)).setCell ⟨b,i * 2 + 1,none⟩ (.int .i64 z1.Id)).setCell ⟨b,(2 * i + 1) * 2,none⟩ (.int .i64 z2.At)).setCell ⟨b,(2 * i + 1) * 2 + 1,none⟩ (.int .i64 z2.Id)).drew.ownsRow w.heap.size 42 2 (.slice (some ⟨w.heap.size,0,none⟩) 1 1) 1 [.int .i64 0,.int .i64 0] from
       owns_ext (g_far (g_far (g_far (g_far (owns_ext HQ.out (HX9.out.trans HB9.out)) hwn) hwn) hwn) hwn) ((Ext.refl _).drew))
      obtain ⟨hs2,hl2,ho2,hr2⟩ := HW.out
      have HL2 := Hh hl2
      have HO2 := Hh ho2
      have HR2 := Hh hr2
      clear hl2 ho2 hr2 HW P0 P1 Y0 Y1 f0 f1 f2 f3 HR9 HR HQ HE HL HO HCL
      go_wp2
      go_roundw
      case rel => exact ⟨2 * i + 1,hs2,hki,(by simp;try omega),HL2,HO2,HR2,HQW,HXW⟩
      case measure => simp [intOf];omega
   ·have hk2 := HRR.out rfl
    obtain ⟨z1,hz1,hc1⟩ := HCL.out (2 * i + 2) (by omega)
    obtain ⟨z2,hz2,hc2⟩ := HCL.out i hi
    obtain ⟨p0,p1⟩ := hc1 wc hx9
    obtain ⟨y0,y1⟩ := hc2 wc hx9
    have HDF := Hh (fun u : World => DueFirst_c z1 z2 u)
    have HZ1 := Hh hz1
    have HZ2 := Hh hz2
    have HX9 := Hh hx9
    have hbc : b < wc.heap.size := Nat.lt_of_lt_of_le hbw2 hx9.le
    have hki : (2 * i + 2) < m := by omega
    have hki2 : 2 * (i : Int) + 1 + 1 < (m : Int) := by omega
    have hii : (i : Int) < (m : Int) := by omega
    clear hz1 hz2 hc1 hc2 hx9
    rcases hr : dueFirst z1 z2 with _ | _
    all_goals rw [hr] at HDF
    all_goals clear hr
    ·have hcx := @Later.cell wc
     go_upto_region 13 with fail
     refine wp_region_ext (by kernel_rfl) (by kernel_rfl) ?_
     repeat (go_big_quiet_step ((go_at_call 18;exact Calls.quiet_ext (HDF.out _))))
     refine wpQuiet_nil ?_
     intro w9 hb9
     have HB9 := Hh hb9
     clear hcx  hb9
     have HE9 := Hh (HE.out.trans (HX9.out.trans HB9.out))
     have HQ9 := Hh (owns_ext HQ.out (HX9.out.trans HB9.out))
     obtain ⟨g0,g1,gl⟩ := HGX.out w9 HE9.out
     obtain ⟨q0,q1,qf0,qf1,ql⟩ := gcells2 HQ9.out
     have HEF := Hh ((HE9.out.setCell (p := ⟨w.heap.size,0,none⟩) (Nat.le_refl _) (.int .i64 x.At)).setCell (p := ⟨w.heap.size,1,none⟩) (Nat.le_refl _) (.int .i64 x.Id))
     go_wp2
     exact bodyPost_ret (v := .tuple #[.agg #[.int .i64 x.At,.int .i64 x.Id],.slice (some ⟨b,0,none⟩) m c6,.bool true]) (by simp [results,Tryz.results9,go_sem, *]) rfl ⟨x,some ⟨b,0,none⟩,m,c6,true,rfl,(decide_eq_true HPOS.out).symm,(fun _ => ⟨HNX.out.symm,HN.out.symm⟩),HEF.out⟩
    ·have hcx := @Later.cell wc
     go_upto_region 13 with fail
     refine wp_region_ext (by kernel_rfl) (by kernel_rfl) ?_
     repeat (go_big_quiet_step ((go_at_call 18;exact Calls.quiet_ext (HDF.out _))))
     refine wpQuiet_nil ?_
     intro w9 hb9
     have HB9 := Hh hb9
     clear hcx  hb9
     have P0 := HB9.out.cell p0
     have P1 := HB9.out.cell p1
     have Y0 := HB9.out.cell y0
     have Y1 := HB9.out.cell y1
     have HR9 := Hh (owns_ext HR.out (HX9.out.trans HB9.out))
     have f0 := HR9.out.frozenAt (i * 2)
     have f1 := HR9.out.frozenAt (i * 2 + 1)
     have f2 := HR9.out.frozenAt ((2 * i + 2) * 2)
     have f3 := HR9.out.frozenAt ((2 * i + 2) * 2 + 1)
     have hb9 : b < w9.heap.size := lt_of_cell P0
     clear p0 p1 y0 y1 hbc
     go_upto_region 14 with fail
     go_region_law (fail)
     all_goals
      have HW := Hh (show ∃ hs' : List Due,hs'.length = m ∧ (∀ z ∈ hs',z.ok) ∧ ((((w9.setCell ⟨b,i * 2,none⟩ (.int .i64 z1.At)).setCell ⟨b,i * 2 + 1,none⟩ (.int .i64 z1.Id)).setCell ⟨b,(2 * i + 2) * 2,none⟩ (.int .i64 z2.At)).setCell ⟨b,(2 * i + 2) * 2 + 1,none⟩ (.int .i64 z2.Id)).drew.ownsRow W.heap.size 42 2 (.slice (some ⟨b,0,none⟩) m c6) m (hs'.flatMap Due.enc) from by
       have h0 := HR9.out
       rw [← HL.out] at h0
       have hli : i < hs.length := by rw [HL.out];exact hi
       have hlk : (2 * i + 2) < hs.length := by rw [HL.out];exact hki
       have e1 := owns_put (k := i) (j := 0) (x' := (⟨z1.At,z2.Id⟩ : Due)) Due.size (by omega) HZ2.out (u := .int .i64 z1.At) rfl h0
       have g1 : (hs.set i ⟨z1.At,z2.Id⟩)[i]? = some ⟨z1.At,z2.Id⟩ := by rw [List.getElem?_set_self hli]
       have e2 := owns_put (k := i) (j := 1) (x' := z1) Due.size (by omega) g1 (u := .int .i64 z1.Id) rfl e1
       rw [List.set_set] at e2
       have g2 : (hs.set i z1)[(2 * i + 2)]? = some z1 := by rw [List.getElem?_set_ne (by omega)];exact HZ1.out
       have e3 := owns_put (k := (2 * i + 2)) (j := 0) (x' := (⟨z2.At,z1.Id⟩ : Due)) Due.size (by omega) g2 (u := .int .i64 z2.At) rfl e2
       have g3 : ((hs.set i z1).set (2 * i + 2) ⟨z2.At,z1.Id⟩)[(2 * i + 2)]? = some ⟨z2.At,z1.Id⟩ := by rw [List.getElem?_set_self (by rw [List.length_set];exact hlk)]
       have e4 := owns_put (k := (2 * i + 2)) (j := 1) (x' := z2) Due.size (by omega) g3 (u := .int .i64 z2.Id) rfl e3
       rw [List.set_set] at e4
       rw [show ((hs.set i z1).set (2 * i + 2) z2).length = m by rw [List.length_set,List.length_set];exact HL.out] at e4
       simp only [Nat.add_zero] at e4
       exact ⟨(hs.set i z1).set (2 * i + 2) z2,by rw [List.length_set,List.length_set];exact HL.out,all_set (all_set HO.out (HO.out _ (List.mem_of_getElem? HZ1.out))) (HO.out _ (List.mem_of_getElem? HZ2.out)),owns_ext e4 ((Ext.refl _).drew)⟩)
      have HXW := Hh (show Ext w ((((w9.setCell ⟨b,i * 2,none⟩ (.int .i64 z1.At)).setCell ⟨b,i * 2 + 1,none⟩ (.int .i64 z1.Id)).setCell ⟨b,(2 * i + 2) * 2,none⟩ (.int .i64 z2.At)).setCell ⟨b,(2 * i + 2) * 2 + 1,none⟩ (.int .i64 z2.Id)).drew from Ext.drew (Ext.setCell (Ext.setCell (Ext.setCell (Ext.setCell (HE.out.trans (HX9.out.trans HB9.out)) hwb _) hwb _) hwb _) hwb _))
      have HQW := Hh (show ((((w9.setCell ⟨b,i * 2,none⟩ (.int .i64 z1.At)).setCell ⟨b,i * 2 + 1,none⟩ (.int .i64 z1.Id)).setCell ⟨b,(2 * i + 2) * 2,none⟩ (.int .i64 z2.At)).setCell ⟨b,(2 * i + 2) * 2 + 1,none⟩ (.int .i64 z2.Id)).drew.ownsRow w.heap.size 42 2 (.slice (some ⟨w.heap.size,0,none⟩) 1 1) 1 [.int .i64 0,.int .i64 0] from
       owns_ext (g_far (g_far (g_far (g_far (owns_ext HQ.out (HX9.out.trans HB9.out)) hwn) hwn) hwn) hwn) ((Ext.refl _).drew))
      obtain ⟨hs2,hl2,ho2,hr2⟩ := HW.out
      have HL2 := Hh hl2
      have HO2 := Hh ho2
      have HR2 := Hh hr2
      clear hl2 ho2 hr2 HW P0 P1 Y0 Y1 f0 f1 f2 f3 HR9 HR HQ HE HL HO HCL
      go_wp2
      go_roundw
      case rel => exact ⟨2 * i + 2,hs2,hki,(by simp;try omega),HL2,HO2,HR2,HQW,HXW⟩
      case measure => simp [intOf];omega
def nextF (s : State) : Int := if stateB s = true then nextGo (-1) s.Runs else -1
theorem NextEnd_c (s : State) (v : Value) (w : World) (h : StateAt w s v) (hlen : stateLen s) : Calls Tryz.prog 7 #[v] w (Ret w (.int .i64 (nextF s))) := by
 have HO := Hh (fun (u : World) (e : Ext w u) => StateOk_c s v u (h.ext e) hlen)
 have HX := Hh (fun (u : World) (e : Ext w u) => nextEnd_c s v u (h.ext e) hlen)
 have HF := Hh (show nextF s = if stateB s = true then nextGo (-1) s.Runs else -1 from rfl)
 obtain ⟨A1,c1,A2,c2,A3,c3,A6,c6,A7,c7,A8,c8,rfl,h1,h2,h3,h6,h7,h8⟩ := h
 clear h1 h2 h3 h6 h7 h8 hlen
 generalize s.Topo.Parents.length = n1 at *
 generalize s.Topo.Nodes.length = n2 at *
 generalize s.Up.length = n3 at *
 generalize s.Queue.length = n6 at *
 generalize s.Runs.length = n7 at *
 generalize s.Ends.length = n8 at *
 generalize nextGo (-1) s.Runs = t at *
 generalize nextF s = R at *
 generalize stateB s = sb at *
 rcases sb with _ | _
 ·have HR := Hh (show -1 = R by rw [HF.out];rfl)
  go_enter Tryz.func7,Tryz.ntmps7
  go_wp2_with fail
  refine (HO.out _ Ext.go).mono ?_
  rintro e w1 ⟨rfl,hb1⟩
  obtain ⟨hcr1,hfr1,hz1⟩ := hb1.rules
  (try simp at hz1)
  have hy1_w0 : w.heap.size < w1.heap.size := (by omega)
  go_wp2
  exact ret_int rfl rfl rfl HR.out (((Ext.refl w).alloc _).trans hb1)
 ·have HR := Hh (show t = R by rw [HF.out];rfl)
  go_enter Tryz.func7,Tryz.ntmps7
  go_wp2_with fail
  refine (HO.out _ Ext.go).mono ?_
  rintro e w1 ⟨rfl,hb1⟩
  obtain ⟨hcr1,hfr1,hz1⟩ := hb1.rules
  (try simp at hz1)
  have hy1_w0 : w.heap.size < w1.heap.size := (by omega)
  obtain ⟨q0,q1,q2,q3,q4,q5,q6,q7,q8,q9,q10⟩ := bc11 w (w.heap.size) (.slice A1 n1 c1) (.slice A2 n2 c2) (.slice A3 n3 c3) (.int .i64 s.Lic.A) (.int .i64 s.Lic.B) (.int .i64 s.Lic.C) (.int .i64 s.Depth) (.int .i64 s.Now) (.slice A6 n6 c6) (.slice A7 n7 c7) (.slice A8 n8 c8) 34 ((hb1)) (by simp)
  obtain ⟨qf0,qf1,qf2,qf3,qf4,qf5,qf6,qf7,qf8,qf9,qf10⟩ := bf11 w (w.heap.size) (.slice A1 n1 c1) (.slice A2 n2 c2) (.slice A3 n3 c3) (.int .i64 s.Lic.A) (.int .i64 s.Lic.B) (.int .i64 s.Lic.C) (.int .i64 s.Depth) (.int .i64 s.Now) (.slice A6 n6 c6) (.slice A7 n7 c7) (.slice A8 n8 c8) 34 ((hb1)) (by simp)
  have hql := lt_of_cell q0
  go_wp2_with fail
  refine (HX.out _ (((Ext.refl w).alloc _).trans hb1)).mono ?_
  rintro e w2 ⟨rfl,hb2⟩
  go_wp2
  exact ret_int rfl rfl rfl HR.out ((((Ext.refl w).alloc _).trans hb1).trans hb2)
theorem sNextEnd_c (s : State) (v : Value) (w : World) (h : StateAt w s v) (hlen : stateLen s) : Calls Tryz.prog 8 #[v] w (Ret w (.int .i64 (nextF s))) := by
 have HO := Hh (fun (u : World) (e : Ext w u) => sStateOk_c s v u (h.ext e) hlen)
 have HX := Hh (fun (u : World) (e : Ext w u) => l06Next_c s v u (h.ext e) hlen)
 have HF := Hh (show nextF s = if stateB s = true then nextGo (-1) s.Runs else -1 from rfl)
 obtain ⟨A1,c1,A2,c2,A3,c3,A6,c6,A7,c7,A8,c8,rfl,h1,h2,h3,h6,h7,h8⟩ := h
 clear h1 h2 h3 h6 h7 h8 hlen
 generalize s.Topo.Parents.length = n1 at *
 generalize s.Topo.Nodes.length = n2 at *
 generalize s.Up.length = n3 at *
 generalize s.Queue.length = n6 at *
 generalize s.Runs.length = n7 at *
 generalize s.Ends.length = n8 at *
 generalize nextGo (-1) s.Runs = t at *
 generalize nextF s = R at *
 generalize stateB s = sb at *
 rcases sb with _ | _
 ·have HR := Hh (show -1 = R by rw [HF.out];rfl)
  go_enter Tryz.func8,Tryz.ntmps8
  go_wp2_with fail
  refine (HO.out _ Ext.go).mono ?_
  rintro e w1 ⟨rfl,hb1⟩
  obtain ⟨hcr1,hfr1,hz1⟩ := hb1.rules
  (try simp at hz1)
  have hy1_w0 : w.heap.size < w1.heap.size := (by omega)
  go_wp2
  exact ret_int rfl rfl rfl HR.out (((Ext.refl w).alloc _).trans hb1)
 ·have HR := Hh (show t = R by rw [HF.out];rfl)
  go_enter Tryz.func8,Tryz.ntmps8
  go_wp2_with fail
  refine (HO.out _ Ext.go).mono ?_
  rintro e w1 ⟨rfl,hb1⟩
  obtain ⟨hcr1,hfr1,hz1⟩ := hb1.rules
  (try simp at hz1)
  have hy1_w0 : w.heap.size < w1.heap.size := (by omega)
  obtain ⟨q0,q1,q2,q3,q4,q5,q6,q7,q8,q9,q10⟩ := bc11 w (w.heap.size) (.slice A1 n1 c1) (.slice A2 n2 c2) (.slice A3 n3 c3) (.int .i64 s.Lic.A) (.int .i64 s.Lic.B) (.int .i64 s.Lic.C) (.int .i64 s.Depth) (.int .i64 s.Now) (.slice A6 n6 c6) (.slice A7 n7 c7) (.slice A8 n8 c8) 34 ((hb1)) (by simp)
  obtain ⟨qf0,qf1,qf2,qf3,qf4,qf5,qf6,qf7,qf8,qf9,qf10⟩ := bf11 w (w.heap.size) (.slice A1 n1 c1) (.slice A2 n2 c2) (.slice A3 n3 c3) (.int .i64 s.Lic.A) (.int .i64 s.Lic.B) (.int .i64 s.Lic.C) (.int .i64 s.Depth) (.int .i64 s.Now) (.slice A6 n6 c6) (.slice A7 n7 c7) (.slice A8 n8 c8) 34 ((hb1)) (by simp)
  have hql := lt_of_cell q0
  go_wp2_with fail
  refine (HX.out _ (((Ext.refl w).alloc _).trans hb1)).mono ?_
  rintro e w2 ⟨rfl,hb2⟩
  go_wp2
  exact ret_int rfl rfl rfl HR.out ((((Ext.refl w).alloc _).trans hb1).trans hb2)
theorem hwrap_in64 (n : Int) : In64 (IntKind.i64.wrap n) := by
 rw [IntKind.wrap_i64];unfold In64;omega
def dueOf (x : Run) : Due := ⟨endE x,x.Job.Id⟩
def duesF (s : State) : List Due := if stateB s = true then s.Runs.map dueOf else []
def RetDues (w : World) (xs : List Due) : Ending → World → Prop := fun e w' => ∃ (A : Option Addr) (n c : Nat),e = .returned (.slice A n c) ∧ SlAt RDue 2 w' A n xs ∧ Ext w w'
theorem DuesOf_c (s : State) (v : Value) (w : World) (h : StateAt w s v) (hlen : stateLen s) : Calls Tryz.prog 6 #[v] w (RetDues w (duesF s)) := by
 obtain ⟨i1,hi1,hJ0,hJ1,hJ2⟩ := info_parts Due.info
 have HO := Hh (fun (u : World) (e : Ext w u) => StateOk_c s v u (h.ext e) hlen)
 have HF := Hh (show duesF s = if stateB s = true then s.Runs.map dueOf else [] from rfl)
 obtain ⟨A1,c1,A2,c2,A3,c3,A6,c6,A7,c7,A8,c8,rfl,h1,h2,h3,h6,h7,h8⟩ := h
 have hl := hlen.2.2.2.2.1
 have H7 := Hh (fun (u : World) (e : Ext w u) => h7.ext RRun.mono e)
 clear h1 h2 h3 h6 h7 h8 hlen
 generalize s.Topo.Parents.length = n1 at *
 generalize s.Topo.Nodes.length = n2 at *
 generalize s.Up.length = n3 at *
 generalize s.Queue.length = n6 at *
 generalize s.Ends.length = n8 at *
 generalize hm : s.Runs.length = n at *
 have HM := Hh hm
 clear hm
 generalize duesF s = R at *
 generalize stateB s = sb at *
 rcases sb with _ | _
 ·have HR := Hh (show R = [] by rw [HF.out];rfl)
  go_enter Tryz.func6,Tryz.ntmps6
  go_wp2_with fail
  refine (HO.out _ Ext.go).mono ?_
  rintro e w1 ⟨rfl,hb1⟩
  obtain ⟨hcr1,hfr1,hz1⟩ := hb1.rules
  (try simp at hz1)
  have hy1_w0 : w.heap.size < w1.heap.size := (by omega)
  go_wp2
  exact bodyPost_ret (by simp [results,Tryz.results6,go_sem, *]) rfl ⟨none,0,0,rfl,by rw [HR.out];exact SlAt.nil none,((Ext.refl w).alloc _).trans hb1⟩
 have HR := Hh (show R = s.Runs.map dueOf by rw [HF.out];rfl)
 go_enter Tryz.func6,Tryz.ntmps6
 go_wp2_with fail
 refine (HO.out _ Ext.go).mono ?_
 rintro e w1 ⟨rfl,hb1⟩
 obtain ⟨hcr1,hfr1,hz1⟩ := hb1.rules
 (try simp at hz1)
 have hy1_w0 : w.heap.size < w1.heap.size := (by omega)
 obtain ⟨q0,q1,q2,q3,q4,q5,q6,q7,q8,q9,q10⟩ := bc11 w (w.heap.size) (.slice A1 n1 c1) (.slice A2 n2 c2) (.slice A3 n3 c3) (.int .i64 s.Lic.A) (.int .i64 s.Lic.B) (.int .i64 s.Lic.C) (.int .i64 s.Depth) (.int .i64 s.Now) (.slice A6 n6 c6) (.slice A7 n c7) (.slice A8 n8 c8) 34 ((hb1)) (by simp)
 obtain ⟨qf0,qf1,qf2,qf3,qf4,qf5,qf6,qf7,qf8,qf9,qf10⟩ := bf11 w (w.heap.size) (.slice A1 n1 c1) (.slice A2 n2 c2) (.slice A3 n3 c3) (.int .i64 s.Lic.A) (.int .i64 s.Lic.B) (.int .i64 s.Lic.C) (.int .i64 s.Depth) (.int .i64 s.Now) (.slice A6 n6 c6) (.slice A7 n c7) (.slice A8 n8 c8) 34 ((hb1)) (by simp)
 have hql := lt_of_cell q9
 have E1 : Ext w w1 := ((Ext.refl w).alloc _).trans hb1
 have HO0 := Hh (owns_empty w1 42 2)
 clear q0 q1 q2 q3 q4 q5 q6 q7 q8 q10 qf0 qf1 qf2 qf3 qf4 qf5 qf6 qf7 qf8 qf9 qf10 hcr1 hfr1 hb1
 go_wp2
 go_loopw [3,13] (fun l iv wr => ∃ (k : Nat) (A9 : Option Addr) (c9 : Nat),k ≤ n ∧ iv = .int .i64 k ∧ l = .slice A9 k c9 ∧ Hid (wr.ownsRow w1.heap.size 42 2 (.slice A9 k c9) k (((s.Runs.take k).map dueOf).flatMap Due.enc)) ∧ Hid (∀ x ∈ (s.Runs.take k).map dueOf,x.ok) ∧ Ext w1 wr) (fun _ iv _ => n - (intOf iv).toNat)
 case atStart => exact ⟨0,_,0,Nat.zero_le _,rfl,rfl,HO0,Hh (fun x hx => by simp at hx),(Ext.refl _).alloc _⟩
 case round =>
  clear HO0
  obtain ⟨k,A9,c9,hk,rfl,rfl,HOW,HOK,hb⟩ := hrel
  by_cases hlt : k < n
  ·obtain ⟨bo,oo,x,cs,rfl,hbw,hx,_,hc,Ar,cr,rfl,_,_,_,hat,hok⟩ := (H7.out wr (E1.trans hb)).at_ hlt
   have g0 := hc 0 _ rfl
   have g1 := hc 1 _ rfl
   have g2 := hc 2 _ rfl
   have g3 := hc 3 _ rfl
   have g4 := hc 4 _ rfl
   have g5 := hc 5 _ rfl
   have g6 := hc 6 _ rfl
   have g7 := hc 7 _ rfl
   have g8 := hc 8 _ rfl
   have g9 := hc 9 _ rfl
   have g10 := hc 10 _ rfl
   have g11 := hc 11 _ rfl
   have g12 := hc 12 _ rfl
   simp only [Nat.add_zero] at g0
   have HT := Hh (show (s.Runs.take (k + 1)).map dueOf = (s.Runs.take k).map dueOf ++ [dueOf x] by rw [take_succ hx,List.map_append];rfl)
   have HDO := Hh (show (dueOf x).ok from ⟨hwrap_in64 _,hok.1⟩)
   obtain ⟨t,ht⟩ : ∃ t,IntKind.i64.wrap (x.At + x.Job.Wall) = t := ⟨_,rfl⟩
   have HE := Hh (show dueOf x = ⟨t,x.Job.Id⟩ by unfold dueOf endE;rw [ht])
   rw [HE.out] at HT HDO
   have hle := hb.le
   clear hc hx hat hok
   go_wp2_with (at_builtin;go_must (refine wpList_append_r (enc := Due.enc) (ok := Due.ok) (.tmp 17) (.tmp 28) _ w1.heap.size 42 i1 _ 2 16 (.slice A9 k c9) k _ (some ⟨wr.heap.size + 1,0,none⟩) 1 1 [(⟨t,x.Job.Id⟩ : Due)] rfl rfl Tryz.underlying36 hi1 hJ0 hJ1 hJ2 rfl (by omega) rfl (owns_ext HOW.out ((Ext.refl _).alloc _ |>.alloc _)) rfl (by exact hsl_one_at (enc := Due.enc) (wr.alloc (.cells (x.Job.enc ++ ([.int .i64 x.At,.slice Ar x.Nodes.length cr] : List Value)).toArray 54)) (wr.heap.size + 1) (by simp) (⟨t,x.Job.Id⟩ : Due) 42 rfl HDO.out) Due.size Due.one (by unfold maxLen;omega) (by omega) (by simp;omega) ?_);intro A5 c5 w5 hr5;(have HR5 := Hh hr5);clear hr5)
   have HX5 := Hh (ext_turned (hb.alloc (.cells (x.Job.enc ++ ([.int .i64 x.At,.slice Ar x.Nodes.length cr] : List Value)).toArray 54) |>.alloc (.cells (⟨t,x.Job.Id⟩ : Due).enc.toArray 42)) (HR5.out.turned (lo := w1.heap.size) (fun q hq => (HOW.out.lt q hq).1)) (Nat.le_refl _))
   go_wp2
   go_roundw
   case rel => exact ⟨k + 1,A5,c5,by omega,by go_num,rfl,Hh (by rw [HT.out,List.flatMap_append];exact HR5.out.row),Hh (fun z hz => by rw [HT.out] at hz;rcases List.mem_append.1 hz with hz | hz;exact HOK.out z hz;(rw [List.mem_singleton.1 hz];exact HDO.out)),HX5.out⟩
   case measure => simp [intOf];omega
  ·obtain rfl : k = n := by omega
   have HLF := Hh (show s.Runs.take k = s.Runs from List.take_of_length_le (by rw [HM.out];exact Nat.le_refl _))
   have HLL := Hh (show (s.Runs.map dueOf).length = k by rw [List.length_map];exact HM.out)
   rw [HLF.out] at HOW HOK
   go_wp2
   exact bodyPost_ret (by simp [results,Tryz.results6,go_sem, *]) rfl ⟨A9,k,c9,rfl,by have h := HOW.out;rw [HR.out];rw [← HLL.out] at h ⊢;exact owns_sl Due.size h HOK.out,E1.trans hb⟩
theorem next_least : ∀ (l : List Run),(∀ x ∈ l,0 ≤ endE x) → ∀ b : Int,(0 ≤ b → (nextGo b l = b ∨ ∃ x ∈ l,endE x = nextGo b l) ∧ nextGo b l ≤ b ∧ ∀ x ∈ l,nextGo b l ≤ endE x) ∧ (b < 0 → l ≠ [] → (∃ x ∈ l,endE x = nextGo b l) ∧ ∀ x ∈ l,nextGo b l ≤ endE x) := by
 intro l
 induction l with
 | nil => intro _ b;exact ⟨fun _ => ⟨.inl rfl,Int.le_refl _,fun x hx => by cases hx⟩,fun _ h => absurd rfl h⟩
 | cons a r ih =>
  intro h b
  have ha := h a (List.mem_cons_self ..)
  have ihr := ih (fun x hx => h x (List.mem_cons_of_mem _ hx))
  rw [nextGo]
  by_cases hc : b < 0 ∨ endE a < b
  ·rw [if_pos hc]
   obtain ⟨h1,h2,h3⟩ := (ihr (endE a)).1 ha
   have hall : ∀ x ∈ a :: r,nextGo (endE a) r ≤ endE x := fun x hx => by
    rcases List.mem_cons.1 hx with rfl | hx
    ·exact h2
    ·exact h3 x hx
   have hex : ∃ x ∈ a :: r,endE x = nextGo (endE a) r := by
    rcases h1 with h1 | ⟨x,hx,e⟩
    ·exact ⟨a,List.mem_cons_self ..,h1.symm⟩
    ·exact ⟨x,List.mem_cons_of_mem _ hx,e⟩
   exact ⟨fun hb => ⟨.inr hex,by rcases hc with hc | hc <;> omega,hall⟩,fun _ _ => ⟨hex,hall⟩⟩
  ·rw [if_neg hc]
   have hb0 : 0 ≤ b := by omega
   obtain ⟨h1,h2,h3⟩ := (ihr b).1 hb0
   refine ⟨fun _ => ⟨?_,h2,fun x hx => ?_⟩,fun hb => absurd hb (by omega)⟩
   ·rcases h1 with h1 | ⟨x,hx,e⟩
    ·exact .inl h1
    ·exact .inr ⟨x,List.mem_cons_of_mem _ hx,e⟩
   ·rcases List.mem_cons.1 hx with rfl | hx
    ·omega
    ·exact h3 x hx
theorem root_next {l : List Run} {hs : List Due} (h0 : ∀ x ∈ l,0 ≤ endE x) (hl : l ≠ []) (hh : heapB hs = true) (hm : ∀ d,d ∈ hs ↔ d ∈ l.map dueOf) : (nthD hs 0).At = nextGo (-1) l := by
 obtain ⟨⟨x,hx,ex⟩,hall⟩ := (next_least l h0 (-1)).2 (by omega) hl
 obtain ⟨_,hp,_⟩ := heapB_iff.1 hh
 have hmem : dueOf x ∈ hs := (hm _).2 (List.mem_map.2 ⟨x,hx,rfl⟩)
 obtain ⟨j,hj,ej⟩ := mem_nth.1 hmem
 have h1 := heap_root hp j hj
 rw [ej,leD_iff] at h1
 have h2 : (nthD hs 0) ∈ hs := mem_nth.2 ⟨0,by omega,rfl⟩
 obtain ⟨y,hy,ey⟩ := List.mem_map.1 ((hm _).1 h2)
 have h3 := hall y hy
 rw [← ey] at h1 ⊢
 unfold dueOf at h1 ⊢
 simp only [] at h1 ⊢
 omega
theorem state_parts {s : State} (h : stateB s = true) : (∀ x ∈ s.Runs,runOkB s.Topo.Nodes.length s.Now x = true) ∧ s.Runs.length ≤ 60 := by
 unfold stateB at h
 simp only [Bool.and_eq_true,decide_eq_true_iff] at h
 obtain ⟨⟨⟨⟨⟨h1,h2⟩,h3⟩,h4⟩,h5⟩,h6⟩ := h
 refine ⟨(roomF_some h1).2, ?_⟩
 unfold queueB at h3
 simp only [Bool.and_eq_true,decide_eq_true_iff,List.length_append,List.length_map] at h3
 omega
theorem end_run {m : Nat} {now : Int} {x : Run} (h : runOkB m now x = true) : (0 ≤ endE x ∧ endE x ≤ 1000000000) ∧ 1 ≤ x.Job.Id ∧ x.Job.Id ≤ 999 := by
 obtain ⟨h1,_,_⟩ := runOk_parts h
 have h2 := (jobB_iff x.Job).1 h1
 unfold runOkB withinB at h
 simp only [Bool.and_eq_true,decide_eq_true_iff] at h
 obtain ⟨_,h3,h4⟩ := h
 have he : endE x = x.At + x.Job.Wall := by unfold endE;exact IntWalk.i64_in _ ⟨by omega,by omega⟩
 rw [he]
 refine ⟨⟨by omega,by omega⟩,by omega,by omega⟩
theorem dues_ok (s : State) : (∀ x ∈ duesF s,dueB x = true) ∧ (duesF s).length ≤ 60 := by
 unfold duesF
 split
 ·rename_i h
  obtain ⟨h1,h2⟩ := state_parts h
  refine ⟨fun x hx => ?_,by rw [List.length_map];exact h2⟩
  obtain ⟨y,hy,rfl⟩ := List.mem_map.1 hx
  obtain ⟨⟨h3,h4⟩,h5,h6⟩ := end_run (h1 y hy)
  unfold dueB dueOf timeB
  simp only [Bool.and_eq_true,decide_eq_true_iff]
  exact ⟨⟨h3,h4⟩,h5,h6⟩
 ·exact ⟨fun x hx => (by cases hx),by simp⟩
theorem dues_join {s : State} {hs : List Due} (hh : heapB hs = true) (hm : ∀ x,x ∈ hs ↔ x ∈ duesF s) (hl : hs.length = (duesF s).length) : (hs.length = 0 ∧ nextF s = -1) ∨ (0 < hs.length ∧ 0 ≤ nextF s ∧ (nthD hs 0).At = nextF s ∧ hs.length = s.Runs.length) := by
 unfold duesF at hm hl
 unfold nextF
 split
 ·rename_i h
  rw [if_pos h] at hm hl
  rw [List.length_map] at hl
  obtain ⟨h1,h2⟩ := state_parts h
  have h0 : ∀ x ∈ s.Runs,0 ≤ endE x := fun x hx => (end_run (h1 x hx)).1.1
  by_cases hr : s.Runs = []
  ·left
   rw [hr] at hl ⊢
   exact ⟨hl,rfl⟩
  ·right
   have hpos : 0 < s.Runs.length := List.length_pos_iff.2 hr
   have hroot := root_next h0 hr hh hm
   obtain ⟨x,hx,ex⟩ := ((next_least s.Runs h0 (-1)).2 (by omega) hr).1
   exact ⟨by omega,by rw [← ex];exact h0 x hx,hroot,hl⟩
 ·rename_i h
  rw [if_neg h] at hl
  exact .inl ⟨hl,rfl⟩
end Go.Proofs.YtfanjhcdjbnnnaaGreat
