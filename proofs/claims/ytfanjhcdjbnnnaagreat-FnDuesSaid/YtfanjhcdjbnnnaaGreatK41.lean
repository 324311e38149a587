/- MvAny, MvDues, DueD. -/
import Derived.Test.YtfanjhcdjbnnnaaGreatK40
import Derived.Deep.RegionLaw
import Derived.Test.YtfanjhcdjbnnnaaGreatK14
import Derived.Test.YtfanjhcdjbnnnaaGreatK01
namespace Go.Proofs.YtfanjhcdjbnnnaaGreat
open Go.RowKit
set_option linter.unusedVariables false
set_option maxHeartbeats 32000000
set_option maxRecDepth 20000
theorem l06Any_c (g : Nat) (w : World) (hc : Cur w g) : Calls Tryz.prog 11 #[.pointer (some ⟨g,0,none⟩)] w (RetAnyS w g) := by
 obtain ⟨iJ,hiJ,hJ0,hJ1,hJ2⟩ := info_parts CJob.info
 obtain ⟨iE,hiE,hE0,hE1,hE2⟩ := info_parts CEnd.info
 have hgw := hc.lt
 have HB := Hh (fun (n : Int) (hn : In64 n) (u : World) (hu : Cur u g) => l01Below_c g n u hu hn)
 have HRW := Hh (fun (u : World) (hu : Cur u g) => l01Raw_c g u hu)
 have HAY := Hh (fun (u : World) (hu : Cur u g) => l01Any_c g u hu)
 have HTA := Hh (fun (u : World) (hu : Cur u g) => l02Any_c g u hu)
 have H9 : Hid (∀ n : Int,-1000000 ≤ n → n ≤ 1000000 → In64 n) := Hh (fun n h1 h2 => by unfold In64;omega)
 have HR0 := Hh (gbox w [.slice none 0 0,.slice none 0 0,.slice none 0 0,.int .i64 0,.int .i64 0,.int .i64 0,.int .i64 0,.int .i64 0,.slice none 0 0,.slice none 0 0,.slice none 0 0] 34 11 rfl)
 have HC0 := Hh (hc.ext ((Ext.refl w).alloc (.cells #[.slice none 0 0,.slice none 0 0,.slice none 0 0,.int .i64 0,.int .i64 0,.int .i64 0,.int .i64 0,.int .i64 0,.slice none 0 0,.slice none 0 0,.slice none 0 0] 34)))
 clear hc
 go_enter Tryz.func11,Tryz.ntmps11
 go_wp2_with fail
 refine (l06Draw_c g _ HC0.out).mono ?_
 rintro e w1 ⟨d,rfl,hd0,hsm0,ht1,hc1⟩
 have hs1 : w.heap.size < w1.heap.size := by have := ht1.le;simp at this;omega
 have HD1 := Hh (show DrawI w (w1.alloc (.cells #[.slice d.A1 d.n1 d.c1,.slice d.A2 d.n2 d.c2,.slice d.A3 d.n3 d.c3,.int .i64 d.lic.A,.int .i64 d.lic.B,.int .i64 d.lic.C,.int .i64 d.dep,.int .i64 d.now,.slice d.A6 d.n6 d.c6,.slice d.A7 d.n7 d.c7,.slice d.A8 d.n8 d.c8] 34)) g w1.heap.size d from
  ⟨owns_ext (ownsT HR0.out ht1 (by omega)) ((Ext.refl _).alloc _),owns_base (gbox w1 [.slice d.A1 d.n1 d.c1,.slice d.A2 d.n2 d.c2,.slice d.A3 d.n3 d.c3,.int .i64 d.lic.A,.int .i64 d.lic.B,.int .i64 d.lic.C,.int .i64 d.dep,.int .i64 d.now,.slice d.A6 d.n6 d.c6,.slice d.A7 d.n7 d.c7,.slice d.A8 d.n8 d.c8] 34 11 rfl) (by omega),hs1,(hd0.base (by simp)).ext ((Ext.refl _).alloc _),hgw,(((((Ext.refl w).alloc _).turned g (g + 1)).trans ht1).ext ((Ext.refl _).alloc _)),hc1.ext ((Ext.refl _).alloc _)⟩)
 have HS := Hh (show d.n1 ≤ 1000 ∧ d.n2 ≤ 1000 ∧ d.n3 ≤ 1000 ∧ d.n6 ≤ 500 ∧ d.n7 ≤ 100000 ∧ d.n8 ≤ 100000 from hsm0)
 clear hd0 hsm0 ht1 hc1 HR0 HC0
 go_upto_region 2 with fail
 obtain ⟨bx,hbx⟩ : ∃ bx,bx = w1.heap.size := ⟨_,rfl⟩
 rw [← hbx] at HD1 ⊢
 generalize (w1.alloc (.cells #[.slice d.A1 d.n1 d.c1,.slice d.A2 d.n2 d.c2,.slice d.A3 d.n3 d.c3,.int .i64 d.lic.A,.int .i64 d.lic.B,.int .i64 d.lic.C,.int .i64 d.dep,.int .i64 d.now,.slice d.A6 d.n6 d.c6,.slice d.A7 d.n7 d.c7,.slice d.A8 d.n8 d.c8] 34)) = u at *
 clear hbx hs1
 go_wp2_with fail
 refine (HB.out 20 (H9.out _ (by omega) (by omega)) _ HD1.out.cu).mono ?_
 rintro e w2 ⟨k,rfl,⟨hk0,hk20⟩,ht2,hc2⟩
 have HD2 := Hh (HD1.out.turn ht2 hc2)
 clear ht2 hc2 HD1
 go_upto_region 3 with fail
 rcases (show k = 0 ∨ k = 1 ∨ k = 2 ∨ k = 3 ∨ k = 4 ∨ k = 5 ∨ k = 6 ∨ k = 7 ∨ k = 8 ∨ k = 9 ∨ 9 < k by omega) with rfl | rfl | rfl | rfl | rfl | rfl | rfl | rfl | rfl | rfl | hk
 ·go_wp2_with fail
  refine (HRW.out _ HD2.out.cu).mono ?_
  rintro e w3 ⟨v,rfl,hv,ht3,hc3⟩
  have HD3 := Hh (HD2.out.turn ht3 hc3)
  have HD4 := Hh (HD3.out.cell (p := 7) (x := .int .i64 v) (d2 := d.withNow v) rfl (HD3.out.gd.now hv))
  clear ht3 hc3 hv HD2
  obtain ⟨⟨t0,t1,t2,t3,t4,t5,t6,t7,t8,t9,t10⟩,⟨f0,f1,f2,f3,f4,f5,f6,f7,f8,f9,f10⟩,tl⟩ := cells11 HD3.out.b5
  clear HD3
  go_upto_region 5 with fail
  clear t0 t1 t2 t3 t4 t5 t6 t7 t8 t9 t10 f0 f1 f2 f3 f4 f5 f6 f7 f8 f9 f10 tl
  generalize (w3.setCell ⟨bx,7,none⟩ (.int .i64 v)) = u4 at *
  obtain ⟨d2,hd2⟩ : ∃ d2,d2 = d.withNow v := ⟨_,rfl⟩
  have HM2 := Hh (show StD.mid d2 from by rw [hd2];obtain ⟨m1,m2,m3,m6,m7,m8⟩ := HS.out;simp only [StD.mid,StD.withNow];omega)
  rw [← hd2] at HD4
  clear hd2 HS
  obtain ⟨⟨p0,p1,p2,p3,p4,p5,p6,p7,p8,p9,p10⟩,⟨pf0,pf1,pf2,pf3,pf4,pf5,pf6,pf7,pf8,pf9,pf10⟩,pl⟩ := cells11 HD4.out.b5
  obtain ⟨⟨q0,q1,q2,q3,q4,q5,q6,q7,q8,q9,q10⟩,⟨qf0,qf1,qf2,qf3,qf4,qf5,qf6,qf7,qf8,qf9,qf10⟩,ql⟩ := cells11 HD4.out.b4
  have HF := Hh (HD4.out.fin2 HM2.out)
  clear HD4
  go_wp2
  exact bodyPost_ret (v := .agg #[.slice d2.A1 d2.n1 d2.c1,.slice d2.A2 d2.n2 d2.c2,.slice d2.A3 d2.n3 d2.c3,.int .i64 d2.lic.A,.int .i64 d2.lic.B,.int .i64 d2.lic.C,.int .i64 d2.dep,.int .i64 d2.now,.slice d2.A6 d2.n6 d2.c6,.slice d2.A7 d2.n7 d2.c7,.slice d2.A8 d2.n8 d2.c8]) (by simp [results,Tryz.results11,go_sem, *]) rfl HF.out
 ·by_cases hn : 0 < d.n3
  ·obtain ⟨q,hA3⟩ := HD2.out.gd.upForm hn
   obtain ⟨⟨ub,hub⟩,huf,hul⟩ := HD2.out.gd.upCell hA3 hn
   have HD4 := Hh ((HD2.out.setUp (v := !ub) hA3 hn).mv ((Ext.refl _).drew))
   have hn1 : decide (0 < d.n3) = true := decide_eq_true hn
   obtain ⟨⟨t0,t1,t2,t3,t4,t5,t6,t7,t8,t9,t10⟩,⟨f0,f1,f2,f3,f4,f5,f6,f7,f8,f9,f10⟩,tl⟩ := cells11 HD2.out.b5
   rw [hA3] at t2
   clear HD2
   go_upto_region 6 with fail
   go_region
   all_goals
    go_upto_region 7 with fail
    clear t0 t1 t2 t3 t4 t5 t6 t7 t8 t9 t10 f0 f1 f2 f3 f4 f5 f6 f7 f8 f9 f10 tl
    clear hub huf hul hA3
    generalize (w2.setCell ⟨q,0,none⟩ (.bool (!ub))).drew = u4 at *
    obtain ⟨d2,hd2⟩ : ∃ d2,d2 = d.withUp (d.up.set 0 (!ub)) d.A3 d.n3 d.c3 := ⟨_,rfl⟩
    have HM2 := Hh (show StD.mid d2 from by rw [hd2];obtain ⟨m1,m2,m3,m6,m7,m8⟩ := HS.out;simp only [StD.mid,StD.withUp];omega)
    rw [← hd2] at HD4
    clear hd2 HS
    obtain ⟨⟨p0,p1,p2,p3,p4,p5,p6,p7,p8,p9,p10⟩,⟨pf0,pf1,pf2,pf3,pf4,pf5,pf6,pf7,pf8,pf9,pf10⟩,pl⟩ := cells11 HD4.out.b5
    obtain ⟨⟨q0,q1,q2,q3,q4,q5,q6,q7,q8,q9,q10⟩,⟨qf0,qf1,qf2,qf3,qf4,qf5,qf6,qf7,qf8,qf9,qf10⟩,ql⟩ := cells11 HD4.out.b4
    have HF := Hh (HD4.out.fin2 HM2.out)
    clear HD4
    go_wp2
    exact bodyPost_ret (v := .agg #[.slice d2.A1 d2.n1 d2.c1,.slice d2.A2 d2.n2 d2.c2,.slice d2.A3 d2.n3 d2.c3,.int .i64 d2.lic.A,.int .i64 d2.lic.B,.int .i64 d2.lic.C,.int .i64 d2.dep,.int .i64 d2.now,.slice d2.A6 d2.n6 d2.c6,.slice d2.A7 d2.n7 d2.c7,.slice d2.A8 d2.n8 d2.c8]) (by simp [results,Tryz.results11,go_sem, *]) rfl HF.out
  ·have hn1 : decide (0 < d.n3) = false := decide_eq_false hn
   have HM2 := Hh (StD.sm.mid (d := d) HS.out)
   clear HS
   obtain ⟨⟨p0,p1,p2,p3,p4,p5,p6,p7,p8,p9,p10⟩,⟨pf0,pf1,pf2,pf3,pf4,pf5,pf6,pf7,pf8,pf9,pf10⟩,pl⟩ := cells11 HD2.out.b5
   obtain ⟨⟨q0,q1,q2,q3,q4,q5,q6,q7,q8,q9,q10⟩,⟨qf0,qf1,qf2,qf3,qf4,qf5,qf6,qf7,qf8,qf9,qf10⟩,ql⟩ := cells11 HD2.out.b4
   have HF := Hh (HD2.out.fin2 HM2.out)
   clear HD2
   go_wp2
   exact bodyPost_ret (v := .agg #[.slice d.A1 d.n1 d.c1,.slice d.A2 d.n2 d.c2,.slice d.A3 d.n3 d.c3,.int .i64 d.lic.A,.int .i64 d.lic.B,.int .i64 d.lic.C,.int .i64 d.dep,.int .i64 d.now,.slice d.A6 d.n6 d.c6,.slice d.A7 d.n7 d.c7,.slice d.A8 d.n8 d.c8]) (by simp [results,Tryz.results11,go_sem, *]) rfl HF.out
 ·go_wp2_with fail
  refine (HAY.out _ HD2.out.cu).mono ?_
  rintro e w3 ⟨v,rfl,hv,ht3,hc3⟩
  have HD3 := Hh (HD2.out.turn ht3 hc3)
  have HD4 := Hh (((HD3.out.cell (p := 3) (x := .int .i64 v.A) (d2 := d.withLic ⟨v.A,d.lic.B,d.lic.C⟩) rfl (HD3.out.gd.lic _)).cell (p := 4) (x := .int .i64 v.B) (d2 := d.withLic ⟨v.A,v.B,d.lic.C⟩) rfl ((HD3.out.cell (p := 3) (x := .int .i64 v.A) (d2 := d.withLic ⟨v.A,d.lic.B,d.lic.C⟩) rfl (HD3.out.gd.lic _)).gd.lic _)).cell (p := 5) (x := .int .i64 v.C) (d2 := d.withLic ⟨v.A,v.B,v.C⟩) rfl (((HD3.out.cell (p := 3) (x := .int .i64 v.A) (d2 := d.withLic ⟨v.A,d.lic.B,d.lic.C⟩) rfl (HD3.out.gd.lic _)).cell (p := 4) (x := .int .i64 v.B) (d2 := d.withLic ⟨v.A,v.B,d.lic.C⟩) rfl ((HD3.out.cell (p := 3) (x := .int .i64 v.A) (d2 := d.withLic ⟨v.A,d.lic.B,d.lic.C⟩) rfl (HD3.out.gd.lic _)).gd.lic _)).gd.lic _))
  clear ht3 hc3 hv HD2
  obtain ⟨⟨t0,t1,t2,t3,t4,t5,t6,t7,t8,t9,t10⟩,⟨f0,f1,f2,f3,f4,f5,f6,f7,f8,f9,f10⟩,tl⟩ := cells11 HD3.out.b5
  clear HD3
  go_upto_region 9 with fail
  clear t0 t1 t2 t3 t4 t5 t6 t7 t8 t9 t10 f0 f1 f2 f3 f4 f5 f6 f7 f8 f9 f10 tl
  generalize (((w3.setCell ⟨bx,3,none⟩ (.int .i64 v.A)).setCell ⟨bx,4,none⟩ (.int .i64 v.B)).setCell ⟨bx,5,none⟩ (.int .i64 v.C)) = u4 at *
  obtain ⟨d2,hd2⟩ : ∃ d2,d2 = d.withLic ⟨v.A,v.B,v.C⟩ := ⟨_,rfl⟩
  have HM2 := Hh (show StD.mid d2 from by rw [hd2];obtain ⟨m1,m2,m3,m6,m7,m8⟩ := HS.out;simp only [StD.mid,StD.withLic];omega)
  rw [← hd2] at HD4
  clear hd2 HS
  obtain ⟨⟨p0,p1,p2,p3,p4,p5,p6,p7,p8,p9,p10⟩,⟨pf0,pf1,pf2,pf3,pf4,pf5,pf6,pf7,pf8,pf9,pf10⟩,pl⟩ := cells11 HD4.out.b5
  obtain ⟨⟨q0,q1,q2,q3,q4,q5,q6,q7,q8,q9,q10⟩,⟨qf0,qf1,qf2,qf3,qf4,qf5,qf6,qf7,qf8,qf9,qf10⟩,ql⟩ := cells11 HD4.out.b4
  have HF := Hh (HD4.out.fin2 HM2.out)
  clear HD4
  go_wp2
  exact bodyPost_ret (v := .agg #[.slice d2.A1 d2.n1 d2.c1,.slice d2.A2 d2.n2 d2.c2,.slice d2.A3 d2.n3 d2.c3,.int .i64 d2.lic.A,.int .i64 d2.lic.B,.int .i64 d2.lic.C,.int .i64 d2.dep,.int .i64 d2.now,.slice d2.A6 d2.n6 d2.c6,.slice d2.A7 d2.n7 d2.c7,.slice d2.A8 d2.n8 d2.c8]) (by simp [results,Tryz.results11,go_sem, *]) rfl HF.out
 ·by_cases hn : 0 < d.n7
  ·obtain ⟨q,r,hA7,hr,hrk,hrm⟩ := HD2.out.gd.run0 hn
   have hn1 : decide (0 < d.n7) = true := decide_eq_true hn
   obtain ⟨⟨t0,t1,t2,t3,t4,t5,t6,t7,t8,t9,t10⟩,⟨f0,f1,f2,f3,f4,f5,f6,f7,f8,f9,f10⟩,tl⟩ := cells11 HD2.out.b5
   rw [hA7] at t9
   obtain ⟨hqf,hql⟩ := HD2.out.gd.runFrozen (p := 11) hA7
   have hqc := HD2.out.gd.runCell (p := 11) hA7 hr rfl
   have hgd : w.heap.size ≤ w2.heap.size := HD2.out.tu.le
   go_upto_region 10 with fail
   go_region_law (go_simp;go_at_call 21;(with_reducible refine (HRW.out _ (HD2.out.mv ((Ext.refl _).drew)).cu).mono ?_);rintro e w3 ⟨v,rfl,hv,ht3,hc3⟩;have HD3 := Hh ((HD2.out.mv ((Ext.refl _).drew)).turn ht3 hc3);have HV3 := Hh hv;clear t0 t1 t2 t3 t4 t5 t6 t7 t8 t9 t10 f0 f1 f2 f3 f4 f5 f6 f7 f8 f9 f10 tl hqf hql hqc;obtain ⟨⟨t0,t1,t2,t3,t4,t5,t6,t7,t8,t9,t10⟩,⟨f0,f1,f2,f3,f4,f5,f6,f7,f8,f9,f10⟩,tl⟩ := cells11 HD3.out.b5;rw [hA7] at t9;obtain ⟨hqf,hql⟩ := HD3.out.gd.runFrozen (p := 11) hA7;have hqc := HD3.out.gd.runCell (p := 11) hA7 hr rfl)
   all_goals
    skip
    have HD4 := Hh (HD3.out.setRun (p := 11) (x := .int .i64 v) (r' := r.withAt v) hA7 hr (by omega) rfl (hrk.at' HV3.out) (hrm _ HD3.out.gd))
    go_upto_region 11 with fail
    clear t0 t1 t2 t3 t4 t5 t6 t7 t8 t9 t10 f0 f1 f2 f3 f4 f5 f6 f7 f8 f9 f10 tl
    generalize (w3.setCell ⟨q,11,none⟩ (.int .i64 v)) = u4 at *
    clear hqf hql hqc hA7 HD2 HD3 ht3 hc3
    obtain ⟨d2,hd2⟩ : ∃ d2,d2 = d.withR (d.rs.set 0 (r.withAt v)) d.A7 d.n7 d.c7 := ⟨_,rfl⟩
    have HM2 := Hh (show StD.mid d2 from by rw [hd2];obtain ⟨m1,m2,m3,m6,m7,m8⟩ := HS.out;simp only [StD.mid,StD.withR];omega)
    rw [← hd2] at HD4
    clear hd2 HS
    obtain ⟨⟨p0,p1,p2,p3,p4,p5,p6,p7,p8,p9,p10⟩,⟨pf0,pf1,pf2,pf3,pf4,pf5,pf6,pf7,pf8,pf9,pf10⟩,pl⟩ := cells11 HD4.out.b5
    obtain ⟨⟨q0,q1,q2,q3,q4,q5,q6,q7,q8,q9,q10⟩,⟨qf0,qf1,qf2,qf3,qf4,qf5,qf6,qf7,qf8,qf9,qf10⟩,ql⟩ := cells11 HD4.out.b4
    have HF := Hh (HD4.out.fin2 HM2.out)
    clear HD4
    go_wp2
    exact bodyPost_ret (v := .agg #[.slice d2.A1 d2.n1 d2.c1,.slice d2.A2 d2.n2 d2.c2,.slice d2.A3 d2.n3 d2.c3,.int .i64 d2.lic.A,.int .i64 d2.lic.B,.int .i64 d2.lic.C,.int .i64 d2.dep,.int .i64 d2.now,.slice d2.A6 d2.n6 d2.c6,.slice d2.A7 d2.n7 d2.c7,.slice d2.A8 d2.n8 d2.c8]) (by simp [results,Tryz.results11,go_sem, *]) rfl HF.out
  ·have hn1 : decide (0 < d.n7) = false := decide_eq_false hn
   have HM2 := Hh (StD.sm.mid (d := d) HS.out)
   clear HS
   obtain ⟨⟨p0,p1,p2,p3,p4,p5,p6,p7,p8,p9,p10⟩,⟨pf0,pf1,pf2,pf3,pf4,pf5,pf6,pf7,pf8,pf9,pf10⟩,pl⟩ := cells11 HD2.out.b5
   obtain ⟨⟨q0,q1,q2,q3,q4,q5,q6,q7,q8,q9,q10⟩,⟨qf0,qf1,qf2,qf3,qf4,qf5,qf6,qf7,qf8,qf9,qf10⟩,ql⟩ := cells11 HD2.out.b4
   have HF := Hh (HD2.out.fin2 HM2.out)
   clear HD2
   go_wp2
   exact bodyPost_ret (v := .agg #[.slice d.A1 d.n1 d.c1,.slice d.A2 d.n2 d.c2,.slice d.A3 d.n3 d.c3,.int .i64 d.lic.A,.int .i64 d.lic.B,.int .i64 d.lic.C,.int .i64 d.dep,.int .i64 d.now,.slice d.A6 d.n6 d.c6,.slice d.A7 d.n7 d.c7,.slice d.A8 d.n8 d.c8]) (by simp [results,Tryz.results11,go_sem, *]) rfl HF.out
 ·by_cases hn : 0 < d.n7
  ·obtain ⟨q,r,hA7,hr,hrk,hrm⟩ := HD2.out.gd.run0 hn
   have hn1 : decide (0 < d.n7) = true := decide_eq_true hn
   obtain ⟨c0,c1,c2,c3,c4,c5,c6,c7,c8,c9,c10⟩ := HD2.out.gd.runJob hA7 hr
   have HJK := Hh hrk.1
   have h64 : d.n6 ≤ 500 := HS.out.2.2.2.1
   have hgd : w.heap.size ≤ w2.heap.size := HD2.out.tu.le
   obtain ⟨⟨t0,t1,t2,t3,t4,t5,t6,t7,t8,t9,t10⟩,⟨f0,f1,f2,f3,f4,f5,f6,f7,f8,f9,f10⟩,tl⟩ := cells11 HD2.out.b5
   have HDA := Hh (HD2.out.mv (((Ext.refl _).drew).alloc (.cells (Job.enc r.j).toArray 52)))
   rw [hA7] at t9
   go_upto_region 12 with fail
   go_region_law (refine step_append_r (enc := Job.enc) (ok := Job.ok) (by rfl) _ _ _ (by rfl) w.heap.size 52 iJ _ 11 88 Tryz.underlying30 hiJ hJ0 hJ1 hJ2 rfl (by omega) (.slice d.A6 d.n6 d.c6) d.n6 (d.q.flatMap Job.enc) _ 1 1 [r.j] (d.n6 + 1) rfl (by rfl) (by rfl) (HDA.out.gd.r6) (by exact sl_one_r (enc := Job.enc) w2.drew r.j 52 rfl HJK.out) Job.size Job.one (by unfold maxLen;omega) (by omega) (by simp;omega) ?_;intro A4 c4' w4 hr4;have HR4 := Hh hr4;have HB4 := Hh (hr4.kp.own HDA.out.b5 (g_apart HDA.out.b5 HDA.out.gd.r6 (by decide)));clear t0 t1 t2 t3 t4 t5 t6 t7 t8 t9 t10 f0 f1 f2 f3 f4 f5 f6 f7 f8 f9 f10 tl;obtain ⟨⟨t0,t1,t2,t3,t4,t5,t6,t7,t8,t9,t10⟩,⟨f0,f1,f2,f3,f4,f5,f6,f7,f8,f9,f10⟩,tl⟩ := cells11 HB4.out)
   all_goals
    have HD4 := Hh (HDA.out.pushQ HR4.out HJK.out)
    go_upto_region 13 with fail
    clear t0 t1 t2 t3 t4 t5 t6 t7 t8 t9 t10 f0 f1 f2 f3 f4 f5 f6 f7 f8 f9 f10 tl
    generalize (w4.setCell ⟨bx,8,none⟩ (.slice A4 (d.n6 + 1) c4')) = u4 at *
    clear HD2 HDA HB4 HR4 hr4 c0 c1 c2 c3 c4 c5 c6 c7 c8 c9 c10 hA7 hr hrm
    obtain ⟨d2,hd2⟩ : ∃ d2,d2 = d.withQ (d.q ++ [r.j]) A4 (d.n6 + 1) c4' := ⟨_,rfl⟩
    have HM2 := Hh (show StD.mid d2 from by rw [hd2];obtain ⟨m1,m2,m3,m6,m7,m8⟩ := HS.out;simp only [StD.mid,StD.withQ];omega)
    rw [← hd2] at HD4
    clear hd2 HS
    obtain ⟨⟨p0,p1,p2,p3,p4,p5,p6,p7,p8,p9,p10⟩,⟨pf0,pf1,pf2,pf3,pf4,pf5,pf6,pf7,pf8,pf9,pf10⟩,pl⟩ := cells11 HD4.out.b5
    obtain ⟨⟨q0,q1,q2,q3,q4,q5,q6,q7,q8,q9,q10⟩,⟨qf0,qf1,qf2,qf3,qf4,qf5,qf6,qf7,qf8,qf9,qf10⟩,ql⟩ := cells11 HD4.out.b4
    have HF := Hh (HD4.out.fin2 HM2.out)
    clear HD4
    go_wp2
    exact bodyPost_ret (v := .agg #[.slice d2.A1 d2.n1 d2.c1,.slice d2.A2 d2.n2 d2.c2,.slice d2.A3 d2.n3 d2.c3,.int .i64 d2.lic.A,.int .i64 d2.lic.B,.int .i64 d2.lic.C,.int .i64 d2.dep,.int .i64 d2.now,.slice d2.A6 d2.n6 d2.c6,.slice d2.A7 d2.n7 d2.c7,.slice d2.A8 d2.n8 d2.c8]) (by simp [results,Tryz.results11,go_sem, *]) rfl HF.out
  ·have hn1 : decide (0 < d.n7) = false := decide_eq_false hn
   have HM2 := Hh (StD.sm.mid (d := d) HS.out)
   clear HS
   obtain ⟨⟨p0,p1,p2,p3,p4,p5,p6,p7,p8,p9,p10⟩,⟨pf0,pf1,pf2,pf3,pf4,pf5,pf6,pf7,pf8,pf9,pf10⟩,pl⟩ := cells11 HD2.out.b5
   obtain ⟨⟨q0,q1,q2,q3,q4,q5,q6,q7,q8,q9,q10⟩,⟨qf0,qf1,qf2,qf3,qf4,qf5,qf6,qf7,qf8,qf9,qf10⟩,ql⟩ := cells11 HD2.out.b4
   have HF := Hh (HD2.out.fin2 HM2.out)
   clear HD2
   go_wp2
   exact bodyPost_ret (v := .agg #[.slice d.A1 d.n1 d.c1,.slice d.A2 d.n2 d.c2,.slice d.A3 d.n3 d.c3,.int .i64 d.lic.A,.int .i64 d.lic.B,.int .i64 d.lic.C,.int .i64 d.dep,.int .i64 d.now,.slice d.A6 d.n6 d.c6,.slice d.A7 d.n7 d.c7,.slice d.A8 d.n8 d.c8]) (by simp [results,Tryz.results11,go_sem, *]) rfl HF.out
 ·have h84 : d.n8 ≤ 100000 := HS.out.2.2.2.2.2
  have hgd : w.heap.size ≤ w2.heap.size := HD2.out.tu.le
  have HDd := Hh (HD2.out.mv ((Ext.refl _).drew))
  obtain ⟨⟨t0,t1,t2,t3,t4,t5,t6,t7,t8,t9,t10⟩,⟨f0,f1,f2,f3,f4,f5,f6,f7,f8,f9,f10⟩,tl⟩ := cells11 HD2.out.b5
  go_upto_region 14 with fail
  go_region_law (first | (go_simp;go_at_call 20;(with_reducible refine (HB.out 3 (H9.out _ (by omega) (by omega)) _ HDd.out.cu).mono ?_);rintro e w3 ⟨v3,rfl,⟨hv3a,hv3b⟩,htw3,hcw3⟩;have HE3 := Hh (HDd.out.turn htw3 hcw3);clear htw3 hcw3;clear t0 t1 t2 t3 t4 t5 t6 t7 t8 t9 t10 f0 f1 f2 f3 f4 f5 f6 f7 f8 f9 f10 tl;obtain ⟨⟨t0,t1,t2,t3,t4,t5,t6,t7,t8,t9,t10⟩,⟨f0,f1,f2,f3,f4,f5,f6,f7,f8,f9,f10⟩,tl⟩ := cells11 HE3.out.b5) | (go_simp;go_at_call 20;(with_reducible refine (HB.out 3 (H9.out _ (by omega) (by omega)) _ HE3.out.cu).mono ?_);rintro e w4 ⟨v4,rfl,⟨hv4a,hv4b⟩,htw4,hcw4⟩;have HE4 := Hh (HE3.out.turn htw4 hcw4);clear htw4 hcw4;clear t0 t1 t2 t3 t4 t5 t6 t7 t8 t9 t10 f0 f1 f2 f3 f4 f5 f6 f7 f8 f9 f10 tl;obtain ⟨⟨t0,t1,t2,t3,t4,t5,t6,t7,t8,t9,t10⟩,⟨f0,f1,f2,f3,f4,f5,f6,f7,f8,f9,f10⟩,tl⟩ := cells11 HE4.out.b5) | (go_simp;go_at_call 20;(with_reducible refine (HB.out 6 (H9.out _ (by omega) (by omega)) _ HE4.out.cu).mono ?_);rintro e w5 ⟨v5,rfl,⟨hv5a,hv5b⟩,htw5,hcw5⟩;have HE5 := Hh (HE4.out.turn htw5 hcw5);clear htw5 hcw5;clear t0 t1 t2 t3 t4 t5 t6 t7 t8 t9 t10 f0 f1 f2 f3 f4 f5 f6 f7 f8 f9 f10 tl;obtain ⟨⟨t0,t1,t2,t3,t4,t5,t6,t7,t8,t9,t10⟩,⟨f0,f1,f2,f3,f4,f5,f6,f7,f8,f9,f10⟩,tl⟩ := cells11 HE5.out.b5) | (have HYK := Hh (show End.ok ⟨v3,v4,v5⟩ from ⟨H9.out v3 (by omega) (by omega),H9.out v4 (by omega) (by omega),H9.out v5 (by omega) (by omega)⟩);have HDA := Hh (HE5.out.mv ((Ext.refl _).alloc (.cells (End.enc ⟨v3,v4,v5⟩).toArray 64)));have hg5 : w.heap.size ≤ w5.heap.size := HE5.out.tu.le;refine step_append_r (enc := End.enc) (ok := End.ok) (by rfl) _ _ _ (by rfl) w.heap.size 64 iE _ 3 24 Tryz.underlying32 hiE hE0 hE1 hE2 rfl (by omega) (.slice d.A8 d.n8 d.c8) d.n8 (d.es.flatMap End.enc) _ 1 1 [⟨v3,v4,v5⟩] (d.n8 + 1) rfl (by rfl) (by rfl) (HDA.out.gd.r8) (by exact sl_one_r (enc := End.enc) w5 ⟨v3,v4,v5⟩ 64 rfl HYK.out) End.size End.one (by unfold maxLen;omega) (by omega) (by simp;omega) ?_;intro A6 c6' w6 hr6;have HR6 := Hh hr6;have HB6 := Hh (hr6.kp.own HDA.out.b5 (g_apart HDA.out.b5 HDA.out.gd.r8 (by decide)));clear t0 t1 t2 t3 t4 t5 t6 t7 t8 t9 t10 f0 f1 f2 f3 f4 f5 f6 f7 f8 f9 f10 tl;obtain ⟨⟨t0,t1,t2,t3,t4,t5,t6,t7,t8,t9,t10⟩,⟨f0,f1,f2,f3,f4,f5,f6,f7,f8,f9,f10⟩,tl⟩ := cells11 HB6.out))
  all_goals
   have HD4 := Hh (HDA.out.pushE HR6.out HYK.out)
   go_upto_region 15 with fail
   clear t0 t1 t2 t3 t4 t5 t6 t7 t8 t9 t10 f0 f1 f2 f3 f4 f5 f6 f7 f8 f9 f10 tl
   generalize (w6.setCell ⟨bx,10,none⟩ (.slice A6 (d.n8 + 1) c6')) = u4 at *
   clear HD2 HDd HE3 HE4 HE5 HDA HB6 HR6 hr6
   obtain ⟨d2,hd2⟩ : ∃ d2,d2 = d.withE (d.es ++ [⟨v3,v4,v5⟩]) A6 (d.n8 + 1) c6' := ⟨_,rfl⟩
   have HM2 := Hh (show StD.mid d2 from by rw [hd2];obtain ⟨m1,m2,m3,m6,m7,m8⟩ := HS.out;simp only [StD.mid,StD.withE];omega)
   rw [← hd2] at HD4
   clear hd2 HS
   obtain ⟨⟨p0,p1,p2,p3,p4,p5,p6,p7,p8,p9,p10⟩,⟨pf0,pf1,pf2,pf3,pf4,pf5,pf6,pf7,pf8,pf9,pf10⟩,pl⟩ := cells11 HD4.out.b5
   obtain ⟨⟨q0,q1,q2,q3,q4,q5,q6,q7,q8,q9,q10⟩,⟨qf0,qf1,qf2,qf3,qf4,qf5,qf6,qf7,qf8,qf9,qf10⟩,ql⟩ := cells11 HD4.out.b4
   have HF := Hh (HD4.out.fin2 HM2.out)
   clear HD4
   go_wp2
   exact bodyPost_ret (v := .agg #[.slice d2.A1 d2.n1 d2.c1,.slice d2.A2 d2.n2 d2.c2,.slice d2.A3 d2.n3 d2.c3,.int .i64 d2.lic.A,.int .i64 d2.lic.B,.int .i64 d2.lic.C,.int .i64 d2.dep,.int .i64 d2.now,.slice d2.A6 d2.n6 d2.c6,.slice d2.A7 d2.n7 d2.c7,.slice d2.A8 d2.n8 d2.c8]) (by simp [results,Tryz.results11,go_sem, *]) rfl HF.out
 ·by_cases hn : 0 < d.n7
  ·obtain ⟨q,r,hA7,hr,hrk,hrm⟩ := HD2.out.gd.run0 hn
   have hn1 : decide (0 < d.n7) = true := decide_eq_true hn
   obtain ⟨⟨t0,t1,t2,t3,t4,t5,t6,t7,t8,t9,t10⟩,⟨f0,f1,f2,f3,f4,f5,f6,f7,f8,f9,f10⟩,tl⟩ := cells11 HD2.out.b5
   rw [hA7] at t9
   obtain ⟨hqf,hql⟩ := HD2.out.gd.runFrozen (p := 12) hA7
   have hqc := HD2.out.gd.runCell (p := 12) hA7 hr rfl
   have hgd : w.heap.size ≤ w2.heap.size := HD2.out.tu.le
   have hm2 : d.n2 ≤ 1000 := HS.out.2.1
   go_upto_region 16 with fail
   go_region_law (go_simp;go_at_call 23;(with_reducible refine (l02Some_c g _ (HD2.out.mv ((Ext.refl _).drew)).cu d.A1 d.n1 d.c1 d.A2 d.n2 d.c2 hm2).mono ?_);rintro e w3 ⟨S,sc,xs,rfl,hso,hv,hxl,ht3,hc3⟩;have HD3 := Hh ((HD2.out.mv ((Ext.refl _).drew)).turn ht3 hc3);have HV3 := Hh hv;clear t0 t1 t2 t3 t4 t5 t6 t7 t8 t9 t10 f0 f1 f2 f3 f4 f5 f6 f7 f8 f9 f10 tl hqf hql hqc;obtain ⟨⟨t0,t1,t2,t3,t4,t5,t6,t7,t8,t9,t10⟩,⟨f0,f1,f2,f3,f4,f5,f6,f7,f8,f9,f10⟩,tl⟩ := cells11 HD3.out.b5;rw [hA7] at t9;obtain ⟨hqf,hql⟩ := HD3.out.gd.runFrozen (p := 12) hA7;have hqc := HD3.out.gd.runCell (p := 12) hA7 hr rfl)
   all_goals
    have HSO := Hh (owns_base hso (show w.heap.size ≤ _ by simp;omega))
    have HD4 := Hh (HD3.out.setRun (p := 12) (x := .slice S xs.length sc) (r' := r.withNodes S xs.length sc) hA7 hr (by omega) rfl (hrk.nodes (by omega) (owns_cap HSO.out)) (⟨xs,owns_sl encInt_size HSO.out HV3.out,HSO.out⟩))
    go_upto_region 17 with fail
    clear t0 t1 t2 t3 t4 t5 t6 t7 t8 t9 t10 f0 f1 f2 f3 f4 f5 f6 f7 f8 f9 f10 tl
    generalize (w3.setCell ⟨q,12,none⟩ (.slice S xs.length sc)) = u4 at *
    clear hqf hql hqc hA7 HD2 HD3 ht3 hc3
    obtain ⟨d2,hd2⟩ : ∃ d2,d2 = d.withR (d.rs.set 0 (r.withNodes S xs.length sc)) d.A7 d.n7 d.c7 := ⟨_,rfl⟩
    have HM2 := Hh (show StD.mid d2 from by rw [hd2];obtain ⟨m1,m2,m3,m6,m7,m8⟩ := HS.out;simp only [StD.mid,StD.withR];omega)
    rw [← hd2] at HD4
    clear hd2 HS
    obtain ⟨⟨p0,p1,p2,p3,p4,p5,p6,p7,p8,p9,p10⟩,⟨pf0,pf1,pf2,pf3,pf4,pf5,pf6,pf7,pf8,pf9,pf10⟩,pl⟩ := cells11 HD4.out.b5
    obtain ⟨⟨q0,q1,q2,q3,q4,q5,q6,q7,q8,q9,q10⟩,⟨qf0,qf1,qf2,qf3,qf4,qf5,qf6,qf7,qf8,qf9,qf10⟩,ql⟩ := cells11 HD4.out.b4
    have HF := Hh (HD4.out.fin2 HM2.out)
    clear HD4
    go_wp2
    exact bodyPost_ret (v := .agg #[.slice d2.A1 d2.n1 d2.c1,.slice d2.A2 d2.n2 d2.c2,.slice d2.A3 d2.n3 d2.c3,.int .i64 d2.lic.A,.int .i64 d2.lic.B,.int .i64 d2.lic.C,.int .i64 d2.dep,.int .i64 d2.now,.slice d2.A6 d2.n6 d2.c6,.slice d2.A7 d2.n7 d2.c7,.slice d2.A8 d2.n8 d2.c8]) (by simp [results,Tryz.results11,go_sem, *]) rfl HF.out
  ·have hn1 : decide (0 < d.n7) = false := decide_eq_false hn
   have HM2 := Hh (StD.sm.mid (d := d) HS.out)
   clear HS
   obtain ⟨⟨p0,p1,p2,p3,p4,p5,p6,p7,p8,p9,p10⟩,⟨pf0,pf1,pf2,pf3,pf4,pf5,pf6,pf7,pf8,pf9,pf10⟩,pl⟩ := cells11 HD2.out.b5
   obtain ⟨⟨q0,q1,q2,q3,q4,q5,q6,q7,q8,q9,q10⟩,⟨qf0,qf1,qf2,qf3,qf4,qf5,qf6,qf7,qf8,qf9,qf10⟩,ql⟩ := cells11 HD2.out.b4
   have HF := Hh (HD2.out.fin2 HM2.out)
   clear HD2
   go_wp2
   exact bodyPost_ret (v := .agg #[.slice d.A1 d.n1 d.c1,.slice d.A2 d.n2 d.c2,.slice d.A3 d.n3 d.c3,.int .i64 d.lic.A,.int .i64 d.lic.B,.int .i64 d.lic.C,.int .i64 d.dep,.int .i64 d.now,.slice d.A6 d.n6 d.c6,.slice d.A7 d.n7 d.c7,.slice d.A8 d.n8 d.c8]) (by simp [results,Tryz.results11,go_sem, *]) rfl HF.out
 ·by_cases hn : 0 < d.n7
  ·obtain ⟨q,r,hA7,hr,hrk,hrm⟩ := HD2.out.gd.run0 hn
   have hn1 : decide (0 < d.n7) = true := decide_eq_true hn
   have HD4 := Hh (HD2.out.setRun (p := 10) (x := .int .i64 0) (r' := r.withLevel 0) hA7 hr (by omega) rfl (hrk.level (H9.out _ (by omega) (by omega))) (by obtain ⟨xs,h⟩ := hrm _ HD2.out.gd;exact ⟨xs,h⟩))
   obtain ⟨⟨t0,t1,t2,t3,t4,t5,t6,t7,t8,t9,t10⟩,⟨f0,f1,f2,f3,f4,f5,f6,f7,f8,f9,f10⟩,tl⟩ := cells11 HD2.out.b5
   rw [hA7] at t9
   obtain ⟨hqf,hql⟩ := HD2.out.gd.runFrozen (p := 10) hA7
   have hqc := HD2.out.gd.runCell (p := 10) hA7 hr rfl
   clear HD2
   go_upto_region 19 with fail
   clear t0 t1 t2 t3 t4 t5 t6 t7 t8 t9 t10 f0 f1 f2 f3 f4 f5 f6 f7 f8 f9 f10 tl
   generalize (w2.setCell ⟨q,10,none⟩ (.int .i64 0)) = u4 at *
   clear hqf hql hA7 hqc hrm
   obtain ⟨d2,hd2⟩ : ∃ d2,d2 = d.withR (d.rs.set 0 (r.withLevel 0)) d.A7 d.n7 d.c7 := ⟨_,rfl⟩
   have HM2 := Hh (show StD.mid d2 from by rw [hd2];obtain ⟨m1,m2,m3,m6,m7,m8⟩ := HS.out;simp only [StD.mid,StD.withR];omega)
   rw [← hd2] at HD4
   clear hd2 HS
   obtain ⟨⟨p0,p1,p2,p3,p4,p5,p6,p7,p8,p9,p10⟩,⟨pf0,pf1,pf2,pf3,pf4,pf5,pf6,pf7,pf8,pf9,pf10⟩,pl⟩ := cells11 HD4.out.b5
   obtain ⟨⟨q0,q1,q2,q3,q4,q5,q6,q7,q8,q9,q10⟩,⟨qf0,qf1,qf2,qf3,qf4,qf5,qf6,qf7,qf8,qf9,qf10⟩,ql⟩ := cells11 HD4.out.b4
   have HF := Hh (HD4.out.fin2 HM2.out)
   clear HD4
   go_wp2
   exact bodyPost_ret (v := .agg #[.slice d2.A1 d2.n1 d2.c1,.slice d2.A2 d2.n2 d2.c2,.slice d2.A3 d2.n3 d2.c3,.int .i64 d2.lic.A,.int .i64 d2.lic.B,.int .i64 d2.lic.C,.int .i64 d2.dep,.int .i64 d2.now,.slice d2.A6 d2.n6 d2.c6,.slice d2.A7 d2.n7 d2.c7,.slice d2.A8 d2.n8 d2.c8]) (by simp [results,Tryz.results11,go_sem, *]) rfl HF.out
  ·have hn1 : decide (0 < d.n7) = false := decide_eq_false hn
   have HM2 := Hh (StD.sm.mid (d := d) HS.out)
   clear HS
   obtain ⟨⟨p0,p1,p2,p3,p4,p5,p6,p7,p8,p9,p10⟩,⟨pf0,pf1,pf2,pf3,pf4,pf5,pf6,pf7,pf8,pf9,pf10⟩,pl⟩ := cells11 HD2.out.b5
   obtain ⟨⟨q0,q1,q2,q3,q4,q5,q6,q7,q8,q9,q10⟩,⟨qf0,qf1,qf2,qf3,qf4,qf5,qf6,qf7,qf8,qf9,qf10⟩,ql⟩ := cells11 HD2.out.b4
   have HF := Hh (HD2.out.fin2 HM2.out)
   clear HD2
   go_wp2
   exact bodyPost_ret (v := .agg #[.slice d.A1 d.n1 d.c1,.slice d.A2 d.n2 d.c2,.slice d.A3 d.n3 d.c3,.int .i64 d.lic.A,.int .i64 d.lic.B,.int .i64 d.lic.C,.int .i64 d.dep,.int .i64 d.now,.slice d.A6 d.n6 d.c6,.slice d.A7 d.n7 d.c7,.slice d.A8 d.n8 d.c8]) (by simp [results,Tryz.results11,go_sem, *]) rfl HF.out
 ·go_wp2_with fail
  refine (HRW.out _ HD2.out.cu).mono ?_
  rintro e w3 ⟨v,rfl,hv,ht3,hc3⟩
  have HD3 := Hh (HD2.out.turn ht3 hc3)
  have HD4 := Hh (HD3.out.cell (p := 6) (x := .int .i64 v) (d2 := d.withDep v) rfl (HD3.out.gd.dep v))
  clear ht3 hc3 hv HD2
  obtain ⟨⟨t0,t1,t2,t3,t4,t5,t6,t7,t8,t9,t10⟩,⟨f0,f1,f2,f3,f4,f5,f6,f7,f8,f9,f10⟩,tl⟩ := cells11 HD3.out.b5
  clear HD3
  go_upto_region 21 with fail
  clear t0 t1 t2 t3 t4 t5 t6 t7 t8 t9 t10 f0 f1 f2 f3 f4 f5 f6 f7 f8 f9 f10 tl
  generalize (w3.setCell ⟨bx,6,none⟩ (.int .i64 v)) = u4 at *
  obtain ⟨d2,hd2⟩ : ∃ d2,d2 = d.withDep v := ⟨_,rfl⟩
  have HM2 := Hh (show StD.mid d2 from by rw [hd2];obtain ⟨m1,m2,m3,m6,m7,m8⟩ := HS.out;simp only [StD.mid,StD.withDep];omega)
  rw [← hd2] at HD4
  clear hd2 HS
  obtain ⟨⟨p0,p1,p2,p3,p4,p5,p6,p7,p8,p9,p10⟩,⟨pf0,pf1,pf2,pf3,pf4,pf5,pf6,pf7,pf8,pf9,pf10⟩,pl⟩ := cells11 HD4.out.b5
  obtain ⟨⟨q0,q1,q2,q3,q4,q5,q6,q7,q8,q9,q10⟩,⟨qf0,qf1,qf2,qf3,qf4,qf5,qf6,qf7,qf8,qf9,qf10⟩,ql⟩ := cells11 HD4.out.b4
  have HF := Hh (HD4.out.fin2 HM2.out)
  clear HD4
  go_wp2
  exact bodyPost_ret (v := .agg #[.slice d2.A1 d2.n1 d2.c1,.slice d2.A2 d2.n2 d2.c2,.slice d2.A3 d2.n3 d2.c3,.int .i64 d2.lic.A,.int .i64 d2.lic.B,.int .i64 d2.lic.C,.int .i64 d2.dep,.int .i64 d2.now,.slice d2.A6 d2.n6 d2.c6,.slice d2.A7 d2.n7 d2.c7,.slice d2.A8 d2.n8 d2.c8]) (by simp [results,Tryz.results11,go_sem, *]) rfl HF.out
 ·go_wp2_with fail
  refine (HTA.out _ HD2.out.cu).mono ?_
  rintro e w3 ⟨A,c,ps,B,dc,ns,rfl,ho1,hk1,ho2,hk2,hps,hns,ht3,hc3⟩
  have hgd : w.heap.size ≤ w2.heap.size := HD2.out.tu.le
  have HD3 := Hh (HD2.out.turn ht3 hc3)
  have HO1 := Hh (owns_base ho1 (show w.heap.size ≤ _ by omega))
  have HO2 := Hh (owns_base ho2 (show w.heap.size ≤ _ by omega))
  have HD5 := Hh (HD3.out.cell (p := 0) (x := .slice A ps.length c) (d2 := d.withTopo ps A ps.length c d.ns d.A2 d.n2 d.c2) rfl (HD3.out.gd.topo rfl HD3.out.gd.l2 (.inr HO1.out) HD3.out.gd.r2 hk1 HD3.out.gd.k2))
  have HO3 := Hh ((kept_set w3 bx 0 (.slice A ps.length c)).own HO2.out (g_apart HO2.out HD3.out.b5 (by decide)))
  have HD4 := Hh (HD5.out.cell (p := 1) (x := .slice B ns.length dc) (d2 := d.withTopo ps A ps.length c ns B ns.length dc) rfl (HD5.out.gd.topo rfl rfl HD5.out.gd.r1 (.inr HO3.out) hk1 hk2))
  clear ht3 hc3 ho1 ho2 hk1 hk2 HD2 HD5 HO1 HO2 HO3
  obtain ⟨⟨t0,t1,t2,t3,t4,t5,t6,t7,t8,t9,t10⟩,⟨f0,f1,f2,f3,f4,f5,f6,f7,f8,f9,f10⟩,tl⟩ := cells11 HD3.out.b5
  clear HD3
  go_upto_region 23 with fail
  clear t0 t1 t2 t3 t4 t5 t6 t7 t8 t9 t10 f0 f1 f2 f3 f4 f5 f6 f7 f8 f9 f10 tl
  generalize ((w3.setCell ⟨bx,0,none⟩ (.slice A ps.length c)).setCell ⟨bx,1,none⟩ (.slice B ns.length dc)) = u4 at *
  obtain ⟨d2,hd2⟩ : ∃ d2,d2 = d.withTopo ps A ps.length c ns B ns.length dc := ⟨_,rfl⟩
  have HM2 := Hh (show StD.mid d2 from by rw [hd2];obtain ⟨m1,m2,m3,m6,m7,m8⟩ := HS.out;simp only [StD.mid,StD.withTopo];omega)
  rw [← hd2] at HD4
  clear hd2 HS
  obtain ⟨⟨p0,p1,p2,p3,p4,p5,p6,p7,p8,p9,p10⟩,⟨pf0,pf1,pf2,pf3,pf4,pf5,pf6,pf7,pf8,pf9,pf10⟩,pl⟩ := cells11 HD4.out.b5
  obtain ⟨⟨q0,q1,q2,q3,q4,q5,q6,q7,q8,q9,q10⟩,⟨qf0,qf1,qf2,qf3,qf4,qf5,qf6,qf7,qf8,qf9,qf10⟩,ql⟩ := cells11 HD4.out.b4
  have HF := Hh (HD4.out.fin2 HM2.out)
  clear HD4
  go_wp2
  exact bodyPost_ret (v := .agg #[.slice d2.A1 d2.n1 d2.c1,.slice d2.A2 d2.n2 d2.c2,.slice d2.A3 d2.n3 d2.c3,.int .i64 d2.lic.A,.int .i64 d2.lic.B,.int .i64 d2.lic.C,.int .i64 d2.dep,.int .i64 d2.now,.slice d2.A6 d2.n6 d2.c6,.slice d2.A7 d2.n7 d2.c7,.slice d2.A8 d2.n8 d2.c8]) (by simp [results,Tryz.results11,go_sem, *]) rfl HF.out
 ·have e0 : (k == 0) = false := by rw [beq_eq_false_iff_ne];omega
  have e1 : (k == 1) = false := by rw [beq_eq_false_iff_ne];omega
  have e2 : (k == 2) = false := by rw [beq_eq_false_iff_ne];omega
  have e3 : (k == 3) = false := by rw [beq_eq_false_iff_ne];omega
  have e4 : (k == 4) = false := by rw [beq_eq_false_iff_ne];omega
  have e5 : (k == 5) = false := by rw [beq_eq_false_iff_ne];omega
  have e6 : (k == 6) = false := by rw [beq_eq_false_iff_ne];omega
  have e7 : (k == 7) = false := by rw [beq_eq_false_iff_ne];omega
  have e8 : (k == 8) = false := by rw [beq_eq_false_iff_ne];omega
  have e9 : (k == 9) = false := by rw [beq_eq_false_iff_ne];omega
  have e0' : decide (k = 0) = false := by rw [decide_eq_false_iff_not];omega
  have e1' : decide (k = 1) = false := by rw [decide_eq_false_iff_not];omega
  have e2' : decide (k = 2) = false := by rw [decide_eq_false_iff_not];omega
  have e3' : decide (k = 3) = false := by rw [decide_eq_false_iff_not];omega
  have e4' : decide (k = 4) = false := by rw [decide_eq_false_iff_not];omega
  have e5' : decide (k = 5) = false := by rw [decide_eq_false_iff_not];omega
  have e6' : decide (k = 6) = false := by rw [decide_eq_false_iff_not];omega
  have e7' : decide (k = 7) = false := by rw [decide_eq_false_iff_not];omega
  have e8' : decide (k = 8) = false := by rw [decide_eq_false_iff_not];omega
  have e9' : decide (k = 9) = false := by rw [decide_eq_false_iff_not];omega
  have HM2 := Hh (StD.sm.mid (d := d) HS.out)
  clear HS hk hk0 hk20
  obtain ⟨⟨p0,p1,p2,p3,p4,p5,p6,p7,p8,p9,p10⟩,⟨pf0,pf1,pf2,pf3,pf4,pf5,pf6,pf7,pf8,pf9,pf10⟩,pl⟩ := cells11 HD2.out.b5
  obtain ⟨⟨q0,q1,q2,q3,q4,q5,q6,q7,q8,q9,q10⟩,⟨qf0,qf1,qf2,qf3,qf4,qf5,qf6,qf7,qf8,qf9,qf10⟩,ql⟩ := cells11 HD2.out.b4
  have HF := Hh (HD2.out.fin2 HM2.out)
  clear HD2
  go_wp2
  exact bodyPost_ret (v := .agg #[.slice d.A1 d.n1 d.c1,.slice d.A2 d.n2 d.c2,.slice d.A3 d.n3 d.c3,.int .i64 d.lic.A,.int .i64 d.lic.B,.int .i64 d.lic.C,.int .i64 d.dep,.int .i64 d.now,.slice d.A6 d.n6 d.c6,.slice d.A7 d.n7 d.c7,.slice d.A8 d.n8 d.c8]) (by simp [results,Tryz.results11,go_sem, *]) rfl HF.out
def RetAnyD (w : World) : Ending → World → Prop := fun e w' => ∃ d : StD,e = .returned (.agg #[.slice d.A1 d.n1 d.c1,.slice d.A2 d.n2 d.c2,.slice d.A3 d.n3 d.c3,.int .i64 d.lic.A,.int .i64 d.lic.B,.int .i64 d.lic.C,.int .i64 d.dep,.int .i64 d.now,.slice d.A6 d.n6 d.c6,.slice d.A7 d.n7 d.c7,.slice d.A8 d.n8 d.c8]) ∧ d.good w' w.heap.size ∧ d.mid ∧ Ext w w'
theorem DrawDuesOf_c (bs : List Int) (A : Option Addr) (n c : Nat) (w : World) (hs : SlAt RU8 1 w A n bs) (hn : n ≤ 1048576) : Calls Tryz.prog 4 #[.slice A n c] w (RetAnyD w) := by
 have HN := Hh (fun (u : World) (e : Ext w u) => l01New_c bs A n c u (hs.ext RU8.mono e) hn)
 clear hs
 go_enter Tryz.func4,Tryz.ntmps4
 go_wp2_with fail
 refine (HN.out _ ((Ext.refl _).alloc _)).mono ?_
 rintro e w0 ⟨g,rfl,hg,hb0,hc0⟩
 have hg1 : g < w0.heap.size := hc0.lt
 have hg0 : w.heap.size + 1 ≤ g := by simpa using hg
 have HE0 := Hh (((Ext.refl w).alloc (.cells #[.slice none 0 0,.slice none 0 0,.slice none 0 0,.int .i64 0,.int .i64 0,.int .i64 0,.int .i64 0,.int .i64 0,.slice none 0 0,.slice none 0 0,.slice none 0 0] 34)).trans hb0)
 have HZ0 := Hh (owns_ext (gbox w [.slice none 0 0,.slice none 0 0,.slice none 0 0,.int .i64 0,.int .i64 0,.int .i64 0,.int .i64 0,.int .i64 0,.slice none 0 0,.slice none 0 0,.slice none 0 0] 34 11 rfl) hb0)
 clear hb0 hg
 go_wp2_with fail
 refine (l06Any_c g _ hc0).mono ?_
 rintro e w1 ⟨d,rfl,hd,hm,ht1,hc1⟩
 have EX : Ext w1 (w1.alloc (.cells #[.slice d.A1 d.n1 d.c1,.slice d.A2 d.n2 d.c2,.slice d.A3 d.n3 d.c3,.int .i64 d.lic.A,.int .i64 d.lic.B,.int .i64 d.lic.C,.int .i64 d.dep,.int .i64 d.now,.slice d.A6 d.n6 d.c6,.slice d.A7 d.n7 d.c7,.slice d.A8 d.n8 d.c8] 34)) := (Ext.refl _).alloc _
 have hl1 := ht1.le
 have hne : w.heap.size ≠ w1.heap.size := by omega
 have HX2 := Hh (gbox w1 [.slice d.A1 d.n1 d.c1,.slice d.A2 d.n2 d.c2,.slice d.A3 d.n3 d.c3,.int .i64 d.lic.A,.int .i64 d.lic.B,.int .i64 d.lic.C,.int .i64 d.dep,.int .i64 d.now,.slice d.A6 d.n6 d.c6,.slice d.A7 d.n7 d.c7,.slice d.A8 d.n8 d.c8] 34 11 rfl)
 have HZ2 := Hh (show (w1.alloc (.cells #[.slice d.A1 d.n1 d.c1,.slice d.A2 d.n2 d.c2,.slice d.A3 d.n3 d.c3,.int .i64 d.lic.A,.int .i64 d.lic.B,.int .i64 d.lic.C,.int .i64 d.dep,.int .i64 d.now,.slice d.A6 d.n6 d.c6,.slice d.A7 d.n7 d.c7,.slice d.A8 d.n8 d.c8] 34)).ownsRow w.heap.size 34 11 (.slice (some ⟨w.heap.size,0,none⟩) 1 1) 1 [.slice none 0 0,.slice none 0 0,.slice none 0 0,.int .i64 0,.int .i64 0,.int .i64 0,.int .i64 0,.int .i64 0,.slice none 0 0,.slice none 0 0,.slice none 0 0] from owns_ext (g_off HZ0.out ht1 (fun q hq => .inl (by have h := Option.some.inj (show some w.heap.size = some q from hq);omega))) EX)
 have HG := Hh ((StD.good.puts (g := w.heap.size) (lo := w0.heap.size) (by omega) [.slice d.A1 d.n1 d.c1,.slice d.A2 d.n2 d.c2,.slice d.A3 d.n3 d.c3,.int .i64 d.lic.A,.int .i64 d.lic.B,.int .i64 d.lic.C,.int .i64 d.dep,.int .i64 d.now,.slice d.A6 d.n6 d.c6,.slice d.A7 d.n7 d.c7,.slice d.A8 d.n8 d.c8] _ 0 (hd.ext EX)).base (lo' := w.heap.size) (by omega))
 have HE := Hh (Ext.puts [.slice d.A1 d.n1 d.c1,.slice d.A2 d.n2 d.c2,.slice d.A3 d.n3 d.c3,.int .i64 d.lic.A,.int .i64 d.lic.B,.int .i64 d.lic.C,.int .i64 d.dep,.int .i64 d.now,.slice d.A6 d.n6 d.c6,.slice d.A7 d.n7 d.c7,.slice d.A8 d.n8 d.c8] _ 0 ((ext_turned HE0.out ht1 (by omega)).trans EX) (Nat.le_refl w.heap.size))
 have HM := Hh hm
 obtain ⟨⟨p0,p1,p2,p3,p4,p5,p6,p7,p8,p9,p10⟩,⟨pf0,pf1,pf2,pf3,pf4,pf5,pf6,pf7,pf8,pf9,pf10⟩,pl⟩ := cells11 HX2.out
 obtain ⟨⟨q0,q1,q2,q3,q4,q5,q6,q7,q8,q9,q10⟩,⟨qf0,qf1,qf2,qf3,qf4,qf5,qf6,qf7,qf8,qf9,qf10⟩,ql⟩ := cells11 HZ2.out
 clear hd hm ht1 hc1 EX HX2 HZ2 HZ0 HE0
 go_wp2
 exact bodyPost_ret (v := .agg #[.slice d.A1 d.n1 d.c1,.slice d.A2 d.n2 d.c2,.slice d.A3 d.n3 d.c3,.int .i64 d.lic.A,.int .i64 d.lic.B,.int .i64 d.lic.C,.int .i64 d.dep,.int .i64 d.now,.slice d.A6 d.n6 d.c6,.slice d.A7 d.n7 d.c7,.slice d.A8 d.n8 d.c8]) (by simp [results,Tryz.results4,go_sem, *]) rfl ⟨d,rfl,HG.out,HM.out,HE.out⟩
structure Due where
 At : Int
 Id : Int
def Due.enc (x : Due) : List Value := [.int .i64 x.At,.int .i64 x.Id]
def Due.ok (x : Due) : Prop := In64 x.At ∧ In64 x.Id
theorem Due.size (x : Due) : x.enc.length = 2 := rfl
abbrev RDue : Rel Due := Flat Due.enc Due.ok
theorem Due.one (x : Due) : ∀ u ∈ x.enc,u.oneCell' = true := by
 intro u hu
 simp [Due.enc] at hu
 rcases hu with rfl | rfl <;> rfl
end Go.Proofs.YtfanjhcdjbnnnaaGreat
