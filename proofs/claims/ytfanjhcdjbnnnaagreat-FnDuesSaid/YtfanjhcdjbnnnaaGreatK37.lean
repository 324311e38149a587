/- MvFail, MvRes, MvRsz. -/
import Derived.Test.YtfanjhcdjbnnnaaGreatK32
namespace Go.Proofs.YtfanjhcdjbnnnaaGreat
open Go.RowKit
set_option linter.unusedVariables false
set_option maxHeartbeats 16000000
set_option maxRecDepth 10000
theorem Fail_c (d : StD) (lo : Nat) (n : Int) (w : World) (h : d.good w lo) (hsm : d.mid) : Calls Tryz.prog 71 #[.agg #[.slice d.A1 d.n1 d.c1,.slice d.A2 d.n2 d.c2,.slice d.A3 d.n3 d.c3,.int .i64 d.lic.A,.int .i64 d.lic.B,.int .i64 d.lic.C,.int .i64 d.dep,.int .i64 d.now,.slice d.A6 d.n6 d.c6,.slice d.A7 d.n7 d.c7,.slice d.A8 d.n8 d.c8],.int .i64 n] w (RetStI w) := by
 obtain ⟨iJ,hiJ,hJ0,hJ1,hJ2⟩ := info_parts CJob.info
 obtain ⟨hs1,hs2,hs3,hs6,hs7,hs8⟩ := hsm
 obtain ⟨s,hst,hln,hps,hns,hup,hqq,hnw⟩ := h.state
 have hsl : stateLen s := by obtain ⟨e1,e2,e3,e6,e7,e8⟩ := hln;exact ⟨by omega,by omega,by omega,by omega,by omega,by omega⟩
 have HSO := Hh (fun (u : World) (e : Ext w u) => sStateOk_c s _ u (hst.ext e) hsl)
 have HOK := Hh (fun (hh : stateB s = true) => okd_of hln hh)
 have HCP := Hh (fun (u : World) (e : Ext w u) => l06Copy_c s _ u (hst.ext e) hsl (by rw [hnw];exact h.kn))
 have HLN := Hh hln
 have HMI := Hh (MvI.start1 h)
 clear hst hln hps hns hup hqq hnw h hsl
 generalize stateB s = ob at *
 generalize (emptyF s).isSome = eb at *
 go_enter Tryz.func71,Tryz.ntmps71
 go_wp2_with fail
 refine (HSO.out _ (((Ext.refl w).alloc _).alloc _)).mono ?_
 rintro e w1 ⟨rfl,hb1⟩
 have HMI1 := Hh (HMI.out.mv hb1)
 clear hb1 HMI HSO
 rcases ob with _ | _
 ·skip
  obtain ⟨⟨r0,r1,r2,r3,r4,r5,r6,r7,r8,r9,r10⟩,⟨rf0,rf1,rf2,rf3,rf4,rf5,rf6,rf7,rf8,rf9,rf10⟩,rl⟩ := cells11 HMI1.out.res
  have HEF := Hh HMI1.out.fail
  go_wp2
  exact bodyPost_ret (v := .tuple #[.agg #[.slice none 0 0,.slice none 0 0,.slice none 0 0,.int .i64 0,.int .i64 0,.int .i64 0,.int .i64 0,.int .i64 0,.slice none 0 0,.slice none 0 0,.slice none 0 0],.int .i64 1]) (by simp [results,Tryz.results71,go_sem, *]) rfl ⟨StD.zero,1,rfl,StD.zero_good _ _,StD.zero_sm,HEF.out⟩
 obtain ⟨⟨⟨ok1,ok2,ok3,ok67,ok8⟩,ok23,ok32⟩,_⟩ := HOK.out rfl
 clear HOK
 obtain ⟨⟨t0,t1,t2,t3,t4,t5,t6,t7,t8,t9,t10⟩,⟨f0,f1,f2,f3,f4,f5,f6,f7,f8,f9,f10⟩,tl⟩ := cells11 HMI1.out.box
 go_wp2_with fail
 refine (l06NodeD_c d n _).mono ?_
 rintro e w2 ⟨rfl,hb2⟩
 have HMI2 := Hh (HMI1.out.mv hb2)
 clear hb2 HMI1
 clear t0 t1 t2 t3 t4 t5 t6 t7 t8 t9 t10 f0 f1 f2 f3 f4 f5 f6 f7 f8 f9 f10 tl
 by_cases hn : 0 ≤ n ∧ n < d.n2
 rotate_left
 ·have hd : decide (0 ≤ n ∧ n < d.n2) = false := decide_eq_false hn
  generalize decide (0 ≤ n ∧ n < d.n2) = nb at *
  subst hd
  obtain ⟨⟨r0,r1,r2,r3,r4,r5,r6,r7,r8,r9,r10⟩,⟨rf0,rf1,rf2,rf3,rf4,rf5,rf6,rf7,rf8,rf9,rf10⟩,rl⟩ := cells11 HMI2.out.res
  have HEF := Hh HMI2.out.fail
  go_wp2
  exact bodyPost_ret (v := .tuple #[.agg #[.slice none 0 0,.slice none 0 0,.slice none 0 0,.int .i64 0,.int .i64 0,.int .i64 0,.int .i64 0,.int .i64 0,.slice none 0 0,.slice none 0 0,.slice none 0 0],.int .i64 7]) (by simp [results,Tryz.results71,go_sem, *]) rfl ⟨StD.zero,7,rfl,StD.zero_good _ _,StD.zero_sm,HEF.out⟩
 have hd : decide (0 ≤ n ∧ n < d.n2) = true := decide_eq_true hn
 generalize decide (0 ≤ n ∧ n < d.n2) = nb at *
 subst hd
 obtain ⟨hn0,hn2⟩ := hn
 obtain ⟨kk,rfl⟩ := Int.eq_ofNat_of_zero_le hn0
 have hk3 : kk < d.n3 := by omega
 obtain ⟨g,hA3⟩ := HMI2.out.gd.upForm (by omega)
 obtain ⟨⟨ub,hub⟩,huf,hul⟩ := HMI2.out.gd.upCell hA3 hk3
 obtain ⟨⟨t0,t1,t2,t3,t4,t5,t6,t7,t8,t9,t10⟩,⟨f0,f1,f2,f3,f4,f5,f6,f7,f8,f9,f10⟩,tl⟩ := cells11 HMI2.out.box
 rw [hA3] at t2
 rcases ub with _ | _
 ·skip
  obtain ⟨⟨r0,r1,r2,r3,r4,r5,r6,r7,r8,r9,r10⟩,⟨rf0,rf1,rf2,rf3,rf4,rf5,rf6,rf7,rf8,rf9,rf10⟩,rl⟩ := cells11 HMI2.out.res
  have HEF := Hh HMI2.out.fail
  go_wp2
  exact bodyPost_ret (v := .tuple #[.agg #[.slice none 0 0,.slice none 0 0,.slice none 0 0,.int .i64 0,.int .i64 0,.int .i64 0,.int .i64 0,.int .i64 0,.slice none 0 0,.slice none 0 0,.slice none 0 0],.int .i64 7]) (by simp [results,Tryz.results71,go_sem, *]) rfl ⟨StD.zero,7,rfl,StD.zero_good _ _,StD.zero_sm,HEF.out⟩
 go_upto_region 5 with fail
 clear t0 t1 t2 t3 t4 t5 t6 t7 t8 t9 t10 f0 f1 f2 f3 f4 f5 f6 f7 f8 f9 f10 tl
 clear hA3 hub huf hul
 obtain ⟨⟨t0,t1,t2,t3,t4,t5,t6,t7,t8,t9,t10⟩,⟨f0,f1,f2,f3,f4,f5,f6,f7,f8,f9,f10⟩,tl⟩ := cells11 HMI2.out.box
 go_wp2_with fail
 refine (HCP.out _ HMI2.out.ext).mono ?_
 rintro e w7 ⟨d1,rfl,hd1,hn1,hb7⟩
 have HMC := Hh (HMI2.out.copy hb7 hd1)
 have HN1 := Hh hn1
 clear hb7 hd1 hn1 HMI2 HCP
 clear t0 t1 t2 t3 t4 t5 t6 t7 t8 t9 t10 f0 f1 f2 f3 f4 f5 f6 f7 f8 f9 f10 tl
 obtain ⟨⟨t0,t1,t2,t3,t4,t5,t6,t7,t8,t9,t10⟩,⟨f0,f1,f2,f3,f4,f5,f6,f7,f8,f9,f10⟩,tl⟩ := cells11 HMC.out.box
 go_upto_region 6 with fail
 generalize hwq : (((((((((((w7.setCell ⟨w.heap.size,0,none⟩ (.slice d1.A1 d1.n1 d1.c1)).setCell ⟨w.heap.size,1,none⟩ (.slice d1.A2 d1.n2 d1.c2)).setCell ⟨w.heap.size,2,none⟩ (.slice d1.A3 d1.n3 d1.c3)).setCell ⟨w.heap.size,3,none⟩ (.int .i64 d1.lic.A)).setCell ⟨w.heap.size,4,none⟩ (.int .i64 d1.lic.B)).setCell ⟨w.heap.size,5,none⟩ (.int .i64 d1.lic.C)).setCell ⟨w.heap.size,6,none⟩ (.int .i64 d1.dep)).setCell ⟨w.heap.size,7,none⟩ (.int .i64 d1.now)).setCell ⟨w.heap.size,8,none⟩ (.slice d1.A6 d1.n6 d1.c6)).setCell ⟨w.heap.size,9,none⟩ (.slice d1.A7 d1.n7 d1.c7)).setCell ⟨w.heap.size,10,none⟩ (.slice d1.A8 d1.n8 d1.c8)) = w8
 have hwq' : setCells w7 w.heap.size 0 [.slice d1.A1 d1.n1 d1.c1,.slice d1.A2 d1.n2 d1.c2,.slice d1.A3 d1.n3 d1.c3,.int .i64 d1.lic.A,.int .i64 d1.lic.B,.int .i64 d1.lic.C,.int .i64 d1.dep,.int .i64 d1.now,.slice d1.A6 d1.n6 d1.c6,.slice d1.A7 d1.n7 d1.c7,.slice d1.A8 d1.n8 d1.c8] = w8 := hwq
 have HMI8 := Hh (HMC.out.put (by decide))
 rw [hwq'] at HMI8
 clear hwq hwq' HMC
 clear t0 t1 t2 t3 t4 t5 t6 t7 t8 t9 t10 f0 f1 f2 f3 f4 f5 f6 f7 f8 f9 f10 tl
 have HM1 := Hh (show d1.n1 ≤ 24 ∧ d1.n2 ≤ 24 ∧ d1.n3 ≤ 24 ∧ d1.n6 + d1.n7 ≤ 60 ∧ d1.n8 ≤ 300 from by obtain ⟨a1,a2,a3,a6,a7,a8⟩ := HN1.out;obtain ⟨b1,b2,b3,b6,b7,b8⟩ := HLN.out;exact ⟨by omega,by omega,by omega,by omega,by omega⟩)
 obtain ⟨q1,q2,q3,q67,q8⟩ := HM1.out
 have hk1 : kk < d1.n3 := by obtain ⟨a1,a2,a3,a6,a7,a8⟩ := HN1.out;obtain ⟨b1,b2,b3,b6,b7,b8⟩ := HLN.out;omega
 obtain ⟨⟨t0,t1,t2,t3,t4,t5,t6,t7,t8,t9,t10⟩,⟨f0,f1,f2,f3,f4,f5,f6,f7,f8,f9,f10⟩,tl⟩ := cells11 HMI8.out.box
 go_upto_region 7 with fail
 clear t0 t1 t2 t3 t4 t5 t6 t7 t8 t9 t10 f0 f1 f2 f3 f4 f5 f6 f7 f8 f9 f10 tl
 obtain ⟨A7,hA7⟩ : ∃ A7,d1.A7 = A7 := ⟨_,rfl⟩
 rw [hA7]
 go_loopw [30] (fun iv wr => ∃ (k : Nat) (d2 : StD),k ≤ d1.n7 ∧ iv = .int .i64 k ∧ d2.n6 ≤ d1.n6 + k ∧ Hid (MvI w wr 1 w.heap.size d2 d2) ∧ Hid (d2.rs = d1.rs ∧ d2.A7 = d1.A7 ∧ d2.n7 = d1.n7 ∧ d2.c7 = d1.c7) ∧ Hid (d2.n1 = d1.n1 ∧ d2.n2 = d1.n2 ∧ d2.n3 = d1.n3 ∧ d2.n8 = d1.n8)) (fun iv _ => d1.n7 - (intOf iv).toNat)
 case atStart => exact ⟨0,d1,Nat.zero_le _,rfl,by omega,HMI8,Hh ⟨rfl,rfl,rfl,rfl⟩,Hh ⟨rfl,rfl,rfl,rfl⟩⟩
 case round =>
  clear HMI8
  obtain ⟨k,d2,hk,rfl,hd6,HMR,HSR,HSZ⟩ := hrel
  have hlw := HMR.out.ext.le
  by_cases hlt : k < d1.n7
  ·have HSA := Hh (show SlAt (Flat RawRun.enc RawRun.ok) 13 wr A7 d1.n7 d1.rs from by have h := HMR.out.gd.sl7;rw [HSR.out.1,HSR.out.2.1,HSR.out.2.2.1,hA7] at h;exact h)
   obtain ⟨bo,oo,x,cs,rfl,hbw,hx,_,hc,rfl,hok⟩ := HSA.out.at_ hlt
   have HMM := Hh (show RawRun.mem wr w.heap.size x from (HMR.out.gd.k7 x (by rw [HSR.out.1];exact List.mem_of_getElem? hx)).2)
   have HK := Hh hok
   have g0 := hc 0 _ rfl
   have g1 := hc 1 _ rfl
   have g2 := hc 2 _ rfl
   have g3 := hc 3 _ rfl
   have g4 := hc 4 _ rfl
   have g5 := hc 5 _ rfl
   have g6 := hc 6 _ rfl
   have g7 := hc 7 _ rfl
   have g8 := hc 8 _ rfl
   have g9 := hc 9 _ rfl
   have g10 := hc 10 _ rfl
   have g11 := hc 11 _ rfl
   have g12 := hc 12 _ rfl
   simp only [Nat.add_zero] at g0
   have HXB := Hh (gbox wr [.int .i64 x.j.Id,.int .i64 x.j.Prio,.int .i64 x.j.Nodes,.int .i64 x.j.Need.A,.int .i64 x.j.Need.B,.int .i64 x.j.Need.C,.int .i64 x.j.Lic.A,.int .i64 x.j.Lic.B,.int .i64 x.j.Lic.C,.int .i64 x.j.Wall,.int .i64 x.j.Level,.int .i64 x.at_,.slice x.A x.n x.c] 54 13 rfl)
   have HE1 := Hh (show Ext wr (wr.alloc (.cells (RawRun.enc x).toArray 54)) from (Ext.refl wr).alloc _)
   clear hc hx hok HSA
   obtain ⟨xs,hxs⟩ := HMM.out
   have HHA := Hh (l02Has_c xs kk x.A x.n x.c _ (hxs.1.ext (Flat.mono _ _) HE1.out) (by have := HK.out.2.2.1;unfold maxLen;omega))
   clear hxs
   go_wp2_with fail
   refine HHA.out.mono ?_
   rintro e w5 ⟨rfl,hb5⟩
   generalize xs.contains (kk : Int) = hh at *
   have HM5 := Hh (HMR.out.mv (HE1.out.trans hb5))
   have HXB5 := Hh (owns_ext HXB.out hb5)
   have hl5 := hb5.le
   simp at hl5
   clear hb5 HHA g0 g1 g2 g3 g4 g5 g6 g7 g8 g9 g10 g11 g12 HMR
   rcases hh with _ | _
   ·go_wp2
    go_roundw
    case rel => exact ⟨k + 1,d2,by omega,by go_num,by omega,HM5,HSR,HSZ⟩
    case measure => simp [intOf];omega
   ·have HJK := Hh HK.out.1
    obtain ⟨⟨z0,z1,z2,z3,z4,z5,z6,z7,z8,z9,z10,z11,z12⟩,zf,zl⟩ := cells13 HXB5.out
    obtain ⟨⟨t0,t1,t2,t3,t4,t5,t6,t7,t8,t9,t10⟩,⟨f0,f1,f2,f3,f4,f5,f6,f7,f8,f9,f10⟩,tl⟩ := cells11 HM5.out.box
    go_upto_region 11 with (at_builtin;go_must (refine wpList_append_k (enc := Job.enc) (ok := Job.ok) (.tmp 39) (.tmp 42) _ w.heap.size 52 iJ _ 11 88 (.slice d2.A6 d2.n6 d2.c6) d2.n6 (d2.q.flatMap Job.enc) (some ⟨w5.heap.size,0,none⟩) 1 1 [x.j] (d2.n6 + 1) ((d2.q ++ [x.j]).flatMap Job.enc) rfl List.flatMap_append.symm rfl rfl Tryz.underlying30 hiJ hJ0 hJ1 hJ2 rfl (by omega) rfl (owns_ext (HM5.out.gd.r6) ((Ext.refl _).alloc _)) rfl (by exact sl_one_at (enc := Job.enc) w5 _ rfl x.j 52 rfl HJK.out) Job.size Job.one (by unfold maxLen;omega) (by omega) (by simp;omega) ?_);intro A9 c9 w9 hr;have HR9 := Hh hr;clear hr;have HB9 := Hh (HR9.out.kp.own (owns_ext HM5.out.box ((Ext.refl w5).alloc (.cells (Job.enc x.j).toArray 52))) (g_apart (owns_ext HM5.out.box ((Ext.refl w5).alloc (.cells (Job.enc x.j).toArray 52))) (owns_ext HM5.out.gd.r6 ((Ext.refl w5).alloc (.cells (Job.enc x.j).toArray 52))) (by decide)));clear t0 t1 t2 t3 t4 t5 t6 t7 t8 t9 t10 f0 f1 f2 f3 f4 f5 f6 f7 f8 f9 f10 tl;obtain ⟨⟨t0,t1,t2,t3,t4,t5,t6,t7,t8,t9,t10⟩,⟨f0,f1,f2,f3,f4,f5,f6,f7,f8,f9,f10⟩,tl⟩ := cells11 HB9.out)
    have EA : Ext w5 (w5.alloc (.cells (Job.enc x.j).toArray 52)) := (Ext.refl _).alloc _
    have HMI9 := Hh (((HM5.out.mv EA).row (owns_ext HM5.out.gd.r6 EA) HR9.out.kp (by decide) (Nat.le_refl _) ((HM5.out.gd.ext EA).pushQ (by rw [← List.flatMap_append];exact HR9.out) HJK.out)).tell (by decide) (p := 8) (x := .slice A9 (d2.n6 + 1) c9) rfl)
    clear z0 z1 z2 z3 z4 z5 z6 z7 z8 z9 z10 z11 z12 zf zl HB9 HR9 HM5 EA HXB HXB5
    clear t0 t1 t2 t3 t4 t5 t6 t7 t8 t9 t10 f0 f1 f2 f3 f4 f5 f6 f7 f8 f9 f10 tl
    go_wp2
    go_roundw
    case rel => exact ⟨k + 1,d2.withQ (d2.q ++ [x.j]) A9 (d2.n6 + 1) c9,by omega,by go_num,(by show d2.n6 + 1 ≤ _;omega),HMI9,HSR,HSZ⟩
    case measure => simp [intOf];omega
  ·obtain rfl : k = d1.n7 := by omega
   have HM2 := Hh (show d2.n1 ≤ 24 ∧ d2.n2 ≤ 24 ∧ d2.n3 ≤ 24 ∧ d2.n6 ≤ 60 ∧ d2.n7 ≤ 60 ∧ d2.n8 ≤ 300 ∧ kk < d2.n3 from by obtain ⟨a1,a2,a3,a8⟩ := HSZ.out;have a7 := HSR.out.2.2.1;exact ⟨by omega,by omega,by omega,by omega,by omega,by omega,by omega⟩)
   clear HSR HSZ hA7 q1 q2 q3 q67 q8 hlt
   obtain ⟨q1,q2,q3,q6,q7,q8,hk2⟩ := HM2.out
   obtain ⟨⟨t0,t1,t2,t3,t4,t5,t6,t7,t8,t9,t10⟩,⟨f0,f1,f2,f3,f4,f5,f6,f7,f8,f9,f10⟩,tl⟩ := cells11 HMR.out.box
   go_wp2_with fail
   refine (l06Drop_c d2 w.heap.size 4 0 kk _ HMR.out.gd HMR.out.ext.le (by exact ⟨by omega,by omega,by omega,by omega,by omega,by omega⟩) (by unfold In64;omega)).mono ?_
   rintro e wd ⟨dd,rfl,hdd,hnd,hkd⟩
   have HMD := Hh (HMR.out.row HMR.out.gd.r8 hkd (by decide) (Nat.le_refl _) hdd)
   have HND := Hh (show dd.n1 ≤ 24 ∧ dd.n2 ≤ 24 ∧ dd.n3 ≤ 24 ∧ dd.n6 ≤ 60 ∧ dd.n7 ≤ 60 ∧ dd.n8 ≤ 400 ∧ kk < dd.n3 from by obtain ⟨a1,a2,a3,a6,a7,a8⟩ := hnd;exact ⟨by omega,by omega,by omega,by omega,by omega,by omega,by omega⟩)
   clear hdd hnd hkd HMR
   clear t0 t1 t2 t3 t4 t5 t6 t7 t8 t9 t10 f0 f1 f2 f3 f4 f5 f6 f7 f8 f9 f10 tl
   obtain ⟨⟨t0,t1,t2,t3,t4,t5,t6,t7,t8,t9,t10⟩,⟨f0,f1,f2,f3,f4,f5,f6,f7,f8,f9,f10⟩,tl⟩ := cells11 HMD.out.box
   go_upto_region 13 with fail
   generalize hwq : (((((((((((wd.setCell ⟨w.heap.size,0,none⟩ (.slice dd.A1 dd.n1 dd.c1)).setCell ⟨w.heap.size,1,none⟩ (.slice dd.A2 dd.n2 dd.c2)).setCell ⟨w.heap.size,2,none⟩ (.slice dd.A3 dd.n3 dd.c3)).setCell ⟨w.heap.size,3,none⟩ (.int .i64 dd.lic.A)).setCell ⟨w.heap.size,4,none⟩ (.int .i64 dd.lic.B)).setCell ⟨w.heap.size,5,none⟩ (.int .i64 dd.lic.C)).setCell ⟨w.heap.size,6,none⟩ (.int .i64 dd.dep)).setCell ⟨w.heap.size,7,none⟩ (.int .i64 dd.now)).setCell ⟨w.heap.size,8,none⟩ (.slice dd.A6 dd.n6 dd.c6)).setCell ⟨w.heap.size,9,none⟩ (.slice dd.A7 dd.n7 dd.c7)).setCell ⟨w.heap.size,10,none⟩ (.slice dd.A8 dd.n8 dd.c8)) = we
   have hwq' : setCells wd w.heap.size 0 [.slice dd.A1 dd.n1 dd.c1,.slice dd.A2 dd.n2 dd.c2,.slice dd.A3 dd.n3 dd.c3,.int .i64 dd.lic.A,.int .i64 dd.lic.B,.int .i64 dd.lic.C,.int .i64 dd.dep,.int .i64 dd.now,.slice dd.A6 dd.n6 dd.c6,.slice dd.A7 dd.n7 dd.c7,.slice dd.A8 dd.n8 dd.c8] = we := hwq
   have HME := Hh (HMD.out.put (by decide))
   rw [hwq'] at HME
   clear hwq hwq' HMD
   clear t0 t1 t2 t3 t4 t5 t6 t7 t8 t9 t10 f0 f1 f2 f3 f4 f5 f6 f7 f8 f9 f10 tl
   clear q1 q2 q3 q6 q7 q8 hk2
   obtain ⟨q1,q2,q3,q6,q7,q8,hk2⟩ := HND.out
   obtain ⟨⟨t0,t1,t2,t3,t4,t5,t6,t7,t8,t9,t10⟩,⟨f0,f1,f2,f3,f4,f5,f6,f7,f8,f9,f10⟩,tl⟩ := cells11 HME.out.box
   rcases (Bool.eq_false_or_eq_true (decide ((300 : Int) < (dd.n8 : Int)))) with h300 | h300
   ·skip
    obtain ⟨⟨r0,r1,r2,r3,r4,r5,r6,r7,r8,r9,r10⟩,⟨rf0,rf1,rf2,rf3,rf4,rf5,rf6,rf7,rf8,rf9,rf10⟩,rl⟩ := cells11 HME.out.res
    have HEF := Hh HME.out.fail
    go_wp2
    exact bodyPost_ret (v := .tuple #[.agg #[.slice none 0 0,.slice none 0 0,.slice none 0 0,.int .i64 0,.int .i64 0,.int .i64 0,.int .i64 0,.int .i64 0,.slice none 0 0,.slice none 0 0,.slice none 0 0],.int .i64 6]) (by simp [results,Tryz.results71,go_sem, *]) rfl ⟨StD.zero,6,rfl,StD.zero_good _ _,StD.zero_sm,HEF.out⟩
   go_upto_region 15 with fail
   clear t0 t1 t2 t3 t4 t5 t6 t7 t8 t9 t10 f0 f1 f2 f3 f4 f5 f6 f7 f8 f9 f10 tl
   obtain ⟨g1,hB3⟩ := HME.out.gd.upForm (by omega)
   obtain ⟨⟨ub,hub⟩,huf,hul⟩ := HME.out.gd.upCell hB3 hk2
   have HMI9 := Hh (HME.out.setUp (b := false) hB3 hk2)
   obtain ⟨⟨t0,t1,t2,t3,t4,t5,t6,t7,t8,t9,t10⟩,⟨f0,f1,f2,f3,f4,f5,f6,f7,f8,f9,f10⟩,tl⟩ := cells11 HME.out.box
   rw [hB3] at t2
   clear HME
   go_upto_region 16 with fail
   clear t0 t1 t2 t3 t4 t5 t6 t7 t8 t9 t10 f0 f1 f2 f3 f4 f5 f6 f7 f8 f9 f10 tl
   clear hub huf hul hB3
   generalize (we.setCell ⟨g1,kk,none⟩ (.bool false)) = wa at *
   obtain ⟨d3,hd3⟩ : ∃ d3,d3 = dd.withUp (dd.up.set kk false) dd.A3 dd.n3 dd.c3 := ⟨_,rfl⟩
   have HM3 := Hh (show d3.n1 ≤ 24 ∧ d3.n2 ≤ 24 ∧ d3.n3 ≤ 24 ∧ d3.n6 ≤ 60 ∧ d3.n7 ≤ 60 ∧ d3.n8 ≤ 400 from by rw [hd3];exact ⟨q1,q2,q3,q6,q7,q8⟩)
   rw [← hd3] at HMI9
   clear hd3 q1 q2 q3 q6 q7 q8 hk2 h300
   obtain ⟨q1,q2,q3,q6,q7,q8⟩ := HM3.out
   obtain ⟨⟨t0,t1,t2,t3,t4,t5,t6,t7,t8,t9,t10⟩,⟨f0,f1,f2,f3,f4,f5,f6,f7,f8,f9,f10⟩,tl⟩ := cells11 HMI9.out.box
   go_wp2_with fail
   refine (l06Start_c d3 w.heap.size _ HMI9.out.gd HMI9.out.ext.le (by exact ⟨by omega,by omega,by omega,by omega,by omega,by omega⟩)).mono ?_
   rintro e wz ⟨dz,rfl,hdz,hnz,hkz,_⟩
   have HMZ := Hh (HMI9.out.row HMI9.out.gd.r7 hkz (by decide) (Nat.le_refl _) hdz)
   have HNZ := Hh hnz
   clear hdz hnz hkz
   clear t0 t1 t2 t3 t4 t5 t6 t7 t8 t9 t10 f0 f1 f2 f3 f4 f5 f6 f7 f8 f9 f10 tl
   obtain ⟨⟨r0,r1,r2,r3,r4,r5,r6,r7,r8,r9,r10⟩,⟨rf0,rf1,rf2,rf3,rf4,rf5,rf6,rf7,rf8,rf9,rf10⟩,rl⟩ := cells11 HMZ.out.res
   have HSZ := Hh (show dz.sm from by obtain ⟨e1,e2,e3,e6,e7,e8⟩ := HNZ.out;exact ⟨by omega,by omega,by omega,by omega,by omega,by omega⟩)
   have HFZ := Hh HMZ.out.fin
   clear HMZ
   go_wp2
   exact bodyPost_ret (v := .tuple #[.agg #[.slice dz.A1 dz.n1 dz.c1,.slice dz.A2 dz.n2 dz.c2,.slice dz.A3 dz.n3 dz.c3,.int .i64 dz.lic.A,.int .i64 dz.lic.B,.int .i64 dz.lic.C,.int .i64 dz.dep,.int .i64 dz.now,.slice dz.A6 dz.n6 dz.c6,.slice dz.A7 dz.n7 dz.c7,.slice dz.A8 dz.n8 dz.c8],.int .i64 0]) (by simp [results,Tryz.results71,go_sem, *]) rfl ⟨dz,0,rfl,HFZ.out.1,HSZ.out,HFZ.out.2⟩
theorem Resume_c (d : StD) (lo : Nat) (n : Int) (w : World) (h : d.good w lo) (hsm : d.mid) : Calls Tryz.prog 72 #[.agg #[.slice d.A1 d.n1 d.c1,.slice d.A2 d.n2 d.c2,.slice d.A3 d.n3 d.c3,.int .i64 d.lic.A,.int .i64 d.lic.B,.int .i64 d.lic.C,.int .i64 d.dep,.int .i64 d.now,.slice d.A6 d.n6 d.c6,.slice d.A7 d.n7 d.c7,.slice d.A8 d.n8 d.c8],.int .i64 n] w (RetStI w) := by
 obtain ⟨hs1,hs2,hs3,hs6,hs7,hs8⟩ := hsm
 obtain ⟨s,hst,hln,hps,hns,hup,hqq,hnw⟩ := h.state
 have hsl : stateLen s := by obtain ⟨e1,e2,e3,e6,e7,e8⟩ := hln;exact ⟨by omega,by omega,by omega,by omega,by omega,by omega⟩
 have HSO := Hh (fun (u : World) (e : Ext w u) => sStateOk_c s _ u (hst.ext e) hsl)
 have HOK := Hh (fun (hh : stateB s = true) => okd_of hln hh)
 have HCP := Hh (fun (u : World) (e : Ext w u) => l06Copy_c s _ u (hst.ext e) hsl (by rw [hnw];exact h.kn))
 have HLN := Hh hln
 have HMI := Hh (MvI.start1 h)
 clear hst hln hps hns hup hqq hnw h hsl
 generalize stateB s = ob at *
 generalize (emptyF s).isSome = eb at *
 go_enter Tryz.func72,Tryz.ntmps72
 go_wp2_with fail
 refine (HSO.out _ (((Ext.refl w).alloc _).alloc _)).mono ?_
 rintro e w1 ⟨rfl,hb1⟩
 have HMI1 := Hh (HMI.out.mv hb1)
 clear hb1 HMI HSO
 rcases ob with _ | _
 ·skip
  obtain ⟨⟨r0,r1,r2,r3,r4,r5,r6,r7,r8,r9,r10⟩,⟨rf0,rf1,rf2,rf3,rf4,rf5,rf6,rf7,rf8,rf9,rf10⟩,rl⟩ := cells11 HMI1.out.res
  have HEF := Hh HMI1.out.fail
  go_wp2
  exact bodyPost_ret (v := .tuple #[.agg #[.slice none 0 0,.slice none 0 0,.slice none 0 0,.int .i64 0,.int .i64 0,.int .i64 0,.int .i64 0,.int .i64 0,.slice none 0 0,.slice none 0 0,.slice none 0 0],.int .i64 1]) (by simp [results,Tryz.results72,go_sem, *]) rfl ⟨StD.zero,1,rfl,StD.zero_good _ _,StD.zero_sm,HEF.out⟩
 obtain ⟨⟨⟨ok1,ok2,ok3,ok67,ok8⟩,ok23,ok32⟩,_⟩ := HOK.out rfl
 clear HOK
 obtain ⟨⟨t0,t1,t2,t3,t4,t5,t6,t7,t8,t9,t10⟩,⟨f0,f1,f2,f3,f4,f5,f6,f7,f8,f9,f10⟩,tl⟩ := cells11 HMI1.out.box
 go_wp2_with fail
 refine (l06NodeD_c d n _).mono ?_
 rintro e w2 ⟨rfl,hb2⟩
 have HMI2 := Hh (HMI1.out.mv hb2)
 clear hb2 HMI1
 clear t0 t1 t2 t3 t4 t5 t6 t7 t8 t9 t10 f0 f1 f2 f3 f4 f5 f6 f7 f8 f9 f10 tl
 by_cases hn : 0 ≤ n ∧ n < d.n2
 rotate_left
 ·have hd : decide (0 ≤ n ∧ n < d.n2) = false := decide_eq_false hn
  generalize decide (0 ≤ n ∧ n < d.n2) = nb at *
  subst hd
  obtain ⟨⟨r0,r1,r2,r3,r4,r5,r6,r7,r8,r9,r10⟩,⟨rf0,rf1,rf2,rf3,rf4,rf5,rf6,rf7,rf8,rf9,rf10⟩,rl⟩ := cells11 HMI2.out.res
  have HEF := Hh HMI2.out.fail
  go_wp2
  exact bodyPost_ret (v := .tuple #[.agg #[.slice none 0 0,.slice none 0 0,.slice none 0 0,.int .i64 0,.int .i64 0,.int .i64 0,.int .i64 0,.int .i64 0,.slice none 0 0,.slice none 0 0,.slice none 0 0],.int .i64 8]) (by simp [results,Tryz.results72,go_sem, *]) rfl ⟨StD.zero,8,rfl,StD.zero_good _ _,StD.zero_sm,HEF.out⟩
 have hd : decide (0 ≤ n ∧ n < d.n2) = true := decide_eq_true hn
 generalize decide (0 ≤ n ∧ n < d.n2) = nb at *
 subst hd
 obtain ⟨hn0,hn2⟩ := hn
 obtain ⟨k,rfl⟩ := Int.eq_ofNat_of_zero_le hn0
 have hk3 : k < d.n3 := by omega
 obtain ⟨g,hA3⟩ := HMI2.out.gd.upForm (by omega)
 obtain ⟨⟨ub,hub⟩,huf,hul⟩ := HMI2.out.gd.upCell hA3 hk3
 obtain ⟨⟨t0,t1,t2,t3,t4,t5,t6,t7,t8,t9,t10⟩,⟨f0,f1,f2,f3,f4,f5,f6,f7,f8,f9,f10⟩,tl⟩ := cells11 HMI2.out.box
 rw [hA3] at t2
 rcases ub with _ | _
 rotate_left
 ·skip
  obtain ⟨⟨r0,r1,r2,r3,r4,r5,r6,r7,r8,r9,r10⟩,⟨rf0,rf1,rf2,rf3,rf4,rf5,rf6,rf7,rf8,rf9,rf10⟩,rl⟩ := cells11 HMI2.out.res
  have HEF := Hh HMI2.out.fail
  go_wp2
  exact bodyPost_ret (v := .tuple #[.agg #[.slice none 0 0,.slice none 0 0,.slice none 0 0,.int .i64 0,.int .i64 0,.int .i64 0,.int .i64 0,.int .i64 0,.slice none 0 0,.slice none 0 0,.slice none 0 0],.int .i64 8]) (by simp [results,Tryz.results72,go_sem, *]) rfl ⟨StD.zero,8,rfl,StD.zero_good _ _,StD.zero_sm,HEF.out⟩
 go_upto_region 5 with fail
 clear t0 t1 t2 t3 t4 t5 t6 t7 t8 t9 t10 f0 f1 f2 f3 f4 f5 f6 f7 f8 f9 f10 tl
 clear hA3 hub huf hul
 obtain ⟨⟨t0,t1,t2,t3,t4,t5,t6,t7,t8,t9,t10⟩,⟨f0,f1,f2,f3,f4,f5,f6,f7,f8,f9,f10⟩,tl⟩ := cells11 HMI2.out.box
 go_wp2_with fail
 refine (HCP.out _ HMI2.out.ext).mono ?_
 rintro e w7 ⟨d1,rfl,hd1,hn1,hb7⟩
 have HMC := Hh (HMI2.out.copy hb7 hd1)
 have HN1 := Hh hn1
 clear hb7 hd1 hn1 HMI2 HCP
 clear t0 t1 t2 t3 t4 t5 t6 t7 t8 t9 t10 f0 f1 f2 f3 f4 f5 f6 f7 f8 f9 f10 tl
 obtain ⟨⟨t0,t1,t2,t3,t4,t5,t6,t7,t8,t9,t10⟩,⟨f0,f1,f2,f3,f4,f5,f6,f7,f8,f9,f10⟩,tl⟩ := cells11 HMC.out.box
 go_upto_region 6 with fail
 generalize hwq : (((((((((((w7.setCell ⟨w.heap.size,0,none⟩ (.slice d1.A1 d1.n1 d1.c1)).setCell ⟨w.heap.size,1,none⟩ (.slice d1.A2 d1.n2 d1.c2)).setCell ⟨w.heap.size,2,none⟩ (.slice d1.A3 d1.n3 d1.c3)).setCell ⟨w.heap.size,3,none⟩ (.int .i64 d1.lic.A)).setCell ⟨w.heap.size,4,none⟩ (.int .i64 d1.lic.B)).setCell ⟨w.heap.size,5,none⟩ (.int .i64 d1.lic.C)).setCell ⟨w.heap.size,6,none⟩ (.int .i64 d1.dep)).setCell ⟨w.heap.size,7,none⟩ (.int .i64 d1.now)).setCell ⟨w.heap.size,8,none⟩ (.slice d1.A6 d1.n6 d1.c6)).setCell ⟨w.heap.size,9,none⟩ (.slice d1.A7 d1.n7 d1.c7)).setCell ⟨w.heap.size,10,none⟩ (.slice d1.A8 d1.n8 d1.c8)) = w8
 have hwq' : setCells w7 w.heap.size 0 [.slice d1.A1 d1.n1 d1.c1,.slice d1.A2 d1.n2 d1.c2,.slice d1.A3 d1.n3 d1.c3,.int .i64 d1.lic.A,.int .i64 d1.lic.B,.int .i64 d1.lic.C,.int .i64 d1.dep,.int .i64 d1.now,.slice d1.A6 d1.n6 d1.c6,.slice d1.A7 d1.n7 d1.c7,.slice d1.A8 d1.n8 d1.c8] = w8 := hwq
 have HMI8 := Hh (HMC.out.put (by decide))
 rw [hwq'] at HMI8
 clear hwq hwq' HMC
 clear t0 t1 t2 t3 t4 t5 t6 t7 t8 t9 t10 f0 f1 f2 f3 f4 f5 f6 f7 f8 f9 f10 tl
 have HM1 := Hh (show d1.n1 ≤ 24 ∧ d1.n2 ≤ 24 ∧ d1.n3 ≤ 24 ∧ d1.n6 + d1.n7 ≤ 60 ∧ d1.n8 ≤ 300 from by obtain ⟨a1,a2,a3,a6,a7,a8⟩ := HN1.out;obtain ⟨b1,b2,b3,b6,b7,b8⟩ := HLN.out;exact ⟨by omega,by omega,by omega,by omega,by omega⟩)
 have hk1 : k < d1.n3 := by obtain ⟨a1,a2,a3,a6,a7,a8⟩ := HN1.out;obtain ⟨b1,b2,b3,b6,b7,b8⟩ := HLN.out;omega
 obtain ⟨g1,hB3⟩ := HMI8.out.gd.upForm (by omega)
 obtain ⟨⟨ub,hub⟩,huf,hul⟩ := HMI8.out.gd.upCell hB3 hk1
 have HMI9 := Hh (HMI8.out.setUp (b := true) hB3 hk1)
 obtain ⟨⟨t0,t1,t2,t3,t4,t5,t6,t7,t8,t9,t10⟩,⟨f0,f1,f2,f3,f4,f5,f6,f7,f8,f9,f10⟩,tl⟩ := cells11 HMI8.out.box
 rw [hB3] at t2
 clear HMI8
 go_upto_region 7 with fail
 clear t0 t1 t2 t3 t4 t5 t6 t7 t8 t9 t10 f0 f1 f2 f3 f4 f5 f6 f7 f8 f9 f10 tl
 clear hub huf hul hB3
 generalize (w8.setCell ⟨g1,k,none⟩ (.bool true)) = wa at *
 obtain ⟨d2,hd2⟩ : ∃ d2,d2 = d1.withUp (d1.up.set k true) d1.A3 d1.n3 d1.c3 := ⟨_,rfl⟩
 have HM2 := Hh (show d2.n1 ≤ 24 ∧ d2.n2 ≤ 24 ∧ d2.n3 ≤ 24 ∧ d2.n6 ≤ 60 ∧ d2.n7 ≤ 60 ∧ d2.n8 ≤ 300 from by rw [hd2];obtain ⟨a1,a2,a3,a6,a8⟩ := HM1.out;exact ⟨a1,a2,a3,(by show d1.n6 ≤ 60;omega),(by show d1.n7 ≤ 60;omega),a8⟩)
 rw [← hd2] at HMI9
 clear hd2 HM1
 obtain ⟨q1,q2,q3,q6,q7,q8⟩ := HM2.out
 obtain ⟨⟨t0,t1,t2,t3,t4,t5,t6,t7,t8,t9,t10⟩,⟨f0,f1,f2,f3,f4,f5,f6,f7,f8,f9,f10⟩,tl⟩ := cells11 HMI9.out.box
 go_wp2_with fail
 refine (l06Start_c d2 w.heap.size _ HMI9.out.gd HMI9.out.ext.le (by exact ⟨by omega,by omega,by omega,by omega,by omega,by omega⟩)).mono ?_
 rintro e wz ⟨dz,rfl,hdz,hnz,hkz,_⟩
 have HMZ := Hh (HMI9.out.row HMI9.out.gd.r7 hkz (by decide) (Nat.le_refl _) hdz)
 have HNZ := Hh hnz
 clear hdz hnz hkz
 clear t0 t1 t2 t3 t4 t5 t6 t7 t8 t9 t10 f0 f1 f2 f3 f4 f5 f6 f7 f8 f9 f10 tl
 obtain ⟨⟨r0,r1,r2,r3,r4,r5,r6,r7,r8,r9,r10⟩,⟨rf0,rf1,rf2,rf3,rf4,rf5,rf6,rf7,rf8,rf9,rf10⟩,rl⟩ := cells11 HMZ.out.res
 have HSZ := Hh (show dz.sm from by obtain ⟨e1,e2,e3,e6,e7,e8⟩ := HNZ.out;exact ⟨by omega,by omega,by omega,by omega,by omega,by omega⟩)
 have HFZ := Hh HMZ.out.fin
 clear HMZ
 go_wp2
 exact bodyPost_ret (v := .tuple #[.agg #[.slice dz.A1 dz.n1 dz.c1,.slice dz.A2 dz.n2 dz.c2,.slice dz.A3 dz.n3 dz.c3,.int .i64 dz.lic.A,.int .i64 dz.lic.B,.int .i64 dz.lic.C,.int .i64 dz.dep,.int .i64 dz.now,.slice dz.A6 dz.n6 dz.c6,.slice dz.A7 dz.n7 dz.c7,.slice dz.A8 dz.n8 dz.c8],.int .i64 0]) (by simp [results,Tryz.results72,go_sem, *]) rfl ⟨dz,0,rfl,HFZ.out.1,HSZ.out,HFZ.out.2⟩
theorem MvI.lic1 {w u : World} {r lo : Nat} {d0 d : StD} (h : MvI w u r lo d0 d) (v : Vec) : MvI w u r lo d0 (d.withLic v) := ⟨h.box,h.res,h.gd.lic v,h.ext⟩
theorem Resize_c (d : StD) (lo : Nat) (v : Vec) (w : World) (h : d.good w lo) (hsm : d.mid) : Calls Tryz.prog 73 #[.agg #[.slice d.A1 d.n1 d.c1,.slice d.A2 d.n2 d.c2,.slice d.A3 d.n3 d.c3,.int .i64 d.lic.A,.int .i64 d.lic.B,.int .i64 d.lic.C,.int .i64 d.dep,.int .i64 d.now,.slice d.A6 d.n6 d.c6,.slice d.A7 d.n7 d.c7,.slice d.A8 d.n8 d.c8],.agg #[.int .i64 v.A,.int .i64 v.B,.int .i64 v.C]] w (RetStI w) := by
 obtain ⟨hs1,hs2,hs3,hs6,hs7,hs8⟩ := hsm
 obtain ⟨s,hst,hln,hps,hns,hup,hqq,hnw⟩ := h.state
 have hsl : stateLen s := by obtain ⟨e1,e2,e3,e6,e7,e8⟩ := hln;exact ⟨by omega,by omega,by omega,by omega,by omega,by omega⟩
 have HSO := Hh (fun (u : World) (e : Ext w u) => sStateOk_c s _ u (hst.ext e) hsl)
 have HOK := Hh (fun (hh : stateB s = true) => okd_of hln hh)
 have HCP := Hh (fun (u : World) (e : Ext w u) => l06Copy_c s _ u (hst.ext e) hsl (by rw [hnw];exact h.kn))
 have HLN := Hh hln
 have HMI := Hh (MvI.start2 h (.cells #[.int .i64 v.A,.int .i64 v.B,.int .i64 v.C] 29))
 have HVB := Hh (show (((w.alloc (.cells #[.slice d.A1 d.n1 d.c1,.slice d.A2 d.n2 d.c2,.slice d.A3 d.n3 d.c3,.int .i64 d.lic.A,.int .i64 d.lic.B,.int .i64 d.lic.C,.int .i64 d.dep,.int .i64 d.now,.slice d.A6 d.n6 d.c6,.slice d.A7 d.n7 d.c7,.slice d.A8 d.n8 d.c8] 34)).alloc (.cells #[.int .i64 v.A,.int .i64 v.B,.int .i64 v.C] 29)).alloc (.cells #[.slice none 0 0,.slice none 0 0,.slice none 0 0,.int .i64 0,.int .i64 0,.int .i64 0,.int .i64 0,.int .i64 0,.slice none 0 0,.slice none 0 0,.slice none 0 0] 34)).ownsRow w.heap.size 29 3 (.slice (some ⟨w.heap.size + 1,0,none⟩) 1 1) 1 [.int .i64 v.A,.int .i64 v.B,.int .i64 v.C] from by
  have h := gbox (w.alloc (.cells #[.slice d.A1 d.n1 d.c1,.slice d.A2 d.n2 d.c2,.slice d.A3 d.n3 d.c3,.int .i64 d.lic.A,.int .i64 d.lic.B,.int .i64 d.lic.C,.int .i64 d.dep,.int .i64 d.now,.slice d.A6 d.n6 d.c6,.slice d.A7 d.n7 d.c7,.slice d.A8 d.n8 d.c8] 34)) [.int .i64 v.A,.int .i64 v.B,.int .i64 v.C] 29 3 rfl
  rw [show (w.alloc (.cells #[.slice d.A1 d.n1 d.c1,.slice d.A2 d.n2 d.c2,.slice d.A3 d.n3 d.c3,.int .i64 d.lic.A,.int .i64 d.lic.B,.int .i64 d.lic.C,.int .i64 d.dep,.int .i64 d.now,.slice d.A6 d.n6 d.c6,.slice d.A7 d.n7 d.c7,.slice d.A8 d.n8 d.c8] 34)).heap.size = w.heap.size + 1 by simp] at h
  exact owns_base (owns_ext h ((Ext.refl _).alloc _)) (by omega))
 clear hst hln hps hns hup hqq hnw h hsl
 generalize stateB s = ob at *
 generalize (emptyF s).isSome = eb at *
 go_enter Tryz.func73,Tryz.ntmps73
 go_wp2_with fail
 refine (HSO.out _ ((((Ext.refl w).alloc _).alloc _).alloc _)).mono ?_
 rintro e w1 ⟨rfl,hb1⟩
 have HMI1 := Hh (HMI.out.mv hb1)
 have HVB1 := Hh (owns_ext HVB.out hb1)
 clear hb1 HMI HSO HVB
 rcases ob with _ | _
 ·skip
  obtain ⟨⟨r0,r1,r2,r3,r4,r5,r6,r7,r8,r9,r10⟩,⟨rf0,rf1,rf2,rf3,rf4,rf5,rf6,rf7,rf8,rf9,rf10⟩,rl⟩ := cells11 HMI1.out.res
  have HEF := Hh HMI1.out.fail
  go_wp2
  exact bodyPost_ret (v := .tuple #[.agg #[.slice none 0 0,.slice none 0 0,.slice none 0 0,.int .i64 0,.int .i64 0,.int .i64 0,.int .i64 0,.int .i64 0,.slice none 0 0,.slice none 0 0,.slice none 0 0],.int .i64 1]) (by simp [results,Tryz.results73,go_sem, *]) rfl ⟨StD.zero,1,rfl,StD.zero_good _ _,StD.zero_sm,HEF.out⟩
 obtain ⟨⟨⟨ok1,ok2,ok3,ok67,ok8⟩,ok23,ok32⟩,_⟩ := HOK.out rfl
 clear HOK
 obtain ⟨p0,p1,p2,pf0,pf1,pf2,pl⟩ := gcells3 HVB1.out
 go_wp2_with fail
 refine (sVecOk_c v _).mono ?_
 rintro e w2 ⟨rfl,hb2⟩
 have HMI2 := Hh (HMI1.out.mv hb2)
 have HVB2 := Hh (owns_ext HVB1.out hb2)
 clear hb2 HMI1 HVB1 p0 p1 p2 pf0 pf1 pf2 pl
 generalize vecB v = vb at *
 rcases vb with _ | _
 ·skip
  obtain ⟨⟨r0,r1,r2,r3,r4,r5,r6,r7,r8,r9,r10⟩,⟨rf0,rf1,rf2,rf3,rf4,rf5,rf6,rf7,rf8,rf9,rf10⟩,rl⟩ := cells11 HMI2.out.res
  have HEF := Hh HMI2.out.fail
  go_wp2
  exact bodyPost_ret (v := .tuple #[.agg #[.slice none 0 0,.slice none 0 0,.slice none 0 0,.int .i64 0,.int .i64 0,.int .i64 0,.int .i64 0,.int .i64 0,.slice none 0 0,.slice none 0 0,.slice none 0 0],.int .i64 1]) (by simp [results,Tryz.results73,go_sem, *]) rfl ⟨StD.zero,1,rfl,StD.zero_good _ _,StD.zero_sm,HEF.out⟩
 obtain ⟨⟨t0,t1,t2,t3,t4,t5,t6,t7,t8,t9,t10⟩,⟨f0,f1,f2,f3,f4,f5,f6,f7,f8,f9,f10⟩,tl⟩ := cells11 HMI2.out.box
 go_wp2_with fail
 refine (HCP.out _ HMI2.out.ext).mono ?_
 rintro e w7 ⟨d1,rfl,hd1,hn1,hb7⟩
 have HMC := Hh (HMI2.out.copy hb7 hd1)
 have HVB7 := Hh (owns_ext HVB2.out hb7)
 have HN1 := Hh hn1
 clear hb7 hd1 hn1 HMI2 HCP HVB2
 clear t0 t1 t2 t3 t4 t5 t6 t7 t8 t9 t10 f0 f1 f2 f3 f4 f5 f6 f7 f8 f9 f10 tl
 obtain ⟨⟨t0,t1,t2,t3,t4,t5,t6,t7,t8,t9,t10⟩,⟨f0,f1,f2,f3,f4,f5,f6,f7,f8,f9,f10⟩,tl⟩ := cells11 HMC.out.box
 go_upto_region 4 with fail
 generalize hwq : (((((((((((w7.setCell ⟨w.heap.size,0,none⟩ (.slice d1.A1 d1.n1 d1.c1)).setCell ⟨w.heap.size,1,none⟩ (.slice d1.A2 d1.n2 d1.c2)).setCell ⟨w.heap.size,2,none⟩ (.slice d1.A3 d1.n3 d1.c3)).setCell ⟨w.heap.size,3,none⟩ (.int .i64 d1.lic.A)).setCell ⟨w.heap.size,4,none⟩ (.int .i64 d1.lic.B)).setCell ⟨w.heap.size,5,none⟩ (.int .i64 d1.lic.C)).setCell ⟨w.heap.size,6,none⟩ (.int .i64 d1.dep)).setCell ⟨w.heap.size,7,none⟩ (.int .i64 d1.now)).setCell ⟨w.heap.size,8,none⟩ (.slice d1.A6 d1.n6 d1.c6)).setCell ⟨w.heap.size,9,none⟩ (.slice d1.A7 d1.n7 d1.c7)).setCell ⟨w.heap.size,10,none⟩ (.slice d1.A8 d1.n8 d1.c8)) = w8
 have hwq' : setCells w7 w.heap.size 0 [.slice d1.A1 d1.n1 d1.c1,.slice d1.A2 d1.n2 d1.c2,.slice d1.A3 d1.n3 d1.c3,.int .i64 d1.lic.A,.int .i64 d1.lic.B,.int .i64 d1.lic.C,.int .i64 d1.dep,.int .i64 d1.now,.slice d1.A6 d1.n6 d1.c6,.slice d1.A7 d1.n7 d1.c7,.slice d1.A8 d1.n8 d1.c8] = w8 := hwq
 have HMI8 := Hh (HMC.out.put (by decide))
 rw [hwq'] at HMI8
 have HVB8 := Hh ((kept_puts w.heap.size [.slice d1.A1 d1.n1 d1.c1,.slice d1.A2 d1.n2 d1.c2,.slice d1.A3 d1.n3 d1.c3,.int .i64 d1.lic.A,.int .i64 d1.lic.B,.int .i64 d1.lic.C,.int .i64 d1.dep,.int .i64 d1.now,.slice d1.A6 d1.n6 d1.c6,.slice d1.A7 d1.n7 d1.c7,.slice d1.A8 d1.n8 d1.c8] w7 0).own HVB7.out (g_apart HVB7.out HMC.out.box (by decide)))
 rw [hwq'] at HVB8
 clear hwq hwq' HMC HVB7
 clear t0 t1 t2 t3 t4 t5 t6 t7 t8 t9 t10 f0 f1 f2 f3 f4 f5 f6 f7 f8 f9 f10 tl
 have HM1 := Hh (show d1.n1 ≤ 24 ∧ d1.n2 ≤ 24 ∧ d1.n3 ≤ 24 ∧ d1.n6 + d1.n7 ≤ 60 ∧ d1.n8 ≤ 300 from by obtain ⟨a1,a2,a3,a6,a7,a8⟩ := HN1.out;obtain ⟨b1,b2,b3,b6,b7,b8⟩ := HLN.out;exact ⟨by omega,by omega,by omega,by omega,by omega⟩)
 have HMa := Hh ((HMI8.out.lic1 ⟨v.A,d1.lic.B,d1.lic.C⟩).tell (by decide) (p := 3) (x := .int .i64 v.A) rfl)
 have HMb := Hh ((HMa.out.lic1 ⟨v.A,v.B,d1.lic.C⟩).tell (by decide) (p := 4) (x := .int .i64 v.B) rfl)
 have HMI9 := Hh (show MvI w (((w8.setCell ⟨w.heap.size,3,none⟩ (.int .i64 v.A)).setCell ⟨w.heap.size,4,none⟩ (.int .i64 v.B)).setCell ⟨w.heap.size,5,none⟩ (.int .i64 v.C)) 2 w.heap.size (d1.withLic v) (d1.withLic v) from (HMb.out.lic1 ⟨v.A,v.B,v.C⟩).tell (by decide) (p := 5) (x := .int .i64 v.C) rfl)
 obtain ⟨p0,p1,p2,pf0,pf1,pf2,pl⟩ := gcells3 HVB8.out
 obtain ⟨⟨t0,t1,t2,t3,t4,t5,t6,t7,t8,t9,t10⟩,⟨f0,f1,f2,f3,f4,f5,f6,f7,f8,f9,f10⟩,tl⟩ := cells11 HMI8.out.box
 clear HMI8 HMa HMb HVB8
 go_upto_region 5 with fail
 clear t0 t1 t2 t3 t4 t5 t6 t7 t8 t9 t10 f0 f1 f2 f3 f4 f5 f6 f7 f8 f9 f10 tl
 clear p0 p1 p2 pf0 pf1 pf2 pl
 generalize (((w8.setCell ⟨w.heap.size,3,none⟩ (.int .i64 v.A)).setCell ⟨w.heap.size,4,none⟩ (.int .i64 v.B)).setCell ⟨w.heap.size,5,none⟩ (.int .i64 v.C)) = wa at *
 obtain ⟨d2,hd2⟩ : ∃ d2,d2 = d1.withLic v := ⟨_,rfl⟩
 have HM2 := Hh (show d2.n1 ≤ 24 ∧ d2.n2 ≤ 24 ∧ d2.n3 ≤ 24 ∧ d2.n6 ≤ 60 ∧ d2.n7 ≤ 60 ∧ d2.n8 ≤ 300 from by rw [hd2];obtain ⟨a1,a2,a3,a6,a8⟩ := HM1.out;exact ⟨a1,a2,a3,(by show d1.n6 ≤ 60;omega),(by show d1.n7 ≤ 60;omega),a8⟩)
 rw [← hd2] at HMI9
 clear hd2 HM1
 obtain ⟨q1,q2,q3,q6,q7,q8⟩ := HM2.out
 obtain ⟨s2,hst2,⟨e1,e2,e3,e6,e7,e8⟩,_⟩ := HMI9.out.gd.state2
 have HRO := Hh (sRoomOf_c s2 _ _ hst2 ⟨by omega,by omega,by omega,by omega,by omega,by omega⟩)
 clear hst2 e1 e2 e3 e6 e7 e8
 generalize roomF s2 = R at *
 generalize s2.Topo.Parents = ps2 at *
 generalize s2.Topo.Nodes = ns2 at *
 generalize s2.Up = up2 at *
 obtain ⟨⟨t0,t1,t2,t3,t4,t5,t6,t7,t8,t9,t10⟩,⟨f0,f1,f2,f3,f4,f5,f6,f7,f8,f9,f10⟩,tl⟩ := cells11 HMI9.out.box
 go_wp2_with fail
 refine HRO.out.mono ?_
 rintro e wb ⟨B1,m1,b1,B2,m2,b2,B3,m3,b3,B4,m4,b4,B5,m5,b5,rfl,_,hbb⟩
 generalize R.isSome = rb at *
 have HMIb := Hh ((HMI9.out.mv hbb).mv ((Ext.refl _).alloc (.cells #[.slice B1 m1 b1,.slice B2 m2 b2,.slice B3 m3 b3,.slice B4 m4 b4,.slice B5 m5 b5] 73)))
 clear t0 t1 t2 t3 t4 t5 t6 t7 t8 t9 t10 f0 f1 f2 f3 f4 f5 f6 f7 f8 f9 f10 tl
 clear hbb HMI9 HRO
 go_upto_region 6 with fail
 generalize (wb.alloc (.cells #[.slice B1 m1 b1,.slice B2 m2 b2,.slice B3 m3 b3,.slice B4 m4 b4,.slice B5 m5 b5] 73)) = wc at *
 rcases rb with _ | _
 ·skip
  obtain ⟨⟨r0,r1,r2,r3,r4,r5,r6,r7,r8,r9,r10⟩,⟨rf0,rf1,rf2,rf3,rf4,rf5,rf6,rf7,rf8,rf9,rf10⟩,rl⟩ := cells11 HMIb.out.res
  have HEF := Hh HMIb.out.fail
  go_wp2
  exact bodyPost_ret (v := .tuple #[.agg #[.slice none 0 0,.slice none 0 0,.slice none 0 0,.int .i64 0,.int .i64 0,.int .i64 0,.int .i64 0,.int .i64 0,.slice none 0 0,.slice none 0 0,.slice none 0 0],.int .i64 9]) (by simp [results,Tryz.results73,go_sem, *]) rfl ⟨StD.zero,9,rfl,StD.zero_good _ _,StD.zero_sm,HEF.out⟩
 obtain ⟨⟨t0,t1,t2,t3,t4,t5,t6,t7,t8,t9,t10⟩,⟨f0,f1,f2,f3,f4,f5,f6,f7,f8,f9,f10⟩,tl⟩ := cells11 HMIb.out.box
 go_wp2_with fail
 refine (l06Start_c d2 w.heap.size _ HMIb.out.gd HMIb.out.ext.le (by exact ⟨by omega,by omega,by omega,by omega,by omega,by omega⟩)).mono ?_
 rintro e wz ⟨dz,rfl,hdz,hnz,hkz,_⟩
 have HMZ := Hh (HMIb.out.row HMIb.out.gd.r7 hkz (by decide) (Nat.le_refl _) hdz)
 have HNZ := Hh hnz
 clear hdz hnz hkz
 clear t0 t1 t2 t3 t4 t5 t6 t7 t8 t9 t10 f0 f1 f2 f3 f4 f5 f6 f7 f8 f9 f10 tl
 obtain ⟨⟨r0,r1,r2,r3,r4,r5,r6,r7,r8,r9,r10⟩,⟨rf0,rf1,rf2,rf3,rf4,rf5,rf6,rf7,rf8,rf9,rf10⟩,rl⟩ := cells11 HMZ.out.res
 have HSZ := Hh (show dz.sm from by obtain ⟨e1,e2,e3,e6,e7,e8⟩ := HNZ.out;exact ⟨by omega,by omega,by omega,by omega,by omega,by omega⟩)
 have HFZ := Hh HMZ.out.fin
 clear HMZ
 go_wp2
 exact bodyPost_ret (v := .tuple #[.agg #[.slice dz.A1 dz.n1 dz.c1,.slice dz.A2 dz.n2 dz.c2,.slice dz.A3 dz.n3 dz.c3,.int .i64 dz.lic.A,.int .i64 dz.lic.B,.int .i64 dz.lic.C,.int .i64 dz.dep,.int .i64 dz.now,.slice dz.A6 dz.n6 dz.c6,.slice dz.A7 dz.n7 dz.c7,.slice dz.A8 dz.n8 dz.c8],.int .i64 0]) (by simp [results,Tryz.results73,go_sem, *]) rfl ⟨dz,0,rfl,HFZ.out.1,HSZ.out,HFZ.out.2⟩
end Go.Proofs.YtfanjhcdjbnnnaaGreat
