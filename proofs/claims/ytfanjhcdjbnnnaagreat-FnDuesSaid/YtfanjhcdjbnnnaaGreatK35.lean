/- MvSub, MvUntil. -/
import Derived.Test.YtfanjhcdjbnnnaaGreatK32
import Derived.Test.YtfanjhcdjbnnnaaGreatK12
namespace Go.Proofs.YtfanjhcdjbnnnaaGreat
open Go.RowKit
set_option linter.unusedVariables false
set_option maxHeartbeats 16000000
set_option maxRecDepth 10000
theorem Submit_c (d : StD) (lo : Nat) (x : Job) (w : World) (h : d.good w lo) (hsm : d.mid) (hx : x.ok) : Calls Tryz.prog 67 #[.agg #[.slice d.A1 d.n1 d.c1,.slice d.A2 d.n2 d.c2,.slice d.A3 d.n3 d.c3,.int .i64 d.lic.A,.int .i64 d.lic.B,.int .i64 d.lic.C,.int .i64 d.dep,.int .i64 d.now,.slice d.A6 d.n6 d.c6,.slice d.A7 d.n7 d.c7,.slice d.A8 d.n8 d.c8],.agg #[.int .i64 x.Id,.int .i64 x.Prio,.int .i64 x.Nodes,.int .i64 x.Need.A,.int .i64 x.Need.B,.int .i64 x.Need.C,.int .i64 x.Lic.A,.int .i64 x.Lic.B,.int .i64 x.Lic.C,.int .i64 x.Wall,.int .i64 x.Level]] w (RetStI w) := by
 obtain ⟨iJ,hiJ,hJ0,hJ1,hJ2⟩ := info_parts CJob.info
 obtain ⟨hs1,hs2,hs3,hs6,hs7,hs8⟩ := hsm
 obtain ⟨s,hst,hln,hps,hns,hup,hqq,hnw⟩ := h.state
 have hsl : stateLen s := by obtain ⟨e1,e2,e3,e6,e7,e8⟩ := hln;exact ⟨by omega,by omega,by omega,by omega,by omega,by omega⟩
 have HSO := Hh (fun (u : World) (e : Ext w u) => sStateOk_c s _ u (hst.ext e) hsl)
 have HOK := Hh (fun (hh : stateB s = true) => okd_of hln hh)
 have HCP := Hh (fun (u : World) (e : Ext w u) => l06Copy_c s _ u (hst.ext e) hsl (by rw [hnw];exact h.kn))
 have HLN := Hh hln
 have hLl : (s.Queue ++ s.Runs.map Run.Job).length ≤ 1048576 := by rw [List.length_append,List.length_map];obtain ⟨_,_,_,e6,e7,_⟩ := hln;omega
 have HAL := Hh (fun (u : World) (e : Ext w u) => l06Jobs_c s _ u (hst.ext e) hsl)
 have HCD := Hh (fun (he : (emptyF s).isSome = true) (u : World) (e : Ext w u) => l06Could_c s _ x u (hst.ext e) hsl he)
 have HMI := Hh (MvI.start2 h (.cells #[.int .i64 x.Id,.int .i64 x.Prio,.int .i64 x.Nodes,.int .i64 x.Need.A,.int .i64 x.Need.B,.int .i64 x.Need.C,.int .i64 x.Lic.A,.int .i64 x.Lic.B,.int .i64 x.Lic.C,.int .i64 x.Wall,.int .i64 x.Level] 52))
 have HJB := Hh (show (((w.alloc (.cells #[.slice d.A1 d.n1 d.c1,.slice d.A2 d.n2 d.c2,.slice d.A3 d.n3 d.c3,.int .i64 d.lic.A,.int .i64 d.lic.B,.int .i64 d.lic.C,.int .i64 d.dep,.int .i64 d.now,.slice d.A6 d.n6 d.c6,.slice d.A7 d.n7 d.c7,.slice d.A8 d.n8 d.c8] 34)).alloc (.cells #[.int .i64 x.Id,.int .i64 x.Prio,.int .i64 x.Nodes,.int .i64 x.Need.A,.int .i64 x.Need.B,.int .i64 x.Need.C,.int .i64 x.Lic.A,.int .i64 x.Lic.B,.int .i64 x.Lic.C,.int .i64 x.Wall,.int .i64 x.Level] 52)).alloc (.cells #[.slice none 0 0,.slice none 0 0,.slice none 0 0,.int .i64 0,.int .i64 0,.int .i64 0,.int .i64 0,.int .i64 0,.slice none 0 0,.slice none 0 0,.slice none 0 0] 34)).ownsRow w.heap.size 52 11 (.slice (some ⟨w.heap.size + 1,0,none⟩) 1 1) 1 [.int .i64 x.Id,.int .i64 x.Prio,.int .i64 x.Nodes,.int .i64 x.Need.A,.int .i64 x.Need.B,.int .i64 x.Need.C,.int .i64 x.Lic.A,.int .i64 x.Lic.B,.int .i64 x.Lic.C,.int .i64 x.Wall,.int .i64 x.Level] from by
  have h := gbox (w.alloc (.cells #[.slice d.A1 d.n1 d.c1,.slice d.A2 d.n2 d.c2,.slice d.A3 d.n3 d.c3,.int .i64 d.lic.A,.int .i64 d.lic.B,.int .i64 d.lic.C,.int .i64 d.dep,.int .i64 d.now,.slice d.A6 d.n6 d.c6,.slice d.A7 d.n7 d.c7,.slice d.A8 d.n8 d.c8] 34)) [.int .i64 x.Id,.int .i64 x.Prio,.int .i64 x.Nodes,.int .i64 x.Need.A,.int .i64 x.Need.B,.int .i64 x.Need.C,.int .i64 x.Lic.A,.int .i64 x.Lic.B,.int .i64 x.Lic.C,.int .i64 x.Wall,.int .i64 x.Level] 52 11 rfl
  rw [show (w.alloc (.cells #[.slice d.A1 d.n1 d.c1,.slice d.A2 d.n2 d.c2,.slice d.A3 d.n3 d.c3,.int .i64 d.lic.A,.int .i64 d.lic.B,.int .i64 d.lic.C,.int .i64 d.dep,.int .i64 d.now,.slice d.A6 d.n6 d.c6,.slice d.A7 d.n7 d.c7,.slice d.A8 d.n8 d.c8] 34)).heap.size = w.heap.size + 1 by simp] at h
  exact owns_base (owns_ext h ((Ext.refl _).alloc _)) (by omega))
 clear hst hln hps hns hup hqq hnw h hsl
 generalize (s.Queue ++ s.Runs.map Run.Job) = L at *
 generalize stateB s = ob at *
 generalize (emptyF s).isSome = eb at *
 go_enter Tryz.func67,Tryz.ntmps67
 go_wp2_with fail
 refine (HSO.out _ ((((Ext.refl w).alloc _).alloc _).alloc _)).mono ?_
 rintro e w1 ⟨rfl,hb1⟩
 have HMI1 := Hh (HMI.out.mv hb1)
 have HJB1 := Hh (owns_ext HJB.out hb1)
 clear hb1 HMI HJB HSO
 rcases ob with _ | _
 ·skip
  obtain ⟨⟨r0,r1,r2,r3,r4,r5,r6,r7,r8,r9,r10⟩,⟨rf0,rf1,rf2,rf3,rf4,rf5,rf6,rf7,rf8,rf9,rf10⟩,rl⟩ := cells11 HMI1.out.res
  have HEF := Hh HMI1.out.fail
  go_wp2
  exact bodyPost_ret (v := .tuple #[.agg #[.slice none 0 0,.slice none 0 0,.slice none 0 0,.int .i64 0,.int .i64 0,.int .i64 0,.int .i64 0,.int .i64 0,.slice none 0 0,.slice none 0 0,.slice none 0 0],.int .i64 1]) (by simp [results,Tryz.results67,go_sem, *]) rfl ⟨StD.zero,1,rfl,StD.zero_good _ _,StD.zero_sm,HEF.out⟩
 obtain ⟨⟨⟨ok1,ok2,ok3,ok67,ok8⟩,_⟩,hee⟩ := HOK.out rfl
 have HEE := Hh hee
 clear hee HOK
 obtain ⟨⟨p0,p1,p2,p3,p4,p5,p6,p7,p8,p9,p10⟩,⟨pf0,pf1,pf2,pf3,pf4,pf5,pf6,pf7,pf8,pf9,pf10⟩,pl⟩ := cells11 HJB1.out
 go_wp2_with fail
 refine (sJobOk_c x _).mono ?_
 rintro e w2 ⟨rfl,hb2⟩
 have HMI2 := Hh (HMI1.out.mv hb2)
 have HJB2 := Hh (owns_ext HJB1.out hb2)
 clear hb2 HMI1 HJB1 p0 p1 p2 p3 p4 p5 p6 p7 p8 p9 p10 pf0 pf1 pf2 pf3 pf4 pf5 pf6 pf7 pf8 pf9 pf10 pl
 generalize jobB x = jb at *
 rcases jb with _ | _
 ·skip
  obtain ⟨⟨r0,r1,r2,r3,r4,r5,r6,r7,r8,r9,r10⟩,⟨rf0,rf1,rf2,rf3,rf4,rf5,rf6,rf7,rf8,rf9,rf10⟩,rl⟩ := cells11 HMI2.out.res
  have HEF := Hh HMI2.out.fail
  go_wp2
  exact bodyPost_ret (v := .tuple #[.agg #[.slice none 0 0,.slice none 0 0,.slice none 0 0,.int .i64 0,.int .i64 0,.int .i64 0,.int .i64 0,.int .i64 0,.slice none 0 0,.slice none 0 0,.slice none 0 0],.int .i64 1]) (by simp [results,Tryz.results67,go_sem, *]) rfl ⟨StD.zero,1,rfl,StD.zero_good _ _,StD.zero_sm,HEF.out⟩
 obtain ⟨⟨t0,t1,t2,t3,t4,t5,t6,t7,t8,t9,t10⟩,⟨f0,f1,f2,f3,f4,f5,f6,f7,f8,f9,f10⟩,tl⟩ := cells11 HMI2.out.box
 go_wp2_with fail
 refine (HAL.out _ HMI2.out.ext).mono ?_
 rintro e w3 ⟨A3,c3,rfl,hown,hok,hb3⟩
 have HMI3 := Hh (HMI2.out.mv hb3)
 have HJB3 := Hh (owns_ext HJB2.out hb3)
 have HSL := Hh (owns_sl Job.size hown hok)
 clear t0 t1 t2 t3 t4 t5 t6 t7 t8 t9 t10 f0 f1 f2 f3 f4 f5 f6 f7 f8 f9 f10 tl
 clear hown hok hb3 HMI2 HJB2 HAL
 obtain ⟨⟨p0,p1,p2,p3,p4,p5,p6,p7,p8,p9,p10⟩,⟨pf0,pf1,pf2,pf3,pf4,pf5,pf6,pf7,pf8,pf9,pf10⟩,pl⟩ := cells11 HJB3.out
 generalize L.length = m at *
 go_wp2_with fail
 refine (l05Find_c L x.Id A3 m c3 _ HSL.out hLl).mono ?_
 rintro e w4 ⟨j4,kn,rfl,_,_,hb4⟩
 have HMI4 := Hh ((HMI3.out.mv hb4).mv ((Ext.refl _).alloc (.cells #[.int .i64 j4.Id,.int .i64 j4.Prio,.int .i64 j4.Nodes,.int .i64 j4.Need.A,.int .i64 j4.Need.B,.int .i64 j4.Need.C,.int .i64 j4.Lic.A,.int .i64 j4.Lic.B,.int .i64 j4.Lic.C,.int .i64 j4.Wall,.int .i64 j4.Level] 52)))
 have HJB4 := Hh (owns_ext (owns_ext HJB3.out hb4) ((Ext.refl _).alloc (.cells #[.int .i64 j4.Id,.int .i64 j4.Prio,.int .i64 j4.Nodes,.int .i64 j4.Need.A,.int .i64 j4.Need.B,.int .i64 j4.Need.C,.int .i64 j4.Lic.A,.int .i64 j4.Lic.B,.int .i64 j4.Lic.C,.int .i64 j4.Wall,.int .i64 j4.Level] 52)))
 have hl4 := hb4.le
 clear hb4 HMI3 HJB3 HSL p0 p1 p2 p3 p4 p5 p6 p7 p8 p9 p10 pf0 pf1 pf2 pf3 pf4 pf5 pf6 pf7 pf8 pf9 pf10 pl
 go_upto_region 5 with fail
 generalize (w4.alloc (.cells #[.int .i64 j4.Id,.int .i64 j4.Prio,.int .i64 j4.Nodes,.int .i64 j4.Need.A,.int .i64 j4.Need.B,.int .i64 j4.Need.C,.int .i64 j4.Lic.A,.int .i64 j4.Lic.B,.int .i64 j4.Lic.C,.int .i64 j4.Wall,.int .i64 j4.Level] 52)) = w5 at *
 rcases kn with _ | _
 rotate_left
 ·skip
  obtain ⟨⟨r0,r1,r2,r3,r4,r5,r6,r7,r8,r9,r10⟩,⟨rf0,rf1,rf2,rf3,rf4,rf5,rf6,rf7,rf8,rf9,rf10⟩,rl⟩ := cells11 HMI4.out.res
  have HEF := Hh HMI4.out.fail
  go_wp2
  exact bodyPost_ret (v := .tuple #[.agg #[.slice none 0 0,.slice none 0 0,.slice none 0 0,.int .i64 0,.int .i64 0,.int .i64 0,.int .i64 0,.int .i64 0,.slice none 0 0,.slice none 0 0,.slice none 0 0],.int .i64 2]) (by simp [results,Tryz.results67,go_sem, *]) rfl ⟨StD.zero,2,rfl,StD.zero_good _ _,StD.zero_sm,HEF.out⟩
 rcases (Bool.eq_false_or_eq_true (decide ((60 : Int) ≤ (m : Int)))) with hm60 | hm60
 ·skip
  obtain ⟨⟨r0,r1,r2,r3,r4,r5,r6,r7,r8,r9,r10⟩,⟨rf0,rf1,rf2,rf3,rf4,rf5,rf6,rf7,rf8,rf9,rf10⟩,rl⟩ := cells11 HMI4.out.res
  have HEF := Hh HMI4.out.fail
  go_wp2
  exact bodyPost_ret (v := .tuple #[.agg #[.slice none 0 0,.slice none 0 0,.slice none 0 0,.int .i64 0,.int .i64 0,.int .i64 0,.int .i64 0,.int .i64 0,.slice none 0 0,.slice none 0 0,.slice none 0 0],.int .i64 3]) (by simp [results,Tryz.results67,go_sem, *]) rfl ⟨StD.zero,3,rfl,StD.zero_good _ _,StD.zero_sm,HEF.out⟩
 obtain ⟨⟨p0,p1,p2,p3,p4,p5,p6,p7,p8,p9,p10⟩,⟨pf0,pf1,pf2,pf3,pf4,pf5,pf6,pf7,pf8,pf9,pf10⟩,pl⟩ := cells11 HJB4.out
 obtain ⟨⟨t0,t1,t2,t3,t4,t5,t6,t7,t8,t9,t10⟩,⟨f0,f1,f2,f3,f4,f5,f6,f7,f8,f9,f10⟩,tl⟩ := cells11 HMI4.out.box
 go_wp2_with fail
 refine (HCD.out HEE.out _ HMI4.out.ext).mono ?_
 rintro e w6 ⟨b6,rfl,hb6⟩
 have HMI6 := Hh (HMI4.out.mv hb6)
 have HJB6 := Hh (owns_ext HJB4.out hb6)
 clear t0 t1 t2 t3 t4 t5 t6 t7 t8 t9 t10 f0 f1 f2 f3 f4 f5 f6 f7 f8 f9 f10 tl
 clear hb6 HMI4 HJB4 p0 p1 p2 p3 p4 p5 p6 p7 p8 p9 p10 pf0 pf1 pf2 pf3 pf4 pf5 pf6 pf7 pf8 pf9 pf10 pl hm60 HCD HEE
 rcases b6 with _ | _
 ·skip
  obtain ⟨⟨r0,r1,r2,r3,r4,r5,r6,r7,r8,r9,r10⟩,⟨rf0,rf1,rf2,rf3,rf4,rf5,rf6,rf7,rf8,rf9,rf10⟩,rl⟩ := cells11 HMI6.out.res
  have HEF := Hh HMI6.out.fail
  go_wp2
  exact bodyPost_ret (v := .tuple #[.agg #[.slice none 0 0,.slice none 0 0,.slice none 0 0,.int .i64 0,.int .i64 0,.int .i64 0,.int .i64 0,.int .i64 0,.slice none 0 0,.slice none 0 0,.slice none 0 0],.int .i64 4]) (by simp [results,Tryz.results67,go_sem, *]) rfl ⟨StD.zero,4,rfl,StD.zero_good _ _,StD.zero_sm,HEF.out⟩
 obtain ⟨⟨t0,t1,t2,t3,t4,t5,t6,t7,t8,t9,t10⟩,⟨f0,f1,f2,f3,f4,f5,f6,f7,f8,f9,f10⟩,tl⟩ := cells11 HMI6.out.box
 go_wp2_with fail
 refine (HCP.out _ HMI6.out.ext).mono ?_
 rintro e w7 ⟨d1,rfl,hd1,hn1,hb7⟩
 have HMC := Hh (HMI6.out.copy hb7 hd1)
 have HJB7 := Hh (owns_ext HJB6.out hb7)
 have HN1 := Hh hn1
 clear hb7 hd1 hn1 HMI6 HJB6 HCP
 clear t0 t1 t2 t3 t4 t5 t6 t7 t8 t9 t10 f0 f1 f2 f3 f4 f5 f6 f7 f8 f9 f10 tl
 obtain ⟨⟨t0,t1,t2,t3,t4,t5,t6,t7,t8,t9,t10⟩,⟨f0,f1,f2,f3,f4,f5,f6,f7,f8,f9,f10⟩,tl⟩ := cells11 HMC.out.box
 go_upto_region 12 with fail
 generalize hwq : (((((((((((w7.setCell ⟨w.heap.size,0,none⟩ (.slice d1.A1 d1.n1 d1.c1)).setCell ⟨w.heap.size,1,none⟩ (.slice d1.A2 d1.n2 d1.c2)).setCell ⟨w.heap.size,2,none⟩ (.slice d1.A3 d1.n3 d1.c3)).setCell ⟨w.heap.size,3,none⟩ (.int .i64 d1.lic.A)).setCell ⟨w.heap.size,4,none⟩ (.int .i64 d1.lic.B)).setCell ⟨w.heap.size,5,none⟩ (.int .i64 d1.lic.C)).setCell ⟨w.heap.size,6,none⟩ (.int .i64 d1.dep)).setCell ⟨w.heap.size,7,none⟩ (.int .i64 d1.now)).setCell ⟨w.heap.size,8,none⟩ (.slice d1.A6 d1.n6 d1.c6)).setCell ⟨w.heap.size,9,none⟩ (.slice d1.A7 d1.n7 d1.c7)).setCell ⟨w.heap.size,10,none⟩ (.slice d1.A8 d1.n8 d1.c8)) = w8
 have hwq' : setCells w7 w.heap.size 0 [.slice d1.A1 d1.n1 d1.c1,.slice d1.A2 d1.n2 d1.c2,.slice d1.A3 d1.n3 d1.c3,.int .i64 d1.lic.A,.int .i64 d1.lic.B,.int .i64 d1.lic.C,.int .i64 d1.dep,.int .i64 d1.now,.slice d1.A6 d1.n6 d1.c6,.slice d1.A7 d1.n7 d1.c7,.slice d1.A8 d1.n8 d1.c8] = w8 := hwq
 have HMI8 := Hh (HMC.out.put (by decide))
 rw [hwq'] at HMI8
 have HJB8 := Hh ((kept_puts w.heap.size [.slice d1.A1 d1.n1 d1.c1,.slice d1.A2 d1.n2 d1.c2,.slice d1.A3 d1.n3 d1.c3,.int .i64 d1.lic.A,.int .i64 d1.lic.B,.int .i64 d1.lic.C,.int .i64 d1.dep,.int .i64 d1.now,.slice d1.A6 d1.n6 d1.c6,.slice d1.A7 d1.n7 d1.c7,.slice d1.A8 d1.n8 d1.c8] w7 0).own HJB7.out (g_apart HJB7.out HMC.out.box (by decide)))
 rw [hwq'] at HJB8
 clear hwq hwq' HMC HJB7
 clear t0 t1 t2 t3 t4 t5 t6 t7 t8 t9 t10 f0 f1 f2 f3 f4 f5 f6 f7 f8 f9 f10 tl
 have HM1 := Hh (show d1.n1 ≤ 24 ∧ d1.n2 ≤ 24 ∧ d1.n3 ≤ 24 ∧ d1.n6 + d1.n7 ≤ 60 ∧ d1.n8 ≤ 300 from by obtain ⟨a1,a2,a3,a6,a7,a8⟩ := HN1.out;obtain ⟨b1,b2,b3,b6,b7,b8⟩ := HLN.out;exact ⟨by omega,by omega,by omega,by omega,by omega⟩)
 have hq6 : d1.n6 ≤ 60 := by have := HM1.out.2.2.2.1;omega
 have HXK := Hh hx
 obtain ⟨⟨p0,p1,p2,p3,p4,p5,p6,p7,p8,p9,p10⟩,⟨pf0,pf1,pf2,pf3,pf4,pf5,pf6,pf7,pf8,pf9,pf10⟩,pl⟩ := cells11 HJB8.out
 obtain ⟨⟨t0,t1,t2,t3,t4,t5,t6,t7,t8,t9,t10⟩,⟨f0,f1,f2,f3,f4,f5,f6,f7,f8,f9,f10⟩,tl⟩ := cells11 HMI8.out.box
 have hle8 := HMI8.out.ext.le
 go_upto_region 13 with (at_builtin;go_must (refine wpList_append_k (enc := Job.enc) (ok := Job.ok) (.tmp 41) (.tmp 43) _ w.heap.size 52 iJ _ 11 88 (.slice d1.A6 d1.n6 d1.c6) d1.n6 (d1.q.flatMap Job.enc) (some ⟨w8.heap.size,0,none⟩) 1 1 [x] (d1.n6 + 1) ((d1.q ++ [x]).flatMap Job.enc) rfl List.flatMap_append.symm rfl rfl Tryz.underlying30 hiJ hJ0 hJ1 hJ2 rfl (by omega) rfl (owns_ext (HMI8.out.gd.r6) ((Ext.refl _).alloc _)) rfl (by exact sl_one_at (enc := Job.enc) w8 _ rfl x 52 rfl HXK.out) Job.size Job.one (by unfold maxLen;omega) (by omega) (by simp;omega) ?_);intro A9 c9 w9 hr;have HR9 := Hh hr;clear hr;have HB9 := Hh (HR9.out.kp.own (owns_ext HMI8.out.box ((Ext.refl w8).alloc (.cells (Job.enc x).toArray 52))) (g_apart (owns_ext HMI8.out.box ((Ext.refl w8).alloc (.cells (Job.enc x).toArray 52))) (owns_ext HMI8.out.gd.r6 ((Ext.refl w8).alloc (.cells (Job.enc x).toArray 52))) (by decide)));clear t0 t1 t2 t3 t4 t5 t6 t7 t8 t9 t10 f0 f1 f2 f3 f4 f5 f6 f7 f8 f9 f10 tl;obtain ⟨⟨t0,t1,t2,t3,t4,t5,t6,t7,t8,t9,t10⟩,⟨f0,f1,f2,f3,f4,f5,f6,f7,f8,f9,f10⟩,tl⟩ := cells11 HB9.out)
 have EA : Ext w8 (w8.alloc (.cells (Job.enc x).toArray 52)) := (Ext.refl _).alloc _
 have HMI9 := Hh (((HMI8.out.mv EA).row (owns_ext HMI8.out.gd.r6 EA) HR9.out.kp (by decide) (Nat.le_refl _) ((HMI8.out.gd.ext EA).pushQ (by rw [← List.flatMap_append];exact HR9.out) HXK.out)).tell (by decide) (p := 8) (x := .slice A9 (d1.n6 + 1) c9) rfl)
 clear p0 p1 p2 p3 p4 p5 p6 p7 p8 p9 p10 pf0 pf1 pf2 pf3 pf4 pf5 pf6 pf7 pf8 pf9 pf10 pl HB9 HR9 HMI8 EA HJB8
 clear t0 t1 t2 t3 t4 t5 t6 t7 t8 t9 t10 f0 f1 f2 f3 f4 f5 f6 f7 f8 f9 f10 tl
 generalize (w9.setCell ⟨w.heap.size,8,none⟩ (.slice A9 (d1.n6 + 1) c9)) = wa at *
 obtain ⟨d2,hd2⟩ : ∃ d2,d2 = d1.withQ (d1.q ++ [x]) A9 (d1.n6 + 1) c9 := ⟨_,rfl⟩
 have HM2 := Hh (show d2.n1 ≤ 24 ∧ d2.n2 ≤ 24 ∧ d2.n3 ≤ 24 ∧ d2.n6 ≤ 61 ∧ d2.n7 ≤ 60 ∧ d2.n8 ≤ 300 from by rw [hd2];obtain ⟨a1,a2,a3,a6,a8⟩ := HM1.out;exact ⟨a1,a2,a3,(by show d1.n6 + 1 ≤ 61;omega),(by show d1.n7 ≤ 60;omega),a8⟩)
 rw [← hd2] at HMI9
 clear hd2 HM1
 obtain ⟨q1,q2,q3,q6,q7,q8⟩ := HM2.out
 obtain ⟨⟨t0,t1,t2,t3,t4,t5,t6,t7,t8,t9,t10⟩,⟨f0,f1,f2,f3,f4,f5,f6,f7,f8,f9,f10⟩,tl⟩ := cells11 HMI9.out.box
 go_wp2_with fail
 refine (l06Start_c d2 w.heap.size _ HMI9.out.gd HMI9.out.ext.le (by exact ⟨by omega,by omega,by omega,by omega,by omega,by omega⟩)).mono ?_
 rintro e wz ⟨dz,rfl,hdz,hnz,hkz,_⟩
 have HMZ := Hh (HMI9.out.row HMI9.out.gd.r7 hkz (by decide) (Nat.le_refl _) hdz)
 have HNZ := Hh hnz
 clear hdz hnz hkz
 clear t0 t1 t2 t3 t4 t5 t6 t7 t8 t9 t10 f0 f1 f2 f3 f4 f5 f6 f7 f8 f9 f10 tl
 obtain ⟨⟨r0,r1,r2,r3,r4,r5,r6,r7,r8,r9,r10⟩,⟨rf0,rf1,rf2,rf3,rf4,rf5,rf6,rf7,rf8,rf9,rf10⟩,rl⟩ := cells11 HMZ.out.res
 have HSZ := Hh (show dz.sm from by obtain ⟨e1,e2,e3,e6,e7,e8⟩ := HNZ.out;exact ⟨by omega,by omega,by omega,by omega,by omega,by omega⟩)
 have HFZ := Hh HMZ.out.fin
 clear HMZ
 go_wp2
 exact bodyPost_ret (v := .tuple #[.agg #[.slice dz.A1 dz.n1 dz.c1,.slice dz.A2 dz.n2 dz.c2,.slice dz.A3 dz.n3 dz.c3,.int .i64 dz.lic.A,.int .i64 dz.lic.B,.int .i64 dz.lic.C,.int .i64 dz.dep,.int .i64 dz.now,.slice dz.A6 dz.n6 dz.c6,.slice dz.A7 dz.n7 dz.c7,.slice dz.A8 dz.n8 dz.c8],.int .i64 0]) (by simp [results,Tryz.results67,go_sem, *]) rfl ⟨dz,0,rfl,HFZ.out.1,HSZ.out,HFZ.out.2⟩
def endLen (u : World) (b : Nat) : Nat := match u.cell? ⟨b,10,none⟩ with
 | some v => lenOf v
 | none => 0
theorem MvI.endLen {w u : World} {r lo : Nat} {d0 d : StD} (h : MvI w u r lo d0 d) : endLen u w.heap.size = d0.n8 := by
 unfold Go.Proofs.YtfanjhcdjbnnnaaGreat.endLen
 rw [(cells11 h.box).1.2.2.2.2.2.2.2.2.2.2]
 rfl
theorem DropI.done {w u0 wr : World} {d d2 : StD} {B : Option Addr} {b c k : Nat} {rest : List RawRun} (h : DropI w u0 wr w.heap.size w.heap.size (w.heap.size + 1) d d2 B b c rest k) (ho : ∀ q,d.oe = some q → w.heap.size ≤ q) : MvI w (wr.setCell ⟨w.heap.size,9,none⟩ (.slice B b c)) 1 w.heap.size (d2.withR rest B b c) (d2.withR rest B b c) :=
 ⟨(h.box.stored 9 _).1,g_far h.res (by simp [Value.ownBlock]),(h.gd.runs h.rl (owns_base h.rr h.lu) h.rm).far h.box (by simp [rowTypes]),(h.kp.ext (Ext.refl w) ho).setCell (Nat.le_refl _) _⟩
theorem Until_c (d : StD) (lo : Nat) (t : Int) (w : World) (h : d.good w lo) (hsm : d.mid) (ht : In64 t) : Calls Tryz.prog 69 #[.agg #[.slice d.A1 d.n1 d.c1,.slice d.A2 d.n2 d.c2,.slice d.A3 d.n3 d.c3,.int .i64 d.lic.A,.int .i64 d.lic.B,.int .i64 d.lic.C,.int .i64 d.dep,.int .i64 d.now,.slice d.A6 d.n6 d.c6,.slice d.A7 d.n7 d.c7,.slice d.A8 d.n8 d.c8],.int .i64 t] w (RetStB w) := by
 obtain ⟨iR,hiR,hR0,hR1,hR2⟩ := info_parts CRun.info
 obtain ⟨iE,hiE,hE0,hE1,hE2⟩ := info_parts CEnd.info
 obtain ⟨hs1,hs2,hs3,hs6,hs7,hs8⟩ := hsm
 obtain ⟨s,hst,hln,hps,hns,hup,hqq,hnw⟩ := h.state
 have hsl : stateLen s := by obtain ⟨e1,e2,e3,e6,e7,e8⟩ := hln;exact ⟨by omega,by omega,by omega,by omega,by omega,by omega⟩
 have HSO := Hh (fun (u : World) (e : Ext w u) => sStateOk_c s _ u (hst.ext e) hsl)
 have HOK := Hh (fun (hh : stateB s = true) => okd_of hln hh)
 have HCP := Hh (fun (u : World) (e : Ext w u) => l06Copy_c s _ u (hst.ext e) hsl (by rw [hnw];exact h.kn))
 have HLN := Hh hln
 have HMI := Hh (MvI.start1 h)
 have HTI := Hh (fun u : World => sTime_c t u)
 clear hst hln hps hns hup hqq hnw h hsl
 generalize stateB s = ob at *
 generalize (emptyF s).isSome = eb at *
 generalize timeB t = tb at *
 have HT := Hh ht
 clear ht
 go_enter Tryz.func69,Tryz.ntmps69
 go_wp2_with fail
 refine (HSO.out _ (((Ext.refl w).alloc _).alloc _)).mono ?_
 rintro e w1 ⟨rfl,hb1⟩
 have HMI1 := Hh (HMI.out.mv hb1)
 clear hb1 HMI HSO
 rcases ob with _ | _
 ·skip
  obtain ⟨⟨r0,r1,r2,r3,r4,r5,r6,r7,r8,r9,r10⟩,⟨rf0,rf1,rf2,rf3,rf4,rf5,rf6,rf7,rf8,rf9,rf10⟩,rl⟩ := cells11 HMI1.out.res
  have HEF := Hh HMI1.out.fail
  go_wp2
  exact bodyPost_ret (v := .tuple #[.agg #[.slice none 0 0,.slice none 0 0,.slice none 0 0,.int .i64 0,.int .i64 0,.int .i64 0,.int .i64 0,.int .i64 0,.slice none 0 0,.slice none 0 0,.slice none 0 0],.bool false]) (by simp [results,Tryz.results69,go_sem, *]) rfl ⟨StD.zero,false,rfl,StD.zero_good _ _,StD.zero_sm,HEF.out⟩
 obtain ⟨⟨⟨ok1,ok2,ok3,ok67,ok8⟩,ok23,ok32⟩,_⟩ := HOK.out rfl
 clear HOK
 go_wp2_with fail
 refine (HTI.out _).mono ?_
 rintro e w2 ⟨rfl,rfl⟩
 rcases tb with _ | _
 ·skip
  obtain ⟨⟨r0,r1,r2,r3,r4,r5,r6,r7,r8,r9,r10⟩,⟨rf0,rf1,rf2,rf3,rf4,rf5,rf6,rf7,rf8,rf9,rf10⟩,rl⟩ := cells11 HMI1.out.res
  have HEF := Hh HMI1.out.fail
  go_wp2
  exact bodyPost_ret (v := .tuple #[.agg #[.slice none 0 0,.slice none 0 0,.slice none 0 0,.int .i64 0,.int .i64 0,.int .i64 0,.int .i64 0,.int .i64 0,.slice none 0 0,.slice none 0 0,.slice none 0 0],.bool false]) (by simp [results,Tryz.results69,go_sem, *]) rfl ⟨StD.zero,false,rfl,StD.zero_good _ _,StD.zero_sm,HEF.out⟩
 obtain ⟨⟨t0,t1,t2,t3,t4,t5,t6,t7,t8,t9,t10⟩,⟨f0,f1,f2,f3,f4,f5,f6,f7,f8,f9,f10⟩,tl⟩ := cells11 HMI1.out.box
 rcases (Bool.eq_false_or_eq_true (decide (t < d.now))) with htn | htn
 ·skip
  obtain ⟨⟨r0,r1,r2,r3,r4,r5,r6,r7,r8,r9,r10⟩,⟨rf0,rf1,rf2,rf3,rf4,rf5,rf6,rf7,rf8,rf9,rf10⟩,rl⟩ := cells11 HMI1.out.res
  have HEF := Hh HMI1.out.fail
  go_wp2
  exact bodyPost_ret (v := .tuple #[.agg #[.slice none 0 0,.slice none 0 0,.slice none 0 0,.int .i64 0,.int .i64 0,.int .i64 0,.int .i64 0,.int .i64 0,.slice none 0 0,.slice none 0 0,.slice none 0 0],.bool false]) (by simp [results,Tryz.results69,go_sem, *]) rfl ⟨StD.zero,false,rfl,StD.zero_good _ _,StD.zero_sm,HEF.out⟩
 go_wp2_with fail
 refine (HCP.out _ HMI1.out.ext).mono ?_
 rintro e w7 ⟨d0,rfl,hd1,hn1,hb7⟩
 have HMC := Hh (HMI1.out.copy hb7 hd1)
 have HN1 := Hh hn1
 clear hb7 hd1 hn1 HMI1 HCP htn
 clear t0 t1 t2 t3 t4 t5 t6 t7 t8 t9 t10 f0 f1 f2 f3 f4 f5 f6 f7 f8 f9 f10 tl
 obtain ⟨⟨t0,t1,t2,t3,t4,t5,t6,t7,t8,t9,t10⟩,⟨f0,f1,f2,f3,f4,f5,f6,f7,f8,f9,f10⟩,tl⟩ := cells11 HMC.out.box
 go_upto_region 4 with fail
 generalize hwq : (((((((((((w7.setCell ⟨w.heap.size,0,none⟩ (.slice d0.A1 d0.n1 d0.c1)).setCell ⟨w.heap.size,1,none⟩ (.slice d0.A2 d0.n2 d0.c2)).setCell ⟨w.heap.size,2,none⟩ (.slice d0.A3 d0.n3 d0.c3)).setCell ⟨w.heap.size,3,none⟩ (.int .i64 d0.lic.A)).setCell ⟨w.heap.size,4,none⟩ (.int .i64 d0.lic.B)).setCell ⟨w.heap.size,5,none⟩ (.int .i64 d0.lic.C)).setCell ⟨w.heap.size,6,none⟩ (.int .i64 d0.dep)).setCell ⟨w.heap.size,7,none⟩ (.int .i64 d0.now)).setCell ⟨w.heap.size,8,none⟩ (.slice d0.A6 d0.n6 d0.c6)).setCell ⟨w.heap.size,9,none⟩ (.slice d0.A7 d0.n7 d0.c7)).setCell ⟨w.heap.size,10,none⟩ (.slice d0.A8 d0.n8 d0.c8)) = w8
 have hwq' : setCells w7 w.heap.size 0 [.slice d0.A1 d0.n1 d0.c1,.slice d0.A2 d0.n2 d0.c2,.slice d0.A3 d0.n3 d0.c3,.int .i64 d0.lic.A,.int .i64 d0.lic.B,.int .i64 d0.lic.C,.int .i64 d0.dep,.int .i64 d0.now,.slice d0.A6 d0.n6 d0.c6,.slice d0.A7 d0.n7 d0.c7,.slice d0.A8 d0.n8 d0.c8] = w8 := hwq
 have HMI8 := Hh (HMC.out.put (by decide))
 rw [hwq'] at HMI8
 clear hwq hwq' HMC
 clear t0 t1 t2 t3 t4 t5 t6 t7 t8 t9 t10 f0 f1 f2 f3 f4 f5 f6 f7 f8 f9 f10 tl
 have HM1 := Hh (show d0.n1 ≤ 24 ∧ d0.n2 ≤ 24 ∧ d0.n3 ≤ 24 ∧ d0.n6 + d0.n7 ≤ 60 ∧ d0.n8 ≤ 300 from by obtain ⟨a1,a2,a3,a6,a7,a8⟩ := HN1.out;obtain ⟨b1,b2,b3,b6,b7,b8⟩ := HLN.out;exact ⟨by omega,by omega,by omega,by omega,by omega⟩)
 obtain ⟨q1,q2,q3,q67,q8⟩ := HM1.out
 obtain ⟨⟨t0,t1,t2,t3,t4,t5,t6,t7,t8,t9,t10⟩,⟨f0,f1,f2,f3,f4,f5,f6,f7,f8,f9,f10⟩,tl⟩ := cells11 HMI8.out.box
 go_wp2_with fail
 refine (l06NextD_c d0 w.heap.size _ HMI8.out.gd (by exact ⟨by omega,by omega,by omega,by omega,by omega,by omega⟩)).mono ?_
 rintro e w9 ⟨n0,rfl,hn64,hhit,hb9⟩
 have HMI9 := Hh (HMI8.out.mv hb9)
 have H64 := Hh hn64
 have HHT := Hh hhit
 clear t0 t1 t2 t3 t4 t5 t6 t7 t8 t9 t10 f0 f1 f2 f3 f4 f5 f6 f7 f8 f9 f10 tl
 clear hb9 HMI8 hn64 hhit HM1
 go_wp2
 go_loopw [6] (fun nv wr => ∃ (n : Int) (d1 : StD),nv = .int .i64 n ∧ d1.n1 ≤ 24 ∧ d1.n2 ≤ 24 ∧ d1.n3 ≤ 24 ∧ d1.n6 ≤ 60 ∧ d1.n7 ≤ 60 + 60 * d1.n8 ∧ d1.n8 ≤ 300 ∧ Hid (In64 n) ∧ Hid (0 ≤ n → ∃ (k : Nat) (r : RawRun),d1.rs[k]? = some r ∧ endR r = n) ∧ Hid (MvI w wr 1 w.heap.size d1 d1)) (fun _ wr => 301 - endLen wr w.heap.size)
 case atStart => exact ⟨n0,d0,rfl,q1,q2,q3,by omega,by omega,q8,H64,HHT,HMI9⟩
 case round =>
  clear HMI9 H64 HHT q1 q2 q3 q67 q8
  obtain ⟨n,d1,rfl,q1,q2,q3,q6,q7,q8,H64,HHT,HM⟩ := hrel
  obtain ⟨wo,rfl⟩ : ∃ u,u = wr := ⟨_,rfl⟩
  have HEL := Hh HM.out.endLen
  by_cases hin : 0 ≤ n ∧ n ≤ t
  rotate_left
  ·have HMF := Hh ((show MvI w wo 1 w.heap.size d1 (d1.withNow t) from ⟨HM.out.box,HM.out.res,HM.out.gd.now HT.out,HM.out.ext⟩).tell (by decide) (p := 7) (x := .int .i64 t) rfl)
   obtain ⟨⟨t0,t1,t2,t3,t4,t5,t6,t7,t8,t9,t10⟩,⟨f0,f1,f2,f3,f4,f5,f6,f7,f8,f9,f10⟩,tl⟩ := cells11 HM.out.box
   clear HM HEL HHT
   rcases (show (¬ 0 ≤ n) ∨ (0 ≤ n ∧ ¬ n ≤ t) by omega) with h0 | ⟨h0,h1⟩
   ·have hd0 : decide (0 ≤ n) = false := decide_eq_false h0
    clear h0 hin
    go_upto_region 21 with fail
    clear t0 t1 t2 t3 t4 t5 t6 t7 t8 t9 t10 f0 f1 f2 f3 f4 f5 f6 f7 f8 f9 f10 tl
    generalize (wo.setCell ⟨w.heap.size,7,none⟩ (.int .i64 t)) = wa at *
    obtain ⟨d2,hd2⟩ : ∃ d2,d2 = d1.withNow t := ⟨_,rfl⟩
    have HSM := Hh (show d2.sm from by rw [hd2];exact ⟨by show d1.n1 ≤ 1000;omega,by show d1.n2 ≤ 1000;omega,by show d1.n3 ≤ 1000;omega,by show d1.n6 ≤ 500;omega,by show d1.n7 ≤ 100000;omega,by show d1.n8 ≤ 100000;omega⟩)
    rw [← hd2] at HMF
    clear hd2
    obtain ⟨⟨r0,r1,r2,r3,r4,r5,r6,r7,r8,r9,r10⟩,⟨rf0,rf1,rf2,rf3,rf4,rf5,rf6,rf7,rf8,rf9,rf10⟩,rl⟩ := cells11 HMF.out.res
    have HFZ := Hh HMF.out.fin
    obtain ⟨⟨t0,t1,t2,t3,t4,t5,t6,t7,t8,t9,t10⟩,⟨f0,f1,f2,f3,f4,f5,f6,f7,f8,f9,f10⟩,tl⟩ := cells11 HMF.out.box
    clear HMF
    go_wp2
    exact bodyPost_ret (v := .tuple #[.agg #[.slice d2.A1 d2.n1 d2.c1,.slice d2.A2 d2.n2 d2.c2,.slice d2.A3 d2.n3 d2.c3,.int .i64 d2.lic.A,.int .i64 d2.lic.B,.int .i64 d2.lic.C,.int .i64 d2.dep,.int .i64 d2.now,.slice d2.A6 d2.n6 d2.c6,.slice d2.A7 d2.n7 d2.c7,.slice d2.A8 d2.n8 d2.c8],.bool true]) (by simp [results,Tryz.results69,go_sem, *]) rfl ⟨d2,true,rfl,HFZ.out.1,HSM.out,HFZ.out.2⟩
   ·have hd0 : decide (0 ≤ n) = true := decide_eq_true h0
    have hd1 : decide (n ≤ t) = false := decide_eq_false h1
    clear h0 h1 hin
    go_upto_region 21 with fail
    clear t0 t1 t2 t3 t4 t5 t6 t7 t8 t9 t10 f0 f1 f2 f3 f4 f5 f6 f7 f8 f9 f10 tl
    generalize (wo.setCell ⟨w.heap.size,7,none⟩ (.int .i64 t)) = wa at *
    obtain ⟨d2,hd2⟩ : ∃ d2,d2 = d1.withNow t := ⟨_,rfl⟩
    have HSM := Hh (show d2.sm from by rw [hd2];exact ⟨by show d1.n1 ≤ 1000;omega,by show d1.n2 ≤ 1000;omega,by show d1.n3 ≤ 1000;omega,by show d1.n6 ≤ 500;omega,by show d1.n7 ≤ 100000;omega,by show d1.n8 ≤ 100000;omega⟩)
    rw [← hd2] at HMF
    clear hd2
    obtain ⟨⟨r0,r1,r2,r3,r4,r5,r6,r7,r8,r9,r10⟩,⟨rf0,rf1,rf2,rf3,rf4,rf5,rf6,rf7,rf8,rf9,rf10⟩,rl⟩ := cells11 HMF.out.res
    have HFZ := Hh HMF.out.fin
    obtain ⟨⟨t0,t1,t2,t3,t4,t5,t6,t7,t8,t9,t10⟩,⟨f0,f1,f2,f3,f4,f5,f6,f7,f8,f9,f10⟩,tl⟩ := cells11 HMF.out.box
    clear HMF
    go_wp2
    exact bodyPost_ret (v := .tuple #[.agg #[.slice d2.A1 d2.n1 d2.c1,.slice d2.A2 d2.n2 d2.c2,.slice d2.A3 d2.n3 d2.c3,.int .i64 d2.lic.A,.int .i64 d2.lic.B,.int .i64 d2.lic.C,.int .i64 d2.dep,.int .i64 d2.now,.slice d2.A6 d2.n6 d2.c6,.slice d2.A7 d2.n7 d2.c7,.slice d2.A8 d2.n8 d2.c8],.bool true]) (by simp [results,Tryz.results69,go_sem, *]) rfl ⟨d2,true,rfl,HFZ.out.1,HSM.out,HFZ.out.2⟩
  have hd0 : decide (0 ≤ n) = true := decide_eq_true hin.1
  have hd1 : decide (n ≤ t) = true := decide_eq_true hin.2
  have HIT := Hh (HHT.out hin.1)
  clear hin HHT
  have HMN := Hh ((show MvI w wo 1 w.heap.size d1 (d1.withNow n) from ⟨HM.out.box,HM.out.res,HM.out.gd.now H64.out,HM.out.ext⟩).tell (by decide) (p := 7) (x := .int .i64 n) rfl)
  obtain ⟨⟨t0,t1,t2,t3,t4,t5,t6,t7,t8,t9,t10⟩,⟨f0,f1,f2,f3,f4,f5,f6,f7,f8,f9,f10⟩,tl⟩ := cells11 HM.out.box
  go_upto_region 8 with fail
  clear t0 t1 t2 t3 t4 t5 t6 t7 t8 t9 t10 f0 f1 f2 f3 f4 f5 f6 f7 f8 f9 f10 tl
  clear HM hd0 hd1
  generalize (wo.setCell ⟨w.heap.size,7,none⟩ (.int .i64 n)) = u1 at *
  obtain ⟨d2,hd2⟩ : ∃ d2,d2 = d1.withNow n := ⟨_,rfl⟩
  have HD2 := Hh (show d2.rs = d1.rs ∧ d2.n8 = d1.n8 ∧ d2.n7 = d1.n7 from by rw [hd2];exact ⟨rfl,rfl,rfl⟩)
  have HM2 := Hh (show d2.n1 ≤ 24 ∧ d2.n2 ≤ 24 ∧ d2.n3 ≤ 24 ∧ d2.n6 ≤ 60 ∧ d2.n7 ≤ 60 + 60 * d2.n8 ∧ d2.n8 ≤ 300 from by rw [hd2];exact ⟨q1,q2,q3,q6,q7,q8⟩)
  rw [← hd2] at HMN
  rw [← HD2.out.1] at HIT
  clear hd2 q1 q2 q3 q6 q7 q8
  obtain ⟨q1,q2,q3,q6,q7,q8⟩ := HM2.out
  have hlu := HMN.out.ext.le
  have HDI0 := Hh (show DropI w u1 (u1.alloc (.cells #[] 54)) w.heap.size w.heap.size (w.heap.size + 1) d2 d2 (some ⟨u1.heap.size,0,none⟩) 0 0 [] 0 from
   ⟨owns_ext HMN.out.box ((Ext.refl _).alloc _),owns_ext HMN.out.res ((Ext.refl _).alloc _),by omega,HMN.out.gd.ext ((Ext.refl _).alloc _),owns_empty u1 54 13,rfl,(fun x hx => by cases hx),(fun q hq => (HMN.out.gd.r7.lt q hq).2),hlu,by simp,Kept.ofExt (HMN.out.ext.alloc _) _,(fun q hq => .inl hq),⟨rfl,rfl,rfl,rfl⟩,⟨rfl,rfl,rfl,rfl,by omega⟩⟩)
  have HOE := Hh (show ∀ q,d2.oe = some q → w.heap.size ≤ q from fun q hq => (HMN.out.gd.r8.lt q hq).1)
  obtain ⟨⟨t0,t1,t2,t3,t4,t5,t6,t7,t8,t9,t10⟩,⟨f0,f1,f2,f3,f4,f5,f6,f7,f8,f9,f10⟩,tl⟩ := cells11 HMN.out.box
  go_upto_region 10 with fail
  clear t0 t1 t2 t3 t4 t5 t6 t7 t8 t9 t10 f0 f1 f2 f3 f4 f5 f6 f7 f8 f9 f10 tl
  clear HMN
  obtain ⟨A7,hA7⟩ : ∃ A7,d2.A7 = A7 := ⟨_,rfl⟩
  rw [hA7]
  go_loopw [7,44] (fun rv iv wq => ∃ (k : Nat) (d3 : StD) (B : Option Addr) (b c : Nat) (rest : List RawRun),k ≤ d2.n7 ∧ rv = .slice B b c ∧ iv = .int .i64 k ∧ b ≤ k ∧ Hid (∀ (j : Nat) (r : RawRun),j < k → d2.rs[j]? = some r → endR r = n → b < k) ∧ Hid (DropI w u1 wq w.heap.size w.heap.size (w.heap.size + 1) d2 d3 B b c rest k)) (fun _ iv _ => d2.n7 - (intOf iv).toNat)
  case atStart => exact ⟨0,d2,_,0,0,[],Nat.zero_le _,rfl,rfl,Nat.le_refl _,Hh (fun j r hj => by omega),HDI0⟩
  case round =>
   clear HDI0
   obtain ⟨k,d3,B,b,c,rest,hk,rfl,rfl,hbk,HHK,HDI⟩ := hrel
   obtain ⟨wq,rfl⟩ : ∃ u,u = wr := ⟨_,rfl⟩
   have hlw := HDI.out.kp.size
   have hlw2 := HDI.out.lw
   have h8 : d3.n8 ≤ d2.n8 + k := by have := HDI.out.sz.2.2.2.2;omega
   by_cases hlt : k < d2.n7
   ·have HSA := Hh (show SlAt (Flat RawRun.enc RawRun.ok) 13 wq A7 d2.n7 d2.rs from by have h := HDI.out.gd.sl7;rw [HDI.out.sr.1,HDI.out.sr.2.1,HDI.out.sr.2.2.1,hA7] at h;exact h)
    obtain ⟨bo,oo,x,cs,rfl,hbw,hx,_,hc,rfl,hok⟩ := HSA.out.at_ hlt
    have HX := Hh hx
    have HMM := Hh (show RawRun.mem wq w.heap.size x from (HDI.out.gd.k7 x (by rw [HDI.out.sr.1];exact List.mem_of_getElem? hx)).2)
    have HK := Hh hok
    have g0 := hc 0 _ rfl
    have g1 := hc 1 _ rfl
    have g2 := hc 2 _ rfl
    have g3 := hc 3 _ rfl
    have g4 := hc 4 _ rfl
    have g5 := hc 5 _ rfl
    have g6 := hc 6 _ rfl
    have g7 := hc 7 _ rfl
    have g8 := hc 8 _ rfl
    have g9 := hc 9 _ rfl
    have g10 := hc 10 _ rfl
    have g11 := hc 11 _ rfl
    have g12 := hc 12 _ rfl
    simp only [Nat.add_zero] at g0
    have HE1 := Hh (show Ext wq (wq.alloc (.cells (RawRun.enc x).toArray 54)) from (Ext.refl wq).alloc _)
    have HDQ := Hh (HDI.out.mv HE1.out)
    have HER := Hh (show endR x = IntKind.i64.wrap (x.at_ + x.j.Wall) from rfl)
    clear hc hx hok HSA
    generalize endR x = ex at *
    have hw : IntKind.i64.wrap (x.at_ + x.j.Wall) = ex := HER.out.symm
    by_cases hex : ex = n
    ·have hde : decide (ex = n) = true := decide_eq_true hex
     have hde2 : (ex == n) = true := by rw [beq_iff_eq];exact hex
     clear hex
     have HEK := Hh (show End.ok ⟨x.j.Id,n,1⟩ from ⟨HK.out.1.1,H64.out,show In64 1 by unfold In64;omega⟩)
     obtain ⟨⟨t0,t1,t2,t3,t4,t5,t6,t7,t8,t9,t10⟩,⟨f0,f1,f2,f3,f4,f5,f6,f7,f8,f9,f10⟩,tl⟩ := cells11 HDI.out.box
     go_upto_region 15 with (at_builtin;go_must (refine wpList_append_k (enc := End.enc) (ok := End.ok) (.tmp 57) (.tmp 63) _ w.heap.size 64 iE _ 3 24 (.slice d3.A8 d3.n8 d3.c8) d3.n8 (d3.es.flatMap End.enc) (some ⟨(wq.heap.size + 1),0,none⟩) 1 1 [(⟨x.j.Id,n,1⟩ : End)] (d3.n8 + 1) ((d3.es ++ [(⟨x.j.Id,n,1⟩ : End)]).flatMap End.enc) rfl List.flatMap_append.symm rfl rfl Tryz.underlying32 hiE hE0 hE1 hE2 rfl (by omega) rfl (owns_ext (HDQ.out.gd.r8) ((Ext.refl _).alloc _)) rfl (by exact sl_one_at (enc := End.enc) (wq.alloc (.cells (RawRun.enc x).toArray 54)) _ (by simp) (⟨x.j.Id,n,1⟩ : End) 64 rfl HEK.out) End.size End.one (by unfold maxLen;omega) (by omega) (by simp;omega) ?_);intro A9 c9 w9 hr;have HR9 := Hh hr;clear hr;have HB9 := Hh (HR9.out.kp.own (owns_ext HDQ.out.box ((Ext.refl (wq.alloc (.cells (RawRun.enc x).toArray 54))).alloc (.cells (End.enc (⟨x.j.Id,n,1⟩ : End)).toArray 64))) (g_apart (owns_ext HDQ.out.box ((Ext.refl (wq.alloc (.cells (RawRun.enc x).toArray 54))).alloc (.cells (End.enc (⟨x.j.Id,n,1⟩ : End)).toArray 64))) (owns_ext HDQ.out.gd.r8 ((Ext.refl (wq.alloc (.cells (RawRun.enc x).toArray 54))).alloc (.cells (End.enc (⟨x.j.Id,n,1⟩ : End)).toArray 64))) (by decide)));clear t0 t1 t2 t3 t4 t5 t6 t7 t8 t9 t10 f0 f1 f2 f3 f4 f5 f6 f7 f8 f9 f10 tl;obtain ⟨⟨t0,t1,t2,t3,t4,t5,t6,t7,t8,t9,t10⟩,⟨f0,f1,f2,f3,f4,f5,f6,f7,f8,f9,f10⟩,tl⟩ := cells11 HB9.out)
     have HDN := Hh ((HDQ.out.mv ((Ext.refl (wq.alloc (.cells (RawRun.enc x).toArray 54))).alloc (.cells (End.enc (⟨x.j.Id,n,1⟩ : End)).toArray 64))).endd (Nat.le_refl _) HR9.out HEK.out)
     clear t0 t1 t2 t3 t4 t5 t6 t7 t8 t9 t10 f0 f1 f2 f3 f4 f5 f6 f7 f8 f9 f10 tl
     clear HB9 HR9 HDQ HDI hw HHK
     go_wp2
     go_roundw
     case rel => exact ⟨k + 1,_,B,b,c,rest,by omega,rfl,by go_num,by omega,Hh (fun _ _ _ _ _ => by omega),HDN⟩
     case measure => simp [intOf];omega
    ·have hde : decide (ex = n) = false := decide_eq_false hex
     have hde2 : (ex == n) = false := by rw [beq_eq_false_iff_ne];exact hex
     have HXN := Hh hex
     clear hex
     go_wp2_with (at_builtin;go_must (refine wpList_append_k (enc := RawRun.enc) (ok := RawRun.ok) (.tmp 66) (.tmp 68) _ u1.heap.size 54 iR _ 13 120 (.slice B b c) b (rest.flatMap RawRun.enc) (some ⟨(wq.heap.size + 1),0,none⟩) 1 1 [x] (b + 1) ((rest ++ [x]).flatMap RawRun.enc) rfl List.flatMap_append.symm rfl rfl Tryz.underlying31 hiR hR0 hR1 hR2 rfl (by omega) rfl (owns_ext (HDQ.out.rr) ((Ext.refl _).alloc _)) rfl (by exact sl_one_at (enc := RawRun.enc) (wq.alloc (.cells (RawRun.enc x).toArray 54)) _ (by simp) x 54 rfl HK.out) RawRun.size RawRun.one (by unfold maxLen;omega) (by omega) (by simp;omega) ?_);intro B9 c9 w9 hr;have HR9 := Hh hr;clear hr)
     have HDN := Hh ((HDQ.out.mv ((Ext.refl (wq.alloc (.cells (RawRun.enc x).toArray 54))).alloc (.cells (RawRun.enc x).toArray 54))).keep HR9.out HK.out (by obtain ⟨ys,hy⟩ := HMM.out;exact ⟨ys,(hy.ext HE1.out).ext ((Ext.refl _).alloc _)⟩))
     have HHN := Hh (show ∀ (j : Nat) (r : RawRun),j < k + 1 → d2.rs[j]? = some r → endR r = n → b + 1 < k + 1 from fun j r hj hr he => by
      rcases Nat.lt_or_ge j k with h1 | h1
      ·have := HHK.out j r h1 hr he;omega
      ·obtain rfl : j = k := by omega
       rw [HX.out] at hr;injection hr with hr;subst hr
       exact absurd (HER.out.trans (by exact he)) (fun e => HXN.out (by first | exact e | (rw [HER.out];exact he))))
     clear HR9 HDQ HDI hw HHK
     go_wp2
     go_roundw
     case rel => exact ⟨k + 1,d3,B9,b + 1,c9,_,by omega,rfl,by go_num,by omega,HHN,HDN⟩
     case measure => simp [intOf];omega
   ·obtain rfl : k = d2.n7 := by omega
    have hbl : b < d2.n7 := by
     obtain ⟨j,r,hj,he⟩ := HIT.out
     refine HHK.out j r ?_ hj he
     have h1 := HDI.out.gd.l7
     rw [HDI.out.sr.1,HDI.out.sr.2.2.1] at h1
     rw [h1]
     exact (List.getElem?_eq_some_iff.1 hj).1
    have HMD := Hh (HDI.out.done HOE.out)
    have HZ := Hh HDI.out.sz
    obtain ⟨⟨t0,t1,t2,t3,t4,t5,t6,t7,t8,t9,t10⟩,⟨f0,f1,f2,f3,f4,f5,f6,f7,f8,f9,f10⟩,tl⟩ := cells11 HDI.out.box
    clear HDI HHK hA7
    go_upto_region 17 with fail
    clear t0 t1 t2 t3 t4 t5 t6 t7 t8 t9 t10 f0 f1 f2 f3 f4 f5 f6 f7 f8 f9 f10 tl
    generalize (wq.setCell ⟨w.heap.size,9,none⟩ (.slice B b c)) = wd at *
    obtain ⟨d4,hd4⟩ : ∃ d4,d4 = d3.withR rest B b c := ⟨_,rfl⟩
    have HM4 := Hh (show d4.n1 ≤ 24 ∧ d4.n2 ≤ 24 ∧ d4.n3 ≤ 24 ∧ d4.n6 ≤ 60 ∧ d4.n7 ≤ 60 + 60 * d2.n8 ∧ d2.n8 < d4.n8 from by
     rw [hd4]
     obtain ⟨a1,a2,a3,a6,a8⟩ := HZ.out
     exact ⟨by show d3.n1 ≤ 24;omega,by show d3.n2 ≤ 24;omega,by show d3.n3 ≤ 24;omega,by show d3.n6 ≤ 60;omega,by show b ≤ _;omega,by show d2.n8 < d3.n8;omega⟩)
    rw [← hd4] at HMD
    have HE2 := Hh (show endLen wo w.heap.size = d2.n8 from HEL.out.trans HD2.out.2.1.symm)
    clear hd4 HZ hbl hbk h8 hk HEL HD2 q1 q2 q3 q6 q7 hlt
    obtain ⟨q1,q2,q3,q6,q7,q9⟩ := HM4.out
    rcases (Bool.eq_false_or_eq_true (decide ((300 : Int) < (d4.n8 : Int)))) with h300 | h300
    ·obtain ⟨⟨t0,t1,t2,t3,t4,t5,t6,t7,t8,t9,t10⟩,⟨f0,f1,f2,f3,f4,f5,f6,f7,f8,f9,f10⟩,tl⟩ := cells11 HMD.out.box
     obtain ⟨⟨r0,r1,r2,r3,r4,r5,r6,r7,r8,r9,r10⟩,⟨rf0,rf1,rf2,rf3,rf4,rf5,rf6,rf7,rf8,rf9,rf10⟩,rl⟩ := cells11 HMD.out.res
     have HEF := Hh HMD.out.fail
     go_wp2
     exact bodyPost_ret (v := .tuple #[.agg #[.slice none 0 0,.slice none 0 0,.slice none 0 0,.int .i64 0,.int .i64 0,.int .i64 0,.int .i64 0,.int .i64 0,.slice none 0 0,.slice none 0 0,.slice none 0 0],.bool false]) (by simp [results,Tryz.results69,go_sem, *]) rfl ⟨StD.zero,false,rfl,StD.zero_good _ _,StD.zero_sm,HEF.out⟩
    have h301 : d4.n8 ≤ 300 := by rw [decide_eq_false_iff_not] at h300;omega
    obtain ⟨⟨t0,t1,t2,t3,t4,t5,t6,t7,t8,t9,t10⟩,⟨f0,f1,f2,f3,f4,f5,f6,f7,f8,f9,f10⟩,tl⟩ := cells11 HMD.out.box
    go_wp2_with fail
    refine (l06Start_c d4 w.heap.size _ HMD.out.gd HMD.out.ext.le (by exact ⟨by omega,by omega,by omega,by omega,by omega,by omega⟩)).mono ?_
    rintro e wz ⟨dz,rfl,hdz,hnz,hkz,_⟩
    have HMZ := Hh (HMD.out.row HMD.out.gd.r7 hkz (by decide) (Nat.le_refl _) hdz)
    have HNZ := Hh hnz
    clear hdz hnz hkz
    clear HMD h300
    clear t0 t1 t2 t3 t4 t5 t6 t7 t8 t9 t10 f0 f1 f2 f3 f4 f5 f6 f7 f8 f9 f10 tl
    obtain ⟨⟨t0,t1,t2,t3,t4,t5,t6,t7,t8,t9,t10⟩,⟨f0,f1,f2,f3,f4,f5,f6,f7,f8,f9,f10⟩,tl⟩ := cells11 HMZ.out.box
    go_upto_region 6 with fail
    generalize hwq : (((((((((((wz.setCell ⟨w.heap.size,0,none⟩ (.slice dz.A1 dz.n1 dz.c1)).setCell ⟨w.heap.size,1,none⟩ (.slice dz.A2 dz.n2 dz.c2)).setCell ⟨w.heap.size,2,none⟩ (.slice dz.A3 dz.n3 dz.c3)).setCell ⟨w.heap.size,3,none⟩ (.int .i64 dz.lic.A)).setCell ⟨w.heap.size,4,none⟩ (.int .i64 dz.lic.B)).setCell ⟨w.heap.size,5,none⟩ (.int .i64 dz.lic.C)).setCell ⟨w.heap.size,6,none⟩ (.int .i64 dz.dep)).setCell ⟨w.heap.size,7,none⟩ (.int .i64 dz.now)).setCell ⟨w.heap.size,8,none⟩ (.slice dz.A6 dz.n6 dz.c6)).setCell ⟨w.heap.size,9,none⟩ (.slice dz.A7 dz.n7 dz.c7)).setCell ⟨w.heap.size,10,none⟩ (.slice dz.A8 dz.n8 dz.c8)) = wf
    have hwq' : setCells wz w.heap.size 0 [.slice dz.A1 dz.n1 dz.c1,.slice dz.A2 dz.n2 dz.c2,.slice dz.A3 dz.n3 dz.c3,.int .i64 dz.lic.A,.int .i64 dz.lic.B,.int .i64 dz.lic.C,.int .i64 dz.dep,.int .i64 dz.now,.slice dz.A6 dz.n6 dz.c6,.slice dz.A7 dz.n7 dz.c7,.slice dz.A8 dz.n8 dz.c8] = wf := hwq
    have HMF := Hh (HMZ.out.put (by decide))
    rw [hwq'] at HMF
    clear hwq hwq' HMZ
    clear t0 t1 t2 t3 t4 t5 t6 t7 t8 t9 t10 f0 f1 f2 f3 f4 f5 f6 f7 f8 f9 f10 tl
    have HM5 := Hh (show dz.n1 ≤ 24 ∧ dz.n2 ≤ 24 ∧ dz.n3 ≤ 24 ∧ dz.n6 ≤ 60 ∧ dz.n7 ≤ 60 + 60 * dz.n8 ∧ dz.n8 ≤ 300 ∧ d2.n8 < dz.n8 from by obtain ⟨a1,a2,a3,a6,a7,a8⟩ := HNZ.out;exact ⟨by omega,by omega,by omega,by omega,by omega,by omega,by omega⟩)
    clear q1 q2 q3 q6 q7 q9 HNZ h301
    obtain ⟨q1,q2,q3,q6,q7,q9,q10⟩ := HM5.out
    obtain ⟨⟨t0,t1,t2,t3,t4,t5,t6,t7,t8,t9,t10⟩,⟨f0,f1,f2,f3,f4,f5,f6,f7,f8,f9,f10⟩,tl⟩ := cells11 HMF.out.box
    go_wp2_with fail
    refine (l06NextD_c dz w.heap.size _ HMF.out.gd (by exact ⟨by omega,by omega,by omega,by omega,by omega,by omega⟩)).mono ?_
    rintro e wg ⟨n2,rfl,h64,hhit,hbg⟩
    have HMG := Hh (HMF.out.mv hbg)
    have H642 := Hh h64
    have HHT2 := Hh hhit
    clear t0 t1 t2 t3 t4 t5 t6 t7 t8 t9 t10 f0 f1 f2 f3 f4 f5 f6 f7 f8 f9 f10 tl
    clear hbg HMF h64 hhit
    go_wp2
    go_roundw
    case rel => exact ⟨n2,dz,rfl,q1,q2,q3,q6,q7,q9,H642,HHT2,HMG⟩
    case measure =>
     rw [HMG.out.endLen,HE2.out]
     omega
end Go.Proofs.YtfanjhcdjbnnnaaGreat
