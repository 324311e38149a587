/- MvFin. -/
import Derived.Test.YtfanjhcdjbnnnaaGreatK32
import Derived.Test.YtfanjhcdjbnnnaaGreatK12
namespace Go.Proofs.YtfanjhcdjbnnnaaGreat
open Go.RowKit
set_option linter.unusedVariables false
set_option maxHeartbeats 16000000
set_option maxRecDepth 10000
theorem Finish2_c (d : StD) (lo : Nat) (id : Int) (w : World) (h : d.good w lo) (hsm : d.mid) (hid : In64 id) : Calls Tryz.prog 70 #[.agg #[.slice d.A1 d.n1 d.c1,.slice d.A2 d.n2 d.c2,.slice d.A3 d.n3 d.c3,.int .i64 d.lic.A,.int .i64 d.lic.B,.int .i64 d.lic.C,.int .i64 d.dep,.int .i64 d.now,.slice d.A6 d.n6 d.c6,.slice d.A7 d.n7 d.c7,.slice d.A8 d.n8 d.c8],.int .i64 id,.int .i64 2] w (RetStI w) := by
 obtain ⟨hs1,hs2,hs3,hs6,hs7,hs8⟩ := hsm
 obtain ⟨s,hst,hln,hps,hns,hup,hqq,hnw⟩ := h.state
 have hsl : stateLen s := by obtain ⟨e1,e2,e3,e6,e7,e8⟩ := hln;exact ⟨by omega,by omega,by omega,by omega,by omega,by omega⟩
 have HSO := Hh (fun (u : World) (e : Ext w u) => sStateOk_c s _ u (hst.ext e) hsl)
 have HOK := Hh (fun (hh : stateB s = true) => okd_of hln hh)
 have HCP := Hh (fun (u : World) (e : Ext w u) => l06Copy_c s _ u (hst.ext e) hsl (by rw [hnw];exact h.kn))
 have HLN := Hh hln
 have hLl : (s.Queue ++ s.Runs.map Run.Job).length ≤ 1048576 := by rw [List.length_append,List.length_map];obtain ⟨_,_,_,e6,e7,_⟩ := hln;omega
 have HAL := Hh (fun (u : World) (e : Ext w u) => l06Jobs_c s _ u (hst.ext e) hsl)
 have HMI := Hh (MvI.start1 h)
 clear hst hln hps hns hup hqq hnw h hsl
 generalize (s.Queue ++ s.Runs.map Run.Job) = L at *
 generalize stateB s = ob at *
 generalize (emptyF s).isSome = eb at *
 go_enter Tryz.func70,Tryz.ntmps70
 go_wp2_with fail
 refine (HSO.out _ (((Ext.refl w).alloc _).alloc _)).mono ?_
 rintro e w1 ⟨rfl,hb1⟩
 have HMI1 := Hh (HMI.out.mv hb1)
 clear hb1 HMI HSO
 rcases ob with _ | _
 ·skip
  obtain ⟨⟨r0,r1,r2,r3,r4,r5,r6,r7,r8,r9,r10⟩,⟨rf0,rf1,rf2,rf3,rf4,rf5,rf6,rf7,rf8,rf9,rf10⟩,rl⟩ := cells11 HMI1.out.res
  have HEF := Hh HMI1.out.fail
  go_wp2
  exact bodyPost_ret (v := .tuple #[.agg #[.slice none 0 0,.slice none 0 0,.slice none 0 0,.int .i64 0,.int .i64 0,.int .i64 0,.int .i64 0,.int .i64 0,.slice none 0 0,.slice none 0 0,.slice none 0 0],.int .i64 1]) (by simp [results,Tryz.results70,go_sem, *]) rfl ⟨StD.zero,1,rfl,StD.zero_good _ _,StD.zero_sm,HEF.out⟩
 obtain ⟨⟨⟨ok1,ok2,ok3,ok67,ok8⟩,ok23,ok32⟩,_⟩ := HOK.out rfl
 clear HOK
 obtain ⟨⟨t0,t1,t2,t3,t4,t5,t6,t7,t8,t9,t10⟩,⟨f0,f1,f2,f3,f4,f5,f6,f7,f8,f9,f10⟩,tl⟩ := cells11 HMI1.out.box
 go_wp2_with fail
 refine (l05Find_c d.q id d.A6 d.n6 d.c6 _ HMI1.out.gd.sl6 (by omega)).mono ?_
 rintro e w2 ⟨j2,wt,rfl,_,_,hb2⟩
 have HMI2 := Hh ((HMI1.out.mv hb2).mv ((Ext.refl _).alloc (.cells #[.int .i64 j2.Id,.int .i64 j2.Prio,.int .i64 j2.Nodes,.int .i64 j2.Need.A,.int .i64 j2.Need.B,.int .i64 j2.Need.C,.int .i64 j2.Lic.A,.int .i64 j2.Lic.B,.int .i64 j2.Lic.C,.int .i64 j2.Wall,.int .i64 j2.Level] 52)))
 clear t0 t1 t2 t3 t4 t5 t6 t7 t8 t9 t10 f0 f1 f2 f3 f4 f5 f6 f7 f8 f9 f10 tl
 clear hb2 HMI1
 go_upto_region 4 with fail
 generalize (w2.alloc (.cells #[.int .i64 j2.Id,.int .i64 j2.Prio,.int .i64 j2.Nodes,.int .i64 j2.Need.A,.int .i64 j2.Need.B,.int .i64 j2.Need.C,.int .i64 j2.Lic.A,.int .i64 j2.Lic.B,.int .i64 j2.Lic.C,.int .i64 j2.Wall,.int .i64 j2.Level] 52)) = w3 at *
 obtain ⟨⟨t0,t1,t2,t3,t4,t5,t6,t7,t8,t9,t10⟩,⟨f0,f1,f2,f3,f4,f5,f6,f7,f8,f9,f10⟩,tl⟩ := cells11 HMI2.out.box
 go_wp2_with fail
 refine (HAL.out _ HMI2.out.ext).mono ?_
 rintro e w4 ⟨A3,c3,rfl,hown,hok,hb4⟩
 have HMI4 := Hh (HMI2.out.mv hb4)
 have HSL := Hh (owns_sl Job.size hown hok)
 clear t0 t1 t2 t3 t4 t5 t6 t7 t8 t9 t10 f0 f1 f2 f3 f4 f5 f6 f7 f8 f9 f10 tl
 clear hown hok hb4 HMI2 HAL
 generalize L.length = m at *
 go_wp2_with fail
 refine (l05Find_c L id A3 m c3 _ HSL.out hLl).mono ?_
 rintro e w5 ⟨j4,kn,rfl,_,_,hb5⟩
 have HMI5 := Hh ((HMI4.out.mv hb5).mv ((Ext.refl _).alloc (.cells #[.int .i64 j4.Id,.int .i64 j4.Prio,.int .i64 j4.Nodes,.int .i64 j4.Need.A,.int .i64 j4.Need.B,.int .i64 j4.Need.C,.int .i64 j4.Lic.A,.int .i64 j4.Lic.B,.int .i64 j4.Lic.C,.int .i64 j4.Wall,.int .i64 j4.Level] 52)))
 clear hb5 HMI4 HSL
 go_upto_region 5 with fail
 generalize (w5.alloc (.cells #[.int .i64 j4.Id,.int .i64 j4.Prio,.int .i64 j4.Nodes,.int .i64 j4.Need.A,.int .i64 j4.Need.B,.int .i64 j4.Need.C,.int .i64 j4.Lic.A,.int .i64 j4.Lic.B,.int .i64 j4.Lic.C,.int .i64 j4.Wall,.int .i64 j4.Level] 52)) = w6 at *
 rcases kn with _ | _
 ·skip
  obtain ⟨⟨r0,r1,r2,r3,r4,r5,r6,r7,r8,r9,r10⟩,⟨rf0,rf1,rf2,rf3,rf4,rf5,rf6,rf7,rf8,rf9,rf10⟩,rl⟩ := cells11 HMI5.out.res
  have HEF := Hh HMI5.out.fail
  go_wp2
  exact bodyPost_ret (v := .tuple #[.agg #[.slice none 0 0,.slice none 0 0,.slice none 0 0,.int .i64 0,.int .i64 0,.int .i64 0,.int .i64 0,.int .i64 0,.slice none 0 0,.slice none 0 0,.slice none 0 0],.int .i64 5]) (by simp [results,Tryz.results70,go_sem, *]) rfl ⟨StD.zero,5,rfl,StD.zero_good _ _,StD.zero_sm,HEF.out⟩
 rcases wt with _ | _
 rotate_left
 ·skip
  obtain ⟨⟨r0,r1,r2,r3,r4,r5,r6,r7,r8,r9,r10⟩,⟨rf0,rf1,rf2,rf3,rf4,rf5,rf6,rf7,rf8,rf9,rf10⟩,rl⟩ := cells11 HMI5.out.res
  have HEF := Hh HMI5.out.fail
  go_wp2
  exact bodyPost_ret (v := .tuple #[.agg #[.slice none 0 0,.slice none 0 0,.slice none 0 0,.int .i64 0,.int .i64 0,.int .i64 0,.int .i64 0,.int .i64 0,.slice none 0 0,.slice none 0 0,.slice none 0 0],.int .i64 5]) (by simp [results,Tryz.results70,go_sem, *]) rfl ⟨StD.zero,5,rfl,StD.zero_good _ _,StD.zero_sm,HEF.out⟩
 rcases (Bool.eq_false_or_eq_true (decide ((300 : Int) ≤ (d.n8 : Int)))) with h300 | h300
 ·obtain ⟨⟨t0,t1,t2,t3,t4,t5,t6,t7,t8,t9,t10⟩,⟨f0,f1,f2,f3,f4,f5,f6,f7,f8,f9,f10⟩,tl⟩ := cells11 HMI5.out.box
  obtain ⟨⟨r0,r1,r2,r3,r4,r5,r6,r7,r8,r9,r10⟩,⟨rf0,rf1,rf2,rf3,rf4,rf5,rf6,rf7,rf8,rf9,rf10⟩,rl⟩ := cells11 HMI5.out.res
  have HEF := Hh HMI5.out.fail
  go_wp2
  exact bodyPost_ret (v := .tuple #[.agg #[.slice none 0 0,.slice none 0 0,.slice none 0 0,.int .i64 0,.int .i64 0,.int .i64 0,.int .i64 0,.int .i64 0,.slice none 0 0,.slice none 0 0,.slice none 0 0],.int .i64 6]) (by simp [results,Tryz.results70,go_sem, *]) rfl ⟨StD.zero,6,rfl,StD.zero_good _ _,StD.zero_sm,HEF.out⟩
 obtain ⟨⟨t0,t1,t2,t3,t4,t5,t6,t7,t8,t9,t10⟩,⟨f0,f1,f2,f3,f4,f5,f6,f7,f8,f9,f10⟩,tl⟩ := cells11 HMI5.out.box
 go_wp2_with fail
 refine (HCP.out _ HMI5.out.ext).mono ?_
 rintro e w7 ⟨d1,rfl,hd1,hn1,hb7⟩
 have HMC := Hh (HMI5.out.copy hb7 hd1)
 have HN1 := Hh hn1
 clear hb7 hd1 hn1 HMI5 HCP h300
 clear t0 t1 t2 t3 t4 t5 t6 t7 t8 t9 t10 f0 f1 f2 f3 f4 f5 f6 f7 f8 f9 f10 tl
 obtain ⟨⟨t0,t1,t2,t3,t4,t5,t6,t7,t8,t9,t10⟩,⟨f0,f1,f2,f3,f4,f5,f6,f7,f8,f9,f10⟩,tl⟩ := cells11 HMC.out.box
 go_upto_region 10 with fail
 generalize hwq : (((((((((((w7.setCell ⟨w.heap.size,0,none⟩ (.slice d1.A1 d1.n1 d1.c1)).setCell ⟨w.heap.size,1,none⟩ (.slice d1.A2 d1.n2 d1.c2)).setCell ⟨w.heap.size,2,none⟩ (.slice d1.A3 d1.n3 d1.c3)).setCell ⟨w.heap.size,3,none⟩ (.int .i64 d1.lic.A)).setCell ⟨w.heap.size,4,none⟩ (.int .i64 d1.lic.B)).setCell ⟨w.heap.size,5,none⟩ (.int .i64 d1.lic.C)).setCell ⟨w.heap.size,6,none⟩ (.int .i64 d1.dep)).setCell ⟨w.heap.size,7,none⟩ (.int .i64 d1.now)).setCell ⟨w.heap.size,8,none⟩ (.slice d1.A6 d1.n6 d1.c6)).setCell ⟨w.heap.size,9,none⟩ (.slice d1.A7 d1.n7 d1.c7)).setCell ⟨w.heap.size,10,none⟩ (.slice d1.A8 d1.n8 d1.c8)) = w8
 have hwq' : setCells w7 w.heap.size 0 [.slice d1.A1 d1.n1 d1.c1,.slice d1.A2 d1.n2 d1.c2,.slice d1.A3 d1.n3 d1.c3,.int .i64 d1.lic.A,.int .i64 d1.lic.B,.int .i64 d1.lic.C,.int .i64 d1.dep,.int .i64 d1.now,.slice d1.A6 d1.n6 d1.c6,.slice d1.A7 d1.n7 d1.c7,.slice d1.A8 d1.n8 d1.c8] = w8 := hwq
 have HMI8 := Hh (HMC.out.put (by decide))
 rw [hwq'] at HMI8
 clear hwq hwq' HMC
 clear t0 t1 t2 t3 t4 t5 t6 t7 t8 t9 t10 f0 f1 f2 f3 f4 f5 f6 f7 f8 f9 f10 tl
 have HM1 := Hh (show d1.n1 ≤ 24 ∧ d1.n2 ≤ 24 ∧ d1.n3 ≤ 24 ∧ d1.n6 + d1.n7 ≤ 60 ∧ d1.n8 ≤ 300 from by obtain ⟨a1,a2,a3,a6,a7,a8⟩ := HN1.out;obtain ⟨b1,b2,b3,b6,b7,b8⟩ := HLN.out;exact ⟨by omega,by omega,by omega,by omega,by omega⟩)
 obtain ⟨q1,q2,q3,q67,q8⟩ := HM1.out
 clear HM1
 obtain ⟨⟨t0,t1,t2,t3,t4,t5,t6,t7,t8,t9,t10⟩,⟨f0,f1,f2,f3,f4,f5,f6,f7,f8,f9,f10⟩,tl⟩ := cells11 HMI8.out.box
 go_wp2_with fail
 refine (l06Drop_c d1 w.heap.size 2 id (-1) _ HMI8.out.gd HMI8.out.ext.le (by exact ⟨by omega,by omega,by omega,by omega,by omega,by omega⟩) (by unfold In64;omega)).mono ?_
 rintro e wd ⟨dd,rfl,hdd,hnd,hkd⟩
 have HMD := Hh (HMI8.out.row HMI8.out.gd.r8 hkd (by decide) (Nat.le_refl _) hdd)
 have HND := Hh (show dd.n1 ≤ 24 ∧ dd.n2 ≤ 24 ∧ dd.n3 ≤ 24 ∧ dd.n6 ≤ 60 ∧ dd.n7 ≤ 60 ∧ dd.n8 ≤ 400 from by obtain ⟨a1,a2,a3,a6,a7,a8⟩ := hnd;exact ⟨by omega,by omega,by omega,by omega,by omega,by omega⟩)
 clear hdd hnd hkd HMI8
 clear t0 t1 t2 t3 t4 t5 t6 t7 t8 t9 t10 f0 f1 f2 f3 f4 f5 f6 f7 f8 f9 f10 tl
 obtain ⟨⟨t0,t1,t2,t3,t4,t5,t6,t7,t8,t9,t10⟩,⟨f0,f1,f2,f3,f4,f5,f6,f7,f8,f9,f10⟩,tl⟩ := cells11 HMD.out.box
 go_upto_region 14 with fail
 generalize hwq : (((((((((((wd.setCell ⟨w.heap.size,0,none⟩ (.slice dd.A1 dd.n1 dd.c1)).setCell ⟨w.heap.size,1,none⟩ (.slice dd.A2 dd.n2 dd.c2)).setCell ⟨w.heap.size,2,none⟩ (.slice dd.A3 dd.n3 dd.c3)).setCell ⟨w.heap.size,3,none⟩ (.int .i64 dd.lic.A)).setCell ⟨w.heap.size,4,none⟩ (.int .i64 dd.lic.B)).setCell ⟨w.heap.size,5,none⟩ (.int .i64 dd.lic.C)).setCell ⟨w.heap.size,6,none⟩ (.int .i64 dd.dep)).setCell ⟨w.heap.size,7,none⟩ (.int .i64 dd.now)).setCell ⟨w.heap.size,8,none⟩ (.slice dd.A6 dd.n6 dd.c6)).setCell ⟨w.heap.size,9,none⟩ (.slice dd.A7 dd.n7 dd.c7)).setCell ⟨w.heap.size,10,none⟩ (.slice dd.A8 dd.n8 dd.c8)) = we
 have hwq' : setCells wd w.heap.size 0 [.slice dd.A1 dd.n1 dd.c1,.slice dd.A2 dd.n2 dd.c2,.slice dd.A3 dd.n3 dd.c3,.int .i64 dd.lic.A,.int .i64 dd.lic.B,.int .i64 dd.lic.C,.int .i64 dd.dep,.int .i64 dd.now,.slice dd.A6 dd.n6 dd.c6,.slice dd.A7 dd.n7 dd.c7,.slice dd.A8 dd.n8 dd.c8] = we := hwq
 have HME := Hh (HMD.out.put (by decide))
 rw [hwq'] at HME
 clear hwq hwq' HMD
 clear t0 t1 t2 t3 t4 t5 t6 t7 t8 t9 t10 f0 f1 f2 f3 f4 f5 f6 f7 f8 f9 f10 tl
 clear q1 q2 q3 q67 q8
 obtain ⟨q1,q2,q3,q6,q7,q8⟩ := HND.out
 obtain ⟨⟨t0,t1,t2,t3,t4,t5,t6,t7,t8,t9,t10⟩,⟨f0,f1,f2,f3,f4,f5,f6,f7,f8,f9,f10⟩,tl⟩ := cells11 HME.out.box
 go_wp2_with fail
 refine (l06Start_c dd w.heap.size _ HME.out.gd HME.out.ext.le (by exact ⟨by omega,by omega,by omega,by omega,by omega,by omega⟩)).mono ?_
 rintro e wz ⟨dz,rfl,hdz,hnz,hkz,_⟩
 have HMZ := Hh (HME.out.row HME.out.gd.r7 hkz (by decide) (Nat.le_refl _) hdz)
 have HNZ := Hh hnz
 clear hdz hnz hkz
 clear t0 t1 t2 t3 t4 t5 t6 t7 t8 t9 t10 f0 f1 f2 f3 f4 f5 f6 f7 f8 f9 f10 tl
 obtain ⟨⟨r0,r1,r2,r3,r4,r5,r6,r7,r8,r9,r10⟩,⟨rf0,rf1,rf2,rf3,rf4,rf5,rf6,rf7,rf8,rf9,rf10⟩,rl⟩ := cells11 HMZ.out.res
 have HSZ := Hh (show dz.sm from by obtain ⟨e1,e2,e3,e6,e7,e8⟩ := HNZ.out;exact ⟨by omega,by omega,by omega,by omega,by omega,by omega⟩)
 have HFZ := Hh HMZ.out.fin
 clear HMZ
 go_wp2
 exact bodyPost_ret (v := .tuple #[.agg #[.slice dz.A1 dz.n1 dz.c1,.slice dz.A2 dz.n2 dz.c2,.slice dz.A3 dz.n3 dz.c3,.int .i64 dz.lic.A,.int .i64 dz.lic.B,.int .i64 dz.lic.C,.int .i64 dz.dep,.int .i64 dz.now,.slice dz.A6 dz.n6 dz.c6,.slice dz.A7 dz.n7 dz.c7,.slice dz.A8 dz.n8 dz.c8],.int .i64 0]) (by simp [results,Tryz.results70,go_sem, *]) rfl ⟨dz,0,rfl,HFZ.out.1,HSZ.out,HFZ.out.2⟩
theorem Finish3_c (d : StD) (lo : Nat) (id : Int) (w : World) (h : d.good w lo) (hsm : d.mid) (hid : In64 id) : Calls Tryz.prog 70 #[.agg #[.slice d.A1 d.n1 d.c1,.slice d.A2 d.n2 d.c2,.slice d.A3 d.n3 d.c3,.int .i64 d.lic.A,.int .i64 d.lic.B,.int .i64 d.lic.C,.int .i64 d.dep,.int .i64 d.now,.slice d.A6 d.n6 d.c6,.slice d.A7 d.n7 d.c7,.slice d.A8 d.n8 d.c8],.int .i64 id,.int .i64 3] w (RetStI w) := by
 obtain ⟨iE,hiE,hE0,hE1,hE2⟩ := info_parts CEnd.info
 obtain ⟨hs1,hs2,hs3,hs6,hs7,hs8⟩ := hsm
 obtain ⟨s,hst,hln,hps,hns,hup,hqq,hnw⟩ := h.state
 have hsl : stateLen s := by obtain ⟨e1,e2,e3,e6,e7,e8⟩ := hln;exact ⟨by omega,by omega,by omega,by omega,by omega,by omega⟩
 have HSO := Hh (fun (u : World) (e : Ext w u) => sStateOk_c s _ u (hst.ext e) hsl)
 have HOK := Hh (fun (hh : stateB s = true) => okd_of hln hh)
 have HCP := Hh (fun (u : World) (e : Ext w u) => l06Copy_c s _ u (hst.ext e) hsl (by rw [hnw];exact h.kn))
 have HLN := Hh hln
 have hLl : (s.Queue ++ s.Runs.map Run.Job).length ≤ 1048576 := by rw [List.length_append,List.length_map];obtain ⟨_,_,_,e6,e7,_⟩ := hln;omega
 have HAL := Hh (fun (u : World) (e : Ext w u) => l06Jobs_c s _ u (hst.ext e) hsl)
 have HMI := Hh (MvI.start1 h)
 clear hst hln hps hns hup hqq hnw h hsl
 generalize (s.Queue ++ s.Runs.map Run.Job) = L at *
 generalize stateB s = ob at *
 generalize (emptyF s).isSome = eb at *
 go_enter Tryz.func70,Tryz.ntmps70
 go_wp2_with fail
 refine (HSO.out _ (((Ext.refl w).alloc _).alloc _)).mono ?_
 rintro e w1 ⟨rfl,hb1⟩
 have HMI1 := Hh (HMI.out.mv hb1)
 clear hb1 HMI HSO
 rcases ob with _ | _
 ·skip
  obtain ⟨⟨r0,r1,r2,r3,r4,r5,r6,r7,r8,r9,r10⟩,⟨rf0,rf1,rf2,rf3,rf4,rf5,rf6,rf7,rf8,rf9,rf10⟩,rl⟩ := cells11 HMI1.out.res
  have HEF := Hh HMI1.out.fail
  go_wp2
  exact bodyPost_ret (v := .tuple #[.agg #[.slice none 0 0,.slice none 0 0,.slice none 0 0,.int .i64 0,.int .i64 0,.int .i64 0,.int .i64 0,.int .i64 0,.slice none 0 0,.slice none 0 0,.slice none 0 0],.int .i64 1]) (by simp [results,Tryz.results70,go_sem, *]) rfl ⟨StD.zero,1,rfl,StD.zero_good _ _,StD.zero_sm,HEF.out⟩
 obtain ⟨⟨⟨ok1,ok2,ok3,ok67,ok8⟩,ok23,ok32⟩,_⟩ := HOK.out rfl
 clear HOK
 obtain ⟨⟨t0,t1,t2,t3,t4,t5,t6,t7,t8,t9,t10⟩,⟨f0,f1,f2,f3,f4,f5,f6,f7,f8,f9,f10⟩,tl⟩ := cells11 HMI1.out.box
 go_wp2_with fail
 refine (l05Find_c d.q id d.A6 d.n6 d.c6 _ HMI1.out.gd.sl6 (by omega)).mono ?_
 rintro e w2 ⟨j2,wt,rfl,_,_,hb2⟩
 have HMI2 := Hh ((HMI1.out.mv hb2).mv ((Ext.refl _).alloc (.cells #[.int .i64 j2.Id,.int .i64 j2.Prio,.int .i64 j2.Nodes,.int .i64 j2.Need.A,.int .i64 j2.Need.B,.int .i64 j2.Need.C,.int .i64 j2.Lic.A,.int .i64 j2.Lic.B,.int .i64 j2.Lic.C,.int .i64 j2.Wall,.int .i64 j2.Level] 52)))
 clear t0 t1 t2 t3 t4 t5 t6 t7 t8 t9 t10 f0 f1 f2 f3 f4 f5 f6 f7 f8 f9 f10 tl
 clear hb2 HMI1
 go_upto_region 4 with fail
 generalize (w2.alloc (.cells #[.int .i64 j2.Id,.int .i64 j2.Prio,.int .i64 j2.Nodes,.int .i64 j2.Need.A,.int .i64 j2.Need.B,.int .i64 j2.Need.C,.int .i64 j2.Lic.A,.int .i64 j2.Lic.B,.int .i64 j2.Lic.C,.int .i64 j2.Wall,.int .i64 j2.Level] 52)) = w3 at *
 obtain ⟨⟨t0,t1,t2,t3,t4,t5,t6,t7,t8,t9,t10⟩,⟨f0,f1,f2,f3,f4,f5,f6,f7,f8,f9,f10⟩,tl⟩ := cells11 HMI2.out.box
 go_wp2_with fail
 refine (HAL.out _ HMI2.out.ext).mono ?_
 rintro e w4 ⟨A3,c3,rfl,hown,hok,hb4⟩
 have HMI4 := Hh (HMI2.out.mv hb4)
 have HSL := Hh (owns_sl Job.size hown hok)
 clear t0 t1 t2 t3 t4 t5 t6 t7 t8 t9 t10 f0 f1 f2 f3 f4 f5 f6 f7 f8 f9 f10 tl
 clear hown hok hb4 HMI2 HAL
 generalize L.length = m at *
 go_wp2_with fail
 refine (l05Find_c L id A3 m c3 _ HSL.out hLl).mono ?_
 rintro e w5 ⟨j4,kn,rfl,_,_,hb5⟩
 have HMI5 := Hh ((HMI4.out.mv hb5).mv ((Ext.refl _).alloc (.cells #[.int .i64 j4.Id,.int .i64 j4.Prio,.int .i64 j4.Nodes,.int .i64 j4.Need.A,.int .i64 j4.Need.B,.int .i64 j4.Need.C,.int .i64 j4.Lic.A,.int .i64 j4.Lic.B,.int .i64 j4.Lic.C,.int .i64 j4.Wall,.int .i64 j4.Level] 52)))
 clear hb5 HMI4 HSL
 go_upto_region 5 with fail
 generalize (w5.alloc (.cells #[.int .i64 j4.Id,.int .i64 j4.Prio,.int .i64 j4.Nodes,.int .i64 j4.Need.A,.int .i64 j4.Need.B,.int .i64 j4.Need.C,.int .i64 j4.Lic.A,.int .i64 j4.Lic.B,.int .i64 j4.Lic.C,.int .i64 j4.Wall,.int .i64 j4.Level] 52)) = w6 at *
 rcases kn with _ | _
 ·skip
  obtain ⟨⟨r0,r1,r2,r3,r4,r5,r6,r7,r8,r9,r10⟩,⟨rf0,rf1,rf2,rf3,rf4,rf5,rf6,rf7,rf8,rf9,rf10⟩,rl⟩ := cells11 HMI5.out.res
  have HEF := Hh HMI5.out.fail
  go_wp2
  exact bodyPost_ret (v := .tuple #[.agg #[.slice none 0 0,.slice none 0 0,.slice none 0 0,.int .i64 0,.int .i64 0,.int .i64 0,.int .i64 0,.int .i64 0,.slice none 0 0,.slice none 0 0,.slice none 0 0],.int .i64 5]) (by simp [results,Tryz.results70,go_sem, *]) rfl ⟨StD.zero,5,rfl,StD.zero_good _ _,StD.zero_sm,HEF.out⟩
 rcases wt with _ | _
 ·skip
  rcases (Bool.eq_false_or_eq_true (decide ((300 : Int) ≤ (d.n8 : Int)))) with h300 | h300
  ·obtain ⟨⟨t0,t1,t2,t3,t4,t5,t6,t7,t8,t9,t10⟩,⟨f0,f1,f2,f3,f4,f5,f6,f7,f8,f9,f10⟩,tl⟩ := cells11 HMI5.out.box
   obtain ⟨⟨r0,r1,r2,r3,r4,r5,r6,r7,r8,r9,r10⟩,⟨rf0,rf1,rf2,rf3,rf4,rf5,rf6,rf7,rf8,rf9,rf10⟩,rl⟩ := cells11 HMI5.out.res
   have HEF := Hh HMI5.out.fail
   go_wp2
   exact bodyPost_ret (v := .tuple #[.agg #[.slice none 0 0,.slice none 0 0,.slice none 0 0,.int .i64 0,.int .i64 0,.int .i64 0,.int .i64 0,.int .i64 0,.slice none 0 0,.slice none 0 0,.slice none 0 0],.int .i64 6]) (by simp [results,Tryz.results70,go_sem, *]) rfl ⟨StD.zero,6,rfl,StD.zero_good _ _,StD.zero_sm,HEF.out⟩
  obtain ⟨⟨t0,t1,t2,t3,t4,t5,t6,t7,t8,t9,t10⟩,⟨f0,f1,f2,f3,f4,f5,f6,f7,f8,f9,f10⟩,tl⟩ := cells11 HMI5.out.box
  go_wp2_with fail
  refine (HCP.out _ HMI5.out.ext).mono ?_
  rintro e w7 ⟨d1,rfl,hd1,hn1,hb7⟩
  have HMC := Hh (HMI5.out.copy hb7 hd1)
  have HN1 := Hh hn1
  clear hb7 hd1 hn1 HMI5 HCP h300
  clear t0 t1 t2 t3 t4 t5 t6 t7 t8 t9 t10 f0 f1 f2 f3 f4 f5 f6 f7 f8 f9 f10 tl
  obtain ⟨⟨t0,t1,t2,t3,t4,t5,t6,t7,t8,t9,t10⟩,⟨f0,f1,f2,f3,f4,f5,f6,f7,f8,f9,f10⟩,tl⟩ := cells11 HMC.out.box
  go_upto_region 10 with fail
  generalize hwq : (((((((((((w7.setCell ⟨w.heap.size,0,none⟩ (.slice d1.A1 d1.n1 d1.c1)).setCell ⟨w.heap.size,1,none⟩ (.slice d1.A2 d1.n2 d1.c2)).setCell ⟨w.heap.size,2,none⟩ (.slice d1.A3 d1.n3 d1.c3)).setCell ⟨w.heap.size,3,none⟩ (.int .i64 d1.lic.A)).setCell ⟨w.heap.size,4,none⟩ (.int .i64 d1.lic.B)).setCell ⟨w.heap.size,5,none⟩ (.int .i64 d1.lic.C)).setCell ⟨w.heap.size,6,none⟩ (.int .i64 d1.dep)).setCell ⟨w.heap.size,7,none⟩ (.int .i64 d1.now)).setCell ⟨w.heap.size,8,none⟩ (.slice d1.A6 d1.n6 d1.c6)).setCell ⟨w.heap.size,9,none⟩ (.slice d1.A7 d1.n7 d1.c7)).setCell ⟨w.heap.size,10,none⟩ (.slice d1.A8 d1.n8 d1.c8)) = w8
  have hwq' : setCells w7 w.heap.size 0 [.slice d1.A1 d1.n1 d1.c1,.slice d1.A2 d1.n2 d1.c2,.slice d1.A3 d1.n3 d1.c3,.int .i64 d1.lic.A,.int .i64 d1.lic.B,.int .i64 d1.lic.C,.int .i64 d1.dep,.int .i64 d1.now,.slice d1.A6 d1.n6 d1.c6,.slice d1.A7 d1.n7 d1.c7,.slice d1.A8 d1.n8 d1.c8] = w8 := hwq
  have HMI8 := Hh (HMC.out.put (by decide))
  rw [hwq'] at HMI8
  clear hwq hwq' HMC
  clear t0 t1 t2 t3 t4 t5 t6 t7 t8 t9 t10 f0 f1 f2 f3 f4 f5 f6 f7 f8 f9 f10 tl
  have HM1 := Hh (show d1.n1 ≤ 24 ∧ d1.n2 ≤ 24 ∧ d1.n3 ≤ 24 ∧ d1.n6 + d1.n7 ≤ 60 ∧ d1.n8 ≤ 300 from by obtain ⟨a1,a2,a3,a6,a7,a8⟩ := HN1.out;obtain ⟨b1,b2,b3,b6,b7,b8⟩ := HLN.out;exact ⟨by omega,by omega,by omega,by omega,by omega⟩)
  obtain ⟨q1,q2,q3,q67,q8⟩ := HM1.out
  clear HM1
  obtain ⟨⟨t0,t1,t2,t3,t4,t5,t6,t7,t8,t9,t10⟩,⟨f0,f1,f2,f3,f4,f5,f6,f7,f8,f9,f10⟩,tl⟩ := cells11 HMI8.out.box
  go_wp2_with fail
  refine (l06Drop_c d1 w.heap.size 3 id (-1) _ HMI8.out.gd HMI8.out.ext.le (by exact ⟨by omega,by omega,by omega,by omega,by omega,by omega⟩) (by unfold In64;omega)).mono ?_
  rintro e wd ⟨dd,rfl,hdd,hnd,hkd⟩
  have HMD := Hh (HMI8.out.row HMI8.out.gd.r8 hkd (by decide) (Nat.le_refl _) hdd)
  have HND := Hh (show dd.n1 ≤ 24 ∧ dd.n2 ≤ 24 ∧ dd.n3 ≤ 24 ∧ dd.n6 ≤ 60 ∧ dd.n7 ≤ 60 ∧ dd.n8 ≤ 400 from by obtain ⟨a1,a2,a3,a6,a7,a8⟩ := hnd;exact ⟨by omega,by omega,by omega,by omega,by omega,by omega⟩)
  clear hdd hnd hkd HMI8
  clear t0 t1 t2 t3 t4 t5 t6 t7 t8 t9 t10 f0 f1 f2 f3 f4 f5 f6 f7 f8 f9 f10 tl
  obtain ⟨⟨t0,t1,t2,t3,t4,t5,t6,t7,t8,t9,t10⟩,⟨f0,f1,f2,f3,f4,f5,f6,f7,f8,f9,f10⟩,tl⟩ := cells11 HMD.out.box
  go_upto_region 14 with fail
  generalize hwq : (((((((((((wd.setCell ⟨w.heap.size,0,none⟩ (.slice dd.A1 dd.n1 dd.c1)).setCell ⟨w.heap.size,1,none⟩ (.slice dd.A2 dd.n2 dd.c2)).setCell ⟨w.heap.size,2,none⟩ (.slice dd.A3 dd.n3 dd.c3)).setCell ⟨w.heap.size,3,none⟩ (.int .i64 dd.lic.A)).setCell ⟨w.heap.size,4,none⟩ (.int .i64 dd.lic.B)).setCell ⟨w.heap.size,5,none⟩ (.int .i64 dd.lic.C)).setCell ⟨w.heap.size,6,none⟩ (.int .i64 dd.dep)).setCell ⟨w.heap.size,7,none⟩ (.int .i64 dd.now)).setCell ⟨w.heap.size,8,none⟩ (.slice dd.A6 dd.n6 dd.c6)).setCell ⟨w.heap.size,9,none⟩ (.slice dd.A7 dd.n7 dd.c7)).setCell ⟨w.heap.size,10,none⟩ (.slice dd.A8 dd.n8 dd.c8)) = we
  have hwq' : setCells wd w.heap.size 0 [.slice dd.A1 dd.n1 dd.c1,.slice dd.A2 dd.n2 dd.c2,.slice dd.A3 dd.n3 dd.c3,.int .i64 dd.lic.A,.int .i64 dd.lic.B,.int .i64 dd.lic.C,.int .i64 dd.dep,.int .i64 dd.now,.slice dd.A6 dd.n6 dd.c6,.slice dd.A7 dd.n7 dd.c7,.slice dd.A8 dd.n8 dd.c8] = we := hwq
  have HME := Hh (HMD.out.put (by decide))
  rw [hwq'] at HME
  clear hwq hwq' HMD
  clear t0 t1 t2 t3 t4 t5 t6 t7 t8 t9 t10 f0 f1 f2 f3 f4 f5 f6 f7 f8 f9 f10 tl
  clear q1 q2 q3 q67 q8
  obtain ⟨q1,q2,q3,q6,q7,q8⟩ := HND.out
  obtain ⟨⟨t0,t1,t2,t3,t4,t5,t6,t7,t8,t9,t10⟩,⟨f0,f1,f2,f3,f4,f5,f6,f7,f8,f9,f10⟩,tl⟩ := cells11 HME.out.box
  go_wp2_with fail
  refine (l06Start_c dd w.heap.size _ HME.out.gd HME.out.ext.le (by exact ⟨by omega,by omega,by omega,by omega,by omega,by omega⟩)).mono ?_
  rintro e wz ⟨dz,rfl,hdz,hnz,hkz,_⟩
  have HMZ := Hh (HME.out.row HME.out.gd.r7 hkz (by decide) (Nat.le_refl _) hdz)
  have HNZ := Hh hnz
  clear hdz hnz hkz
  clear t0 t1 t2 t3 t4 t5 t6 t7 t8 t9 t10 f0 f1 f2 f3 f4 f5 f6 f7 f8 f9 f10 tl
  obtain ⟨⟨r0,r1,r2,r3,r4,r5,r6,r7,r8,r9,r10⟩,⟨rf0,rf1,rf2,rf3,rf4,rf5,rf6,rf7,rf8,rf9,rf10⟩,rl⟩ := cells11 HMZ.out.res
  have HSZ := Hh (show dz.sm from by obtain ⟨e1,e2,e3,e6,e7,e8⟩ := HNZ.out;exact ⟨by omega,by omega,by omega,by omega,by omega,by omega⟩)
  have HFZ := Hh HMZ.out.fin
  clear HMZ
  go_wp2
  exact bodyPost_ret (v := .tuple #[.agg #[.slice dz.A1 dz.n1 dz.c1,.slice dz.A2 dz.n2 dz.c2,.slice dz.A3 dz.n3 dz.c3,.int .i64 dz.lic.A,.int .i64 dz.lic.B,.int .i64 dz.lic.C,.int .i64 dz.dep,.int .i64 dz.now,.slice dz.A6 dz.n6 dz.c6,.slice dz.A7 dz.n7 dz.c7,.slice dz.A8 dz.n8 dz.c8],.int .i64 0]) (by simp [results,Tryz.results70,go_sem, *]) rfl ⟨dz,0,rfl,HFZ.out.1,HSZ.out,HFZ.out.2⟩
 ·skip
  rcases (Bool.eq_false_or_eq_true (decide ((300 : Int) ≤ (d.n8 : Int)))) with h300 | h300
  ·obtain ⟨⟨t0,t1,t2,t3,t4,t5,t6,t7,t8,t9,t10⟩,⟨f0,f1,f2,f3,f4,f5,f6,f7,f8,f9,f10⟩,tl⟩ := cells11 HMI5.out.box
   obtain ⟨⟨r0,r1,r2,r3,r4,r5,r6,r7,r8,r9,r10⟩,⟨rf0,rf1,rf2,rf3,rf4,rf5,rf6,rf7,rf8,rf9,rf10⟩,rl⟩ := cells11 HMI5.out.res
   have HEF := Hh HMI5.out.fail
   go_wp2
   exact bodyPost_ret (v := .tuple #[.agg #[.slice none 0 0,.slice none 0 0,.slice none 0 0,.int .i64 0,.int .i64 0,.int .i64 0,.int .i64 0,.int .i64 0,.slice none 0 0,.slice none 0 0,.slice none 0 0],.int .i64 6]) (by simp [results,Tryz.results70,go_sem, *]) rfl ⟨StD.zero,6,rfl,StD.zero_good _ _,StD.zero_sm,HEF.out⟩
  obtain ⟨⟨t0,t1,t2,t3,t4,t5,t6,t7,t8,t9,t10⟩,⟨f0,f1,f2,f3,f4,f5,f6,f7,f8,f9,f10⟩,tl⟩ := cells11 HMI5.out.box
  go_wp2_with fail
  refine (HCP.out _ HMI5.out.ext).mono ?_
  rintro e w7 ⟨d1,rfl,hd1,hn1,hb7⟩
  have HMC := Hh (HMI5.out.copy hb7 hd1)
  have HN1 := Hh hn1
  clear hb7 hd1 hn1 HMI5 HCP h300
  clear t0 t1 t2 t3 t4 t5 t6 t7 t8 t9 t10 f0 f1 f2 f3 f4 f5 f6 f7 f8 f9 f10 tl
  obtain ⟨⟨t0,t1,t2,t3,t4,t5,t6,t7,t8,t9,t10⟩,⟨f0,f1,f2,f3,f4,f5,f6,f7,f8,f9,f10⟩,tl⟩ := cells11 HMC.out.box
  go_upto_region 10 with fail
  generalize hwq : (((((((((((w7.setCell ⟨w.heap.size,0,none⟩ (.slice d1.A1 d1.n1 d1.c1)).setCell ⟨w.heap.size,1,none⟩ (.slice d1.A2 d1.n2 d1.c2)).setCell ⟨w.heap.size,2,none⟩ (.slice d1.A3 d1.n3 d1.c3)).setCell ⟨w.heap.size,3,none⟩ (.int .i64 d1.lic.A)).setCell ⟨w.heap.size,4,none⟩ (.int .i64 d1.lic.B)).setCell ⟨w.heap.size,5,none⟩ (.int .i64 d1.lic.C)).setCell ⟨w.heap.size,6,none⟩ (.int .i64 d1.dep)).setCell ⟨w.heap.size,7,none⟩ (.int .i64 d1.now)).setCell ⟨w.heap.size,8,none⟩ (.slice d1.A6 d1.n6 d1.c6)).setCell ⟨w.heap.size,9,none⟩ (.slice d1.A7 d1.n7 d1.c7)).setCell ⟨w.heap.size,10,none⟩ (.slice d1.A8 d1.n8 d1.c8)) = w8
  have hwq' : setCells w7 w.heap.size 0 [.slice d1.A1 d1.n1 d1.c1,.slice d1.A2 d1.n2 d1.c2,.slice d1.A3 d1.n3 d1.c3,.int .i64 d1.lic.A,.int .i64 d1.lic.B,.int .i64 d1.lic.C,.int .i64 d1.dep,.int .i64 d1.now,.slice d1.A6 d1.n6 d1.c6,.slice d1.A7 d1.n7 d1.c7,.slice d1.A8 d1.n8 d1.c8] = w8 := hwq
  have HMI8 := Hh (HMC.out.put (by decide))
  rw [hwq'] at HMI8
  clear hwq hwq' HMC
  clear t0 t1 t2 t3 t4 t5 t6 t7 t8 t9 t10 f0 f1 f2 f3 f4 f5 f6 f7 f8 f9 f10 tl
  have HM1 := Hh (show d1.n1 ≤ 24 ∧ d1.n2 ≤ 24 ∧ d1.n3 ≤ 24 ∧ d1.n6 + d1.n7 ≤ 60 ∧ d1.n8 ≤ 300 from by obtain ⟨a1,a2,a3,a6,a7,a8⟩ := HN1.out;obtain ⟨b1,b2,b3,b6,b7,b8⟩ := HLN.out;exact ⟨by omega,by omega,by omega,by omega,by omega⟩)
  obtain ⟨q1,q2,q3,q67,q8⟩ := HM1.out
  clear HM1
  obtain ⟨⟨t0,t1,t2,t3,t4,t5,t6,t7,t8,t9,t10⟩,⟨f0,f1,f2,f3,f4,f5,f6,f7,f8,f9,f10⟩,tl⟩ := cells11 HMI8.out.box
  have hle8 := HMI8.out.ext.le
  go_wp2_with fail
  refine (l06Out_c d1.q id d1.A6 d1.n6 d1.c6 _ HMI8.out.gd.sl6 (by omega)).mono ?_
  rintro e w9 ⟨A9,n9,c9,l9,rfl,hl9,hor,hlq,hn9,hb9⟩
  have HQ9 := Hh (show (d1.withQ l9 A9 n9 c9).good w9 w.heap.size from (HMI8.out.gd.ext hb9).queue hl9 (owns_base hor hle8) (fun z hz => HMI8.out.gd.k6 z (hlq z hz)))
  have HMQ := Hh (show MvI w w9 1 w.heap.size d1 (d1.withQ l9 A9 n9 c9) from ⟨(HMI8.out.mv hb9).box,(HMI8.out.mv hb9).res,HQ9.out,(HMI8.out.mv hb9).ext⟩)
  have HMT := Hh (HMQ.out.tell (by decide) (p := 8) (x := .slice A9 n9 c9) rfl)
  clear t0 t1 t2 t3 t4 t5 t6 t7 t8 t9 t10 f0 f1 f2 f3 f4 f5 f6 f7 f8 f9 f10 tl
  clear hl9 hor hlq hb9 HMI8 HQ9
  obtain ⟨⟨t0,t1,t2,t3,t4,t5,t6,t7,t8,t9,t10⟩,⟨f0,f1,f2,f3,f4,f5,f6,f7,f8,f9,f10⟩,tl⟩ := cells11 HMQ.out.box
  go_upto_region 12 with fail
  clear t0 t1 t2 t3 t4 t5 t6 t7 t8 t9 t10 f0 f1 f2 f3 f4 f5 f6 f7 f8 f9 f10 tl
  clear HMQ
  generalize (w9.setCell ⟨w.heap.size,8,none⟩ (.slice A9 n9 c9)) = wa at *
  obtain ⟨d2,hd2⟩ : ∃ d2,d2 = d1.withQ l9 A9 n9 c9 := ⟨_,rfl⟩
  have HM2 := Hh (show d2.n1 ≤ 24 ∧ d2.n2 ≤ 24 ∧ d2.n3 ≤ 24 ∧ d2.n6 + d2.n7 ≤ 60 ∧ d2.n8 ≤ 300 from by rw [hd2];exact ⟨q1,q2,q3,(by show n9 + d1.n7 ≤ 60;omega),q8⟩)
  rw [← hd2] at HMT
  clear hd2 q1 q2 q3 q67 q8
  obtain ⟨q1,q2,q3,q67,q8⟩ := HM2.out
  have HEK := Hh (show End.ok ⟨id,d2.now,3⟩ from ⟨hid,HMT.out.gd.kn,show In64 3 by unfold In64;omega⟩)
  have hlea := HMT.out.ext.le
  obtain ⟨⟨t0,t1,t2,t3,t4,t5,t6,t7,t8,t9,t10⟩,⟨f0,f1,f2,f3,f4,f5,f6,f7,f8,f9,f10⟩,tl⟩ := cells11 HMT.out.box
  go_upto_region 13 with (at_builtin;go_must (refine wpList_append_k (enc := End.enc) (ok := End.ok) (.tmp 62) (.tmp 68) _ w.heap.size 64 iE _ 3 24 (.slice d2.A8 d2.n8 d2.c8) d2.n8 (d2.es.flatMap End.enc) (some ⟨wa.heap.size,0,none⟩) 1 1 [(⟨id,d2.now,3⟩ : End)] (d2.n8 + 1) ((d2.es ++ [(⟨id,d2.now,3⟩ : End)]).flatMap End.enc) rfl List.flatMap_append.symm rfl rfl Tryz.underlying32 hiE hE0 hE1 hE2 rfl (by omega) rfl (owns_ext (HMT.out.gd.r8) ((Ext.refl _).alloc _)) rfl (by exact sl_one_at (enc := End.enc) wa _ rfl (⟨id,d2.now,3⟩ : End) 64 rfl HEK.out) End.size End.one (by unfold maxLen;omega) (by omega) (by simp;omega) ?_);intro Ab cb wb hr;have HRb := Hh hr;clear hr;have HBb := Hh (HRb.out.kp.own (owns_ext HMT.out.box ((Ext.refl wa).alloc (.cells (End.enc (⟨id,d2.now,3⟩ : End)).toArray 64))) (g_apart (owns_ext HMT.out.box ((Ext.refl wa).alloc (.cells (End.enc (⟨id,d2.now,3⟩ : End)).toArray 64))) (owns_ext HMT.out.gd.r8 ((Ext.refl wa).alloc (.cells (End.enc (⟨id,d2.now,3⟩ : End)).toArray 64))) (by decide)));clear t0 t1 t2 t3 t4 t5 t6 t7 t8 t9 t10 f0 f1 f2 f3 f4 f5 f6 f7 f8 f9 f10 tl;obtain ⟨⟨t0,t1,t2,t3,t4,t5,t6,t7,t8,t9,t10⟩,⟨f0,f1,f2,f3,f4,f5,f6,f7,f8,f9,f10⟩,tl⟩ := cells11 HBb.out)
  have EA : Ext wa (wa.alloc (.cells (End.enc (⟨id,d2.now,3⟩ : End)).toArray 64)) := (Ext.refl _).alloc _
  have HMb := Hh (((HMT.out.mv EA).row (owns_ext HMT.out.gd.r8 EA) HRb.out.kp (by decide) (Nat.le_refl _) ((HMT.out.gd.ext EA).pushE (by rw [← List.flatMap_append];exact HRb.out) HEK.out)).tell (by decide) (p := 10) (x := .slice Ab (d2.n8 + 1) cb) rfl)
  clear HBb HRb HMT EA
  clear t0 t1 t2 t3 t4 t5 t6 t7 t8 t9 t10 f0 f1 f2 f3 f4 f5 f6 f7 f8 f9 f10 tl
  generalize (wb.setCell ⟨w.heap.size,10,none⟩ (.slice Ab (d2.n8 + 1) cb)) = wc at *
  obtain ⟨d3,hd3⟩ : ∃ d3,d3 = d2.withE (d2.es ++ [⟨id,d2.now,3⟩]) Ab (d2.n8 + 1) cb := ⟨_,rfl⟩
  have HM3 := Hh (show d3.n1 ≤ 24 ∧ d3.n2 ≤ 24 ∧ d3.n3 ≤ 24 ∧ d3.n6 + d3.n7 ≤ 60 ∧ d3.n8 ≤ 301 from by rw [hd3];exact ⟨q1,q2,q3,q67,(by show d2.n8 + 1 ≤ 301;omega)⟩)
  rw [← hd3] at HMb
  clear hd3 q1 q2 q3 q67 q8
  obtain ⟨q1,q2,q3,q67,q8⟩ := HM3.out
  obtain ⟨⟨t0,t1,t2,t3,t4,t5,t6,t7,t8,t9,t10⟩,⟨f0,f1,f2,f3,f4,f5,f6,f7,f8,f9,f10⟩,tl⟩ := cells11 HMb.out.box
  go_wp2_with fail
  refine (l06Drop_c d3 w.heap.size 3 id (-1) _ HMb.out.gd HMb.out.ext.le (by exact ⟨by omega,by omega,by omega,by omega,by omega,by omega⟩) (by unfold In64;omega)).mono ?_
  rintro e wd ⟨dd,rfl,hdd,hnd,hkd⟩
  have HMD := Hh (HMb.out.row HMb.out.gd.r8 hkd (by decide) (Nat.le_refl _) hdd)
  have HND := Hh (show dd.n1 ≤ 24 ∧ dd.n2 ≤ 24 ∧ dd.n3 ≤ 24 ∧ dd.n6 ≤ 60 ∧ dd.n7 ≤ 60 ∧ dd.n8 ≤ 400 from by obtain ⟨a1,a2,a3,a6,a7,a8⟩ := hnd;exact ⟨by omega,by omega,by omega,by omega,by omega,by omega⟩)
  clear hdd hnd hkd HMb
  clear t0 t1 t2 t3 t4 t5 t6 t7 t8 t9 t10 f0 f1 f2 f3 f4 f5 f6 f7 f8 f9 f10 tl
  obtain ⟨⟨t0,t1,t2,t3,t4,t5,t6,t7,t8,t9,t10⟩,⟨f0,f1,f2,f3,f4,f5,f6,f7,f8,f9,f10⟩,tl⟩ := cells11 HMD.out.box
  go_upto_region 14 with fail
  generalize hwq : (((((((((((wd.setCell ⟨w.heap.size,0,none⟩ (.slice dd.A1 dd.n1 dd.c1)).setCell ⟨w.heap.size,1,none⟩ (.slice dd.A2 dd.n2 dd.c2)).setCell ⟨w.heap.size,2,none⟩ (.slice dd.A3 dd.n3 dd.c3)).setCell ⟨w.heap.size,3,none⟩ (.int .i64 dd.lic.A)).setCell ⟨w.heap.size,4,none⟩ (.int .i64 dd.lic.B)).setCell ⟨w.heap.size,5,none⟩ (.int .i64 dd.lic.C)).setCell ⟨w.heap.size,6,none⟩ (.int .i64 dd.dep)).setCell ⟨w.heap.size,7,none⟩ (.int .i64 dd.now)).setCell ⟨w.heap.size,8,none⟩ (.slice dd.A6 dd.n6 dd.c6)).setCell ⟨w.heap.size,9,none⟩ (.slice dd.A7 dd.n7 dd.c7)).setCell ⟨w.heap.size,10,none⟩ (.slice dd.A8 dd.n8 dd.c8)) = we
  have hwq' : setCells wd w.heap.size 0 [.slice dd.A1 dd.n1 dd.c1,.slice dd.A2 dd.n2 dd.c2,.slice dd.A3 dd.n3 dd.c3,.int .i64 dd.lic.A,.int .i64 dd.lic.B,.int .i64 dd.lic.C,.int .i64 dd.dep,.int .i64 dd.now,.slice dd.A6 dd.n6 dd.c6,.slice dd.A7 dd.n7 dd.c7,.slice dd.A8 dd.n8 dd.c8] = we := hwq
  have HME := Hh (HMD.out.put (by decide))
  rw [hwq'] at HME
  clear hwq hwq' HMD
  clear t0 t1 t2 t3 t4 t5 t6 t7 t8 t9 t10 f0 f1 f2 f3 f4 f5 f6 f7 f8 f9 f10 tl
  clear q1 q2 q3 q67 q8
  obtain ⟨q1,q2,q3,q6,q7,q8⟩ := HND.out
  obtain ⟨⟨t0,t1,t2,t3,t4,t5,t6,t7,t8,t9,t10⟩,⟨f0,f1,f2,f3,f4,f5,f6,f7,f8,f9,f10⟩,tl⟩ := cells11 HME.out.box
  go_wp2_with fail
  refine (l06Start_c dd w.heap.size _ HME.out.gd HME.out.ext.le (by exact ⟨by omega,by omega,by omega,by omega,by omega,by omega⟩)).mono ?_
  rintro e wz ⟨dz,rfl,hdz,hnz,hkz,_⟩
  have HMZ := Hh (HME.out.row HME.out.gd.r7 hkz (by decide) (Nat.le_refl _) hdz)
  have HNZ := Hh hnz
  clear hdz hnz hkz
  clear t0 t1 t2 t3 t4 t5 t6 t7 t8 t9 t10 f0 f1 f2 f3 f4 f5 f6 f7 f8 f9 f10 tl
  obtain ⟨⟨r0,r1,r2,r3,r4,r5,r6,r7,r8,r9,r10⟩,⟨rf0,rf1,rf2,rf3,rf4,rf5,rf6,rf7,rf8,rf9,rf10⟩,rl⟩ := cells11 HMZ.out.res
  have HSZ := Hh (show dz.sm from by obtain ⟨e1,e2,e3,e6,e7,e8⟩ := HNZ.out;exact ⟨by omega,by omega,by omega,by omega,by omega,by omega⟩)
  have HFZ := Hh HMZ.out.fin
  clear HMZ
  go_wp2
  exact bodyPost_ret (v := .tuple #[.agg #[.slice dz.A1 dz.n1 dz.c1,.slice dz.A2 dz.n2 dz.c2,.slice dz.A3 dz.n3 dz.c3,.int .i64 dz.lic.A,.int .i64 dz.lic.B,.int .i64 dz.lic.C,.int .i64 dz.dep,.int .i64 dz.now,.slice dz.A6 dz.n6 dz.c6,.slice dz.A7 dz.n7 dz.c7,.slice dz.A8 dz.n8 dz.c8],.int .i64 0]) (by simp [results,Tryz.results70,go_sem, *]) rfl ⟨dz,0,rfl,HFZ.out.1,HSZ.out,HFZ.out.2⟩
theorem Finish_c (d : StD) (lo : Nat) (id why : Int) (w : World) (h : d.good w lo) (hsm : d.mid) (hid : In64 id) : Calls Tryz.prog 70 #[.agg #[.slice d.A1 d.n1 d.c1,.slice d.A2 d.n2 d.c2,.slice d.A3 d.n3 d.c3,.int .i64 d.lic.A,.int .i64 d.lic.B,.int .i64 d.lic.C,.int .i64 d.dep,.int .i64 d.now,.slice d.A6 d.n6 d.c6,.slice d.A7 d.n7 d.c7,.slice d.A8 d.n8 d.c8],.int .i64 id,.int .i64 why] w (RetStI w) := by
 by_cases hw2 : why = 2
 ·subst hw2;exact Finish2_c d lo id w h hsm hid
 by_cases hw3 : why = 3
 ·subst hw3;exact Finish3_c d lo id w h hsm hid
 have hd2 : decide (why = 2) = false := decide_eq_false hw2
 have hd3 : decide (why = 3) = false := decide_eq_false hw3
 have hb2 : (why == 2) = false := by rw [beq_eq_false_iff_ne];exact hw2
 have hb3 : (why == 3) = false := by rw [beq_eq_false_iff_ne];exact hw3
 have hc2 : (why != 2) = true := by simp [hw2]
 have hc3 : (why != 3) = true := by simp [hw3]
 clear hw2 hw3
 obtain ⟨hs1,hs2,hs3,hs6,hs7,hs8⟩ := hsm
 obtain ⟨s,hst,hln,hps,hns,hup,hqq,hnw⟩ := h.state
 have hsl : stateLen s := by obtain ⟨e1,e2,e3,e6,e7,e8⟩ := hln;exact ⟨by omega,by omega,by omega,by omega,by omega,by omega⟩
 have HSO := Hh (fun (u : World) (e : Ext w u) => sStateOk_c s _ u (hst.ext e) hsl)
 have HOK := Hh (fun (hh : stateB s = true) => okd_of hln hh)
 have HCP := Hh (fun (u : World) (e : Ext w u) => l06Copy_c s _ u (hst.ext e) hsl (by rw [hnw];exact h.kn))
 have HLN := Hh hln
 have hLl : (s.Queue ++ s.Runs.map Run.Job).length ≤ 1048576 := by rw [List.length_append,List.length_map];obtain ⟨_,_,_,e6,e7,_⟩ := hln;omega
 have HAL := Hh (fun (u : World) (e : Ext w u) => l06Jobs_c s _ u (hst.ext e) hsl)
 have HMI := Hh (MvI.start1 h)
 clear hst hln hps hns hup hqq hnw h hsl
 generalize (s.Queue ++ s.Runs.map Run.Job) = L at *
 generalize stateB s = ob at *
 generalize (emptyF s).isSome = eb at *
 go_enter Tryz.func70,Tryz.ntmps70
 go_wp2_with fail
 refine (HSO.out _ (((Ext.refl w).alloc _).alloc _)).mono ?_
 rintro e w1 ⟨rfl,hb1⟩
 have HMI1 := Hh (HMI.out.mv hb1)
 clear hb1 HMI HSO
 rcases ob with _ | _
 ·skip
  obtain ⟨⟨r0,r1,r2,r3,r4,r5,r6,r7,r8,r9,r10⟩,⟨rf0,rf1,rf2,rf3,rf4,rf5,rf6,rf7,rf8,rf9,rf10⟩,rl⟩ := cells11 HMI1.out.res
  have HEF := Hh HMI1.out.fail
  go_wp2
  exact bodyPost_ret (v := .tuple #[.agg #[.slice none 0 0,.slice none 0 0,.slice none 0 0,.int .i64 0,.int .i64 0,.int .i64 0,.int .i64 0,.int .i64 0,.slice none 0 0,.slice none 0 0,.slice none 0 0],.int .i64 1]) (by simp [results,Tryz.results70,go_sem, *]) rfl ⟨StD.zero,1,rfl,StD.zero_good _ _,StD.zero_sm,HEF.out⟩
 obtain ⟨⟨r0,r1,r2,r3,r4,r5,r6,r7,r8,r9,r10⟩,⟨rf0,rf1,rf2,rf3,rf4,rf5,rf6,rf7,rf8,rf9,rf10⟩,rl⟩ := cells11 HMI1.out.res
 have HEF := Hh HMI1.out.fail
 go_wp2
 exact bodyPost_ret (v := .tuple #[.agg #[.slice none 0 0,.slice none 0 0,.slice none 0 0,.int .i64 0,.int .i64 0,.int .i64 0,.int .i64 0,.int .i64 0,.slice none 0 0,.slice none 0 0,.slice none 0 0],.int .i64 1]) (by simp [results,Tryz.results70,go_sem, *]) rfl ⟨StD.zero,1,rfl,StD.zero_good _ _,StD.zero_sm,HEF.out⟩
end Go.Proofs.YtfanjhcdjbnnnaaGreat
