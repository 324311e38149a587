/- MvStart, NextE, DrawH, Apart, DrawTopo. -/
import Derived.Test.YtfanjhcdjbnnnaaGreatK26
import Derived.Test.YtfanjhcdjbnnnaaGreatK11
import Derived.Test.YtfanjhcdjbnnnaaGreatK14
import Derived.Test.YtfanjhcdjbnnnaaGreatK04
namespace Go.Proofs.YtfanjhcdjbnnnaaGreat
open Go.RowKit
set_option linter.unusedVariables false
set_option maxHeartbeats 16000000
set_option maxRecDepth 10000
def StD.mid (d : StD) : Prop := d.n1 ≤ 1000 ∧ d.n2 ≤ 1000 ∧ d.n3 ≤ 1000 ∧ d.n6 ≤ 1000 ∧ d.n7 ≤ 500000 ∧ d.n8 ≤ 500000
theorem l06Start_c (d : StD) (lo : Nat) (w : World) (h : d.good w lo) (hlo : lo ≤ w.heap.size) (hsm : d.mid) : Calls Tryz.prog 96 #[.agg #[.slice d.A1 d.n1 d.c1,.slice d.A2 d.n2 d.c2,.slice d.A3 d.n3 d.c3,.int .i64 d.lic.A,.int .i64 d.lic.B,.int .i64 d.lic.C,.int .i64 d.dep,.int .i64 d.now,.slice d.A6 d.n6 d.c6,.slice d.A7 d.n7 d.c7,.slice d.A8 d.n8 d.c8]] w (RetStart w lo d) := by
 obtain ⟨iR,hiR,hR0,hR1,hR2⟩ := info_parts CRun.info
 obtain ⟨hs1,hs2,hs3,hs6,hs7,hs8⟩ := hsm
 obtain ⟨s,hst,⟨e1,e2,e3,e6,e7,e8⟩,hps,hns,hup,hqq,hnw⟩ := h.state
 have HRO := Hh (fun (u : World) (e : Ext w u) => sRoomOfZ_c s _ u (hst.ext e) ⟨by omega,by omega,by omega,by omega,by omega,by omega⟩)
 have HV := Hh (fun r (hr : roomF s = some r) => roomF_room hr)
 have HG := Hh h
 have HQ := Hh (fun (u : World) (e : Ext w u) => (h.ext e).sl6)
 have HBX := Hh (show ((w.alloc (.cells #[.slice d.A1 d.n1 d.c1,.slice d.A2 d.n2 d.c2,.slice d.A3 d.n3 d.c3,.int .i64 d.lic.A,.int .i64 d.lic.B,.int .i64 d.lic.C,.int .i64 d.dep,.int .i64 d.now,.slice d.A6 d.n6 d.c6,.slice d.A7 d.n7 d.c7,.slice d.A8 d.n8 d.c8] 34)).alloc (.cells #[.slice none 0 0,.slice none 0 0,.slice none 0 0,.int .i64 0,.int .i64 0,.int .i64 0,.int .i64 0,.int .i64 0,.slice none 0 0,.slice none 0 0,.slice none 0 0] 34)).ownsRow w.heap.size 34 11 (.slice (some ⟨w.heap.size,0,none⟩) 1 1) 1 [.slice d.A1 d.n1 d.c1,.slice d.A2 d.n2 d.c2,.slice d.A3 d.n3 d.c3,.int .i64 d.lic.A,.int .i64 d.lic.B,.int .i64 d.lic.C,.int .i64 d.dep,.int .i64 d.now,.slice d.A6 d.n6 d.c6,.slice d.A7 d.n7 d.c7,.slice d.A8 d.n8 d.c8] from owns_ext (gbox w [.slice d.A1 d.n1 d.c1,.slice d.A2 d.n2 d.c2,.slice d.A3 d.n3 d.c3,.int .i64 d.lic.A,.int .i64 d.lic.B,.int .i64 d.lic.C,.int .i64 d.dep,.int .i64 d.now,.slice d.A6 d.n6 d.c6,.slice d.A7 d.n7 d.c7,.slice d.A8 d.n8 d.c8] 34 11 rfl) ((Ext.refl _).alloc _))
 have HRC := Hh (show ((w.alloc (.cells #[.slice d.A1 d.n1 d.c1,.slice d.A2 d.n2 d.c2,.slice d.A3 d.n3 d.c3,.int .i64 d.lic.A,.int .i64 d.lic.B,.int .i64 d.lic.C,.int .i64 d.dep,.int .i64 d.now,.slice d.A6 d.n6 d.c6,.slice d.A7 d.n7 d.c7,.slice d.A8 d.n8 d.c8] 34)).alloc (.cells #[.slice none 0 0,.slice none 0 0,.slice none 0 0,.int .i64 0,.int .i64 0,.int .i64 0,.int .i64 0,.int .i64 0,.slice none 0 0,.slice none 0 0,.slice none 0 0] 34)).ownsRow w.heap.size 34 11 (.slice (some ⟨w.heap.size + 1,0,none⟩) 1 1) 1 [.slice none 0 0,.slice none 0 0,.slice none 0 0,.int .i64 0,.int .i64 0,.int .i64 0,.int .i64 0,.int .i64 0,.slice none 0 0,.slice none 0 0,.slice none 0 0] from by
  have h := gbox (w.alloc (.cells #[.slice d.A1 d.n1 d.c1,.slice d.A2 d.n2 d.c2,.slice d.A3 d.n3 d.c3,.int .i64 d.lic.A,.int .i64 d.lic.B,.int .i64 d.lic.C,.int .i64 d.dep,.int .i64 d.now,.slice d.A6 d.n6 d.c6,.slice d.A7 d.n7 d.c7,.slice d.A8 d.n8 d.c8] 34)) [.slice none 0 0,.slice none 0 0,.slice none 0 0,.int .i64 0,.int .i64 0,.int .i64 0,.int .i64 0,.int .i64 0,.slice none 0 0,.slice none 0 0,.slice none 0 0] 34 11 rfl
  rw [show (w.alloc (.cells #[.slice d.A1 d.n1 d.c1,.slice d.A2 d.n2 d.c2,.slice d.A3 d.n3 d.c3,.int .i64 d.lic.A,.int .i64 d.lic.B,.int .i64 d.lic.C,.int .i64 d.dep,.int .i64 d.now,.slice d.A6 d.n6 d.c6,.slice d.A7 d.n7 d.c7,.slice d.A8 d.n8 d.c8] 34)).heap.size = w.heap.size + 1 by simp] at h
  exact owns_base h (by omega))
 clear hst h hqq hps hns hup e1 e2 e3 e6 e7 e8 hnw
 generalize s.Topo.Parents = ps at *
 generalize s.Topo.Nodes = ns at *
 generalize s.Up = up at *
 generalize roomF s = R at *
 go_enter Tryz.func96,Tryz.ntmps96
 go_wp2_with fail
 refine (HRO.out _ (((Ext.refl w).alloc _).alloc _)).mono ?_
 rintro e w3 ⟨B1,m1,d1,B2,m2,d2,B3,m3,d3,B4,m4,d4,B5,m5,d5,rfl,hsome,hnone,hb3⟩
 have HX3 := Hh ((((Ext.refl w).alloc _).alloc _).trans hb3)
 have HBX3 := Hh (owns_ext HBX.out hb3)
 have HRC3 := Hh (owns_ext HRC.out hb3)
 have HPL := Hh (show ∀ u,Ext w3 u → Calls Tryz.prog 112 #[.agg #[.slice B1 m1 d1,.slice B2 m2 d2,.slice B3 m3 d3,.slice B4 m4 d4,.slice B5 m5 d5],.int .i64 d.now,.slice d.A6 d.n6 d.c6,.int .i64 d.dep] u (RetPlan u d.n6) from by
  intro u hu
  rcases R with _ | ⟨pl,lc⟩
  ·obtain ⟨⟨rfl,rfl,rfl⟩,⟨rfl,rfl,rfl⟩,⟨rfl,rfl,rfl⟩,⟨rfl,rfl,rfl⟩,rfl,rfl,rfl⟩ := hnone rfl
   exact Plan_c [] [] [] [] [] d.now d.dep d.q none 0 none 0 none 0 none 0 none 0 d.A6 d.n6 d.c6 u ⟨.inl rfl,.inl rfl,.inl rfl,PO.nil _ _,World.ownsRow_nil _ _ _ _,(fun x hx => by cases hx),(fun x hx => by cases hx),(fun x hx => by cases hx)⟩ (by simp [roomSm]) (HQ.out u (HX3.out.trans hu)) (by omega)
  ·obtain ⟨rfl,rfl,rfl,rfl,rfl,hrs⟩ := hsome _ rfl
   obtain ⟨v1,v2,v3⟩ := HV.out _ rfl
   exact Plan_c ps ns up pl lc d.now d.dep d.q B1 d1 B2 d2 B3 d3 B4 d4 B5 d5 d.A6 d.n6 d.c6 u ((hrs.base (Nat.zero_le _)).ext hu) (rooms_sm v1 v2 v3) (HQ.out u (HX3.out.trans hu)) (by omega))
 generalize R.isSome = rb at *
 clear hsome hnone hb3 HBX HRC HRO HV
 obtain ⟨⟨t0,t1,t2,t3,t4,t5,t6,t7,t8,t9,t10⟩,⟨f0,f1,f2,f3,f4,f5,f6,f7,f8,f9,f10⟩,tl⟩ := cells11 HBX3.out
 have EA : Ext w3 (w3.alloc (.cells #[.slice B1 m1 d1,.slice B2 m2 d2,.slice B3 m3 d3,.slice B4 m4 d4,.slice B5 m5 d5] 73)) := (Ext.refl w3).alloc _
 go_wp2_with fail
 refine (HPL.out _ EA).mono ?_
 rintro e w4 ⟨S,a,c,hs,P1,p2,p3,ok4,rfl,hsl,hsr,hhs,han,hb4⟩
 have hle3 := HX3.out.le
 have HSI := Hh (show StartI w w4 lo d d S a c hs 0 from
  ⟨owns_ext HBX3.out (EA.trans hb4),owns_ext HRC3.out (EA.trans hb4),HG.out.ext (HX3.out.trans (EA.trans hb4)),hsl,owns_base hsr (by simp;omega),(fun x hx => ⟨(hhs x hx).1,by obtain ⟨xs,hx⟩ := (hhs x hx).2;exact ⟨xs,hx.base (by simp;omega)⟩⟩),Kept.ofExt (HX3.out.trans (EA.trans hb4)) _,(fun q hq => .inl hq),⟨rfl,rfl,rfl,Nat.le_refl _,Nat.le_refl _,rfl⟩⟩)
 clear hsl hsr hhs hb4 EA HPL HBX3 HRC3 HX3 HG HQ t0 t1 t2 t3 t4 t5 t6 t7 t8 t9 t10 f0 f1 f2 f3 f4 f5 f6 f7 f8 f9 f10 tl hle3
 go_wp2
 go_loopw [31] (fun iv wr => ∃ (k : Nat) (d2 : StD),k ≤ a ∧ iv = .int .i64 k ∧ Hid (StartI w wr lo d d2 S a c hs k)) (fun iv _ => a - (intOf iv).toNat)
 case atStart => exact ⟨0,d,Nat.zero_le _,rfl,HSI⟩
 case round =>
  clear HSI
  obtain ⟨k,d2,hk,rfl,HSI⟩ := hrel
  have hlw := HSI.out.kp.size
  have HZ := Hh HSI.out.sz
  have z6 := HZ.out.2.2.2.1
  have z7 := HZ.out.2.2.2.2.1
  by_cases hlt : k < a
  ·have HSA := Hh (show SlAt (Flat RawHeld.enc RawHeld.ok) 3 wr S a hs from by have h := HSI.out.sr;have hl := HSI.out.sl;rw [hl] at h ⊢;exact owns_sl RawHeld.size h (fun x hx => (HSI.out.sm x hx).1))
   obtain ⟨bo,oo,x,cs,hS,hbw,hx,_,hc,rfl,hok⟩ := HSA.out.at_ hlt
   subst hS
   obtain ⟨_,xs,hxm⟩ := HSI.out.sm x (List.mem_of_getElem? hx)
   have HM := Hh hxm
   have HK := Hh hok
   have g0 := hc 0 _ rfl
   have g1 := hc 1 _ rfl
   have g2 := hc 2 _ rfl
   simp only [Nat.add_zero] at g0
   have HHB := Hh (gbox wr [.int .i64 x.id,.int .i64 x.at_,.slice x.A x.n x.c] 146 3 rfl)
   have E1 : Ext wr (wr.alloc (.cells #[.int .i64 x.id,.int .i64 x.at_,.slice x.A x.n x.c] 146)) := (Ext.refl wr).alloc _
   have HE1 := Hh E1
   obtain ⟨⟨t0,t1,t2,t3,t4,t5,t6,t7,t8,t9,t10⟩,⟨f0,f1,f2,f3,f4,f5,f6,f7,f8,f9,f10⟩,tl⟩ := cells11 HSI.out.box
   clear hc hx hok hxm HSA E1
   go_wp2_with fail
   refine (l05Find_c d2.q x.id d2.A6 d2.n6 d2.c6 _ (HSI.out.gd.ext HE1.out).sl6 (by omega)).mono ?_
   rintro e w5 ⟨j,b5,rfl,hjok,_,hb5⟩
   have HJK := Hh hjok
   have HSI5 := Hh (HSI.out.mv (HE1.out.trans hb5))
   have HHB5 := Hh (owns_ext HHB.out hb5)
   have HM5 := Hh (HM.out.ext (HE1.out.trans hb5))
   have E5 : Ext w5 (w5.alloc (.cells #[.int .i64 j.Id,.int .i64 j.Prio,.int .i64 j.Nodes,.int .i64 j.Need.A,.int .i64 j.Need.B,.int .i64 j.Need.C,.int .i64 j.Lic.A,.int .i64 j.Lic.B,.int .i64 j.Lic.C,.int .i64 j.Wall,.int .i64 j.Level] 52)) := (Ext.refl w5).alloc _
   have HE5 := Hh E5
   have HJB := Hh (gbox w5 [.int .i64 j.Id,.int .i64 j.Prio,.int .i64 j.Nodes,.int .i64 j.Need.A,.int .i64 j.Need.B,.int .i64 j.Need.C,.int .i64 j.Lic.A,.int .i64 j.Lic.B,.int .i64 j.Lic.C,.int .i64 j.Wall,.int .i64 j.Level] 52 11 rfl)
   have hl5 := hb5.le
   simp at hl5
   clear hjok hb5 HSI HHB HM HE1 E5 g0 g1 g2 t0 t1 t2 t3 t4 t5 t6 t7 t8 t9 t10 f0 f1 f2 f3 f4 f5 f6 f7 f8 f9 f10 tl
   obtain ⟨⟨t0,t1,t2,t3,t4,t5,t6,t7,t8,t9,t10⟩,⟨f0,f1,f2,f3,f4,f5,f6,f7,f8,f9,f10⟩,tl⟩ := cells11 HSI5.out.box
   obtain ⟨y0,y1,y2,yf0,yf1,yf2,yl⟩ := gcells3 HHB5.out
   go_wp2_with fail
   refine (l06Out_c d2.q x.id d2.A6 d2.n6 d2.c6 _ (HSI5.out.gd.ext HE5.out).sl6 (by omega)).mono ?_
   rintro e w6 ⟨A6,n6,c6,l,rfl,hl6,hor,hlq,hn6,hb6⟩
   have HL6 := Hh hl6
   clear hl6
   have HSI6 := Hh ((HSI5.out.mv (HE5.out.trans hb6)).out hlo HL6.out (owns_base hor (by simp;omega)) (fun z hz => HSI5.out.gd.k6 z (hlq z hz)) hn6)
   have HKP := Hh (kept_set w6 w.heap.size 8 (.slice A6 n6 c6))
   have HB6 := Hh (HSI5.out.mv (HE5.out.trans hb6)).box
   have HHB6 := Hh (HKP.out.own (owns_ext HHB5.out (HE5.out.trans hb6)) (g_apart (owns_ext HHB5.out (HE5.out.trans hb6)) HB6.out (by decide)))
   have HJB6 := Hh (HKP.out.own (owns_ext HJB.out hb6) (g_apart (owns_ext HJB.out hb6) HB6.out (by decide)))
   have HM6 := Hh (((HM5.out.ext (HE5.out.trans hb6)).kept HB6.out HKP.out (by decide)).base hlo)
   have hl7 := HKP.out.size
   have hl6 := hb6.le
   simp at hl6
   clear t0 t1 t2 t3 t4 t5 t6 t7 t8 t9 t10 f0 f1 f2 f3 f4 f5 f6 f7 f8 f9 f10 tl y0 y1 y2 yf0 yf1 yf2 yl hor hlq HKP HSI5 HHB5 HJB HM5 HE5
   obtain ⟨⟨t0,t1,t2,t3,t4,t5,t6,t7,t8,t9,t10⟩,⟨f0,f1,f2,f3,f4,f5,f6,f7,f8,f9,f10⟩,tl⟩ := cells11 HB6.out
   go_upto_region 8 with fail
   clear t0 t1 t2 t3 t4 t5 t6 t7 t8 t9 t10 f0 f1 f2 f3 f4 f5 f6 f7 f8 f9 f10 tl HB6
   generalize (w6.setCell ⟨w.heap.size,8,none⟩ (.slice A6 n6 c6)) = w7 at *
   have HSI7 := Hh (show StartI w w7 lo d (d2.withQ l A6 n6 c6) (some ⟨bo,oo,none⟩) a c hs k from HSI6.out)
   obtain ⟨d3,hd3⟩ : ∃ d3,d3 = d2.withQ l A6 n6 c6 := ⟨_,rfl⟩
   rw [← hd3] at HSI7
   clear HSI6 hd3
   obtain ⟨⟨t0,t1,t2,t3,t4,t5,t6,t7,t8,t9,t10⟩,⟨f0,f1,f2,f3,f4,f5,f6,f7,f8,f9,f10⟩,tl⟩ := cells11 HSI7.out.box
   obtain ⟨y0,y1,y2,yf0,yf1,yf2,yl⟩ := gcells3 HHB6.out
   obtain ⟨⟨p0,p1,p2,p3,p4,p5,p6,p7,p8,p9,p10⟩,⟨pf0,pf1,pf2,pf3,pf4,pf5,pf6,pf7,pf8,pf9,pf10⟩,pl⟩ := cells11 HJB6.out
   have hn7 : d3.n7 ≤ 501000 := by have := HSI7.out.sz.2.2.2.2.1;omega
   have HYK := Hh (show RawRun.ok ⟨j,d3.now,x.A,x.n,x.c⟩ from ⟨HJK.out,HSI7.out.gd.kn,HK.out.2.1,HK.out.2.2⟩)
   go_upto_region 9 with (at_builtin;go_must (refine wpList_append_k (enc := RawRun.enc) (ok := RawRun.ok) (.tmp 50) (.tmp 57) _ lo 54 iR _ 13 120 (.slice d3.A7 d3.n7 d3.c7) d3.n7 (d3.rs.flatMap RawRun.enc) (some ⟨w7.heap.size,0,none⟩) 1 1 [(⟨j,d3.now,x.A,x.n,x.c⟩ : RawRun)] (d3.n7 + 1) ((d3.rs ++ [(⟨j,d3.now,x.A,x.n,x.c⟩ : RawRun)]).flatMap RawRun.enc) rfl List.flatMap_append.symm rfl rfl Tryz.underlying31 hiR hR0 hR1 hR2 rfl (by omega) rfl (owns_ext (HSI7.out.gd.r7) ((Ext.refl _).alloc _)) rfl (by exact sl_one_at (enc := RawRun.enc) w7 _ rfl (⟨j,d3.now,x.A,x.n,x.c⟩ : RawRun) 54 rfl HYK.out) RawRun.size RawRun.one (by unfold maxLen;omega) (by omega) (by simp;omega) ?_);intro A8 c8 w8 hr;have HR8 := Hh hr;clear hr;have HB8 := Hh (HR8.out.kp.own (owns_ext HSI7.out.box ((Ext.refl w7).alloc (.cells (RawRun.enc (⟨j,d3.now,x.A,x.n,x.c⟩ : RawRun)).toArray 54))) (g_apart (owns_ext HSI7.out.box ((Ext.refl w7).alloc (.cells (RawRun.enc (⟨j,d3.now,x.A,x.n,x.c⟩ : RawRun)).toArray 54))) (owns_ext HSI7.out.gd.r7 ((Ext.refl w7).alloc (.cells (RawRun.enc (⟨j,d3.now,x.A,x.n,x.c⟩ : RawRun)).toArray 54))) (by decide)));clear t0 t1 t2 t3 t4 t5 t6 t7 t8 t9 t10 f0 f1 f2 f3 f4 f5 f6 f7 f8 f9 f10 tl;obtain ⟨⟨t0,t1,t2,t3,t4,t5,t6,t7,t8,t9,t10⟩,⟨f0,f1,f2,f3,f4,f5,f6,f7,f8,f9,f10⟩,tl⟩ := cells11 HB8.out)
   have HSI8 := Hh ((HSI7.out.mv ((Ext.refl w7).alloc (.cells (RawRun.enc (⟨j,d3.now,x.A,x.n,x.c⟩ : RawRun)).toArray 54))).push hlo HR8.out HYK.out ⟨xs,HM6.out.ext ((Ext.refl w7).alloc _)⟩)
   clear t0 t1 t2 t3 t4 t5 t6 t7 t8 t9 t10 f0 f1 f2 f3 f4 f5 f6 f7 f8 f9 f10 tl HB8 HR8 HSI7 y0 y1 y2 yf0 yf1 yf2 yl p0 p1 p2 p3 p4 p5 p6 p7 p8 p9 p10 pf0 pf1 pf2 pf3 pf4 pf5 pf6 pf7 pf8 pf9 pf10 pl HHB6 HJB6 HM6
   go_wp2
   go_roundw
   case rel => exact ⟨k + 1,_,by omega,by go_num,HSI8⟩
   case measure => simp [intOf];omega
  ·obtain rfl : k = a := by omega
   have HGF := Hh (HSI.out.gd.kept HSI.out.res (kept_puts (w.heap.size + 1) [.slice d2.A1 d2.n1 d2.c1,.slice d2.A2 d2.n2 d2.c2,.slice d2.A3 d2.n3 d2.c3,.int .i64 d2.lic.A,.int .i64 d2.lic.B,.int .i64 d2.lic.C,.int .i64 d2.dep,.int .i64 d2.now,.slice d2.A6 d2.n6 d2.c6,.slice d2.A7 d2.n7 d2.c7,.slice d2.A8 d2.n8 d2.c8] wr 0) (by simp [rowTypes]))
   have HKF := Hh (HSI.out.kp.trans (kept_puts (w.heap.size + 1) [.slice d2.A1 d2.n1 d2.c1,.slice d2.A2 d2.n2 d2.c2,.slice d2.A3 d2.n3 d2.c3,.int .i64 d2.lic.A,.int .i64 d2.lic.B,.int .i64 d2.lic.C,.int .i64 d2.dep,.int .i64 d2.now,.slice d2.A6 d2.n6 d2.c6,.slice d2.A7 d2.n7 d2.c7,.slice d2.A8 d2.n8 d2.c8] wr 0) (fun q hq => .inr (by injection hq with hq;omega)))
   have HFR := Hh HSI.out.fr
   have HR := HSI.out.res
   obtain ⟨⟨t0,t1,t2,t3,t4,t5,t6,t7,t8,t9,t10⟩,⟨f0,f1,f2,f3,f4,f5,f6,f7,f8,f9,f10⟩,tl⟩ := cells11 HSI.out.box
   obtain ⟨⟨r0,r1,r2,r3,r4,r5,r6,r7,r8,r9,r10⟩,⟨rf0,rf1,rf2,rf3,rf4,rf5,rf6,rf7,rf8,rf9,rf10⟩,rl⟩ := cells11 HR
   clear HSI HR
   go_wp2
   exact bodyPost_ret (v := .agg #[.slice d2.A1 d2.n1 d2.c1,.slice d2.A2 d2.n2 d2.c2,.slice d2.A3 d2.n3 d2.c3,.int .i64 d2.lic.A,.int .i64 d2.lic.B,.int .i64 d2.lic.C,.int .i64 d2.dep,.int .i64 d2.now,.slice d2.A6 d2.n6 d2.c6,.slice d2.A7 d2.n7 d2.c7,.slice d2.A8 d2.n8 d2.c8]) (by simp [results,Tryz.results96,go_sem, *]) rfl ⟨d2,rfl,HGF.out,⟨HZ.out.1,HZ.out.2.1,HZ.out.2.2.1,z6,by omega,HZ.out.2.2.2.2.2⟩,HKF.out,HFR.out⟩
def endE (x : Run) : Int := IntKind.i64.wrap (x.At + x.Job.Wall)
def nextGo (b : Int) : List Run → Int
 | [] => b
 | x :: r => nextGo (if b < 0 ∨ endE x < b then endE x else b) r
theorem nextGo_drop {l : List Run} {k : Nat} {x : Run} (b : Int) (h : l[k]? = some x) : nextGo b (l.drop k) = nextGo (if b < 0 ∨ endE x < b then endE x else b) (l.drop (k + 1)) := by rw [drop_cons h,nextGo]
theorem nextEnd_c (s : State) (v : Value) (w : World) (h : StateAt w s v) (hlen : stateLen s) : Calls Tryz.prog 14 #[v] w (Ret w (.int .i64 (nextGo (-1) s.Runs))) := by
 obtain ⟨A1,c1,A2,c2,A3,c3,A6,c6,A7,c7,A8,c8,rfl,h1,h2,h3,h6,h7,h8⟩ := h
 have hl := hlen.2.2.2.2.1
 have H7 := Hh (fun (u : World) (e : Ext w u) => h7.ext RRun.mono e)
 have HN := Hh (rfl : s.Runs.length = s.Runs.length)
 clear h1 h2 h3 h6 h7 h8 hlen
 generalize s.Topo.Parents.length = n1 at *
 generalize s.Topo.Nodes.length = n2 at *
 generalize s.Up.length = n3 at *
 generalize s.Queue.length = n6 at *
 generalize s.Ends.length = n8 at *
 generalize hm : s.Runs.length = n at *
 have HM := Hh hm
 clear hm HN
 go_enter Tryz.func14,Tryz.ntmps14
 go_wp2
 go_loopw [3,10] (fun bv iv wr => ∃ (k : Nat) (b : Int),k ≤ n ∧ iv = .int .i64 k ∧ bv = .int .i64 b ∧ Hid (nextGo (-1) s.Runs = nextGo b (s.Runs.drop k)) ∧ Ext w wr) (fun _ iv _ => n - (intOf iv).toNat)
 case atStart => exact ⟨0,-1,Nat.zero_le _,rfl,rfl,Hh rfl,(Ext.refl _).alloc _⟩
 case round =>
  obtain ⟨k,b,hk,rfl,rfl,HG,hb⟩ := hrel
  by_cases hlt : k < n
  ·obtain ⟨bo,oo,x,cs,rfl,hbw,hx,_,hc,Ar,cr,rfl,_,_,_,hat,hok⟩ := (H7.out wr hb).at_ hlt
   have g0 := hc 0 _ rfl
   have g1 := hc 1 _ rfl
   have g2 := hc 2 _ rfl
   have g3 := hc 3 _ rfl
   have g4 := hc 4 _ rfl
   have g5 := hc 5 _ rfl
   have g6 := hc 6 _ rfl
   have g7 := hc 7 _ rfl
   have g8 := hc 8 _ rfl
   have g9 := hc 9 _ rfl
   have g10 := hc 10 _ rfl
   have g11 := hc 11 _ rfl
   have g12 := hc 12 _ rfl
   simp only [Nat.add_zero] at g0
   have HD := Hh (nextGo_drop b hx)
   have HE := Hh (show endE x = IntKind.i64.wrap (x.At + x.Job.Wall) from rfl)
   clear hc hx hat hok
   generalize endE x = t at *
   have hw : IntKind.i64.wrap (x.At + x.Job.Wall) = t := HE.out.symm
   rcases (show b < 0 ∨ (¬ b < 0 ∧ t < b) ∨ (¬ b < 0 ∧ ¬ t < b) by omega) with hb1 | ⟨hb1,hb2⟩ | ⟨hb1,hb2⟩
   ·have HT := Hh (show nextGo (-1) s.Runs = nextGo t (s.Runs.drop (k + 1)) by rw [HG.out,HD.out,if_pos (.inl hb1)])
    have hd1 : decide (b < 0) = true := decide_eq_true hb1
    go_wp2
    go_roundw
    case rel => exact ⟨k + 1,t,by omega,by go_num,rfl,HT,hb.alloc _⟩
    case measure => simp [intOf];omega
   ·have HT := Hh (show nextGo (-1) s.Runs = nextGo t (s.Runs.drop (k + 1)) by rw [HG.out,HD.out,if_pos (.inr hb2)])
    have hd1 : decide (b < 0) = false := decide_eq_false hb1
    have hd2 : decide (t < b) = true := decide_eq_true hb2
    go_wp2
    go_roundw
    case rel => exact ⟨k + 1,t,by omega,by go_num,rfl,HT,hb.alloc _⟩
    case measure => simp [intOf];omega
   ·have HT := Hh (show nextGo (-1) s.Runs = nextGo b (s.Runs.drop (k + 1)) by rw [HG.out,HD.out,if_neg (by omega)])
    have hd1 : decide (b < 0) = false := decide_eq_false hb1
    have hd2 : decide (t < b) = false := decide_eq_false hb2
    go_wp2
    go_roundw
    case rel => exact ⟨k + 1,b,by omega,by go_num,rfl,HT,hb.alloc _⟩
    case measure => simp [intOf];omega
  ·obtain rfl : k = n := by omega
   have HT := Hh (show b = nextGo (-1) s.Runs by rw [HG.out,List.drop_eq_nil_of_le (by rw [HM.out];exact Nat.le_refl _)];rfl)
   go_wp2
   exact ret_int rfl rfl rfl HT.out hb
theorem l06Next_c (s : State) (v : Value) (w : World) (h : StateAt w s v) (hlen : stateLen s) : Calls Tryz.prog 16 #[v] w (Ret w (.int .i64 (nextGo (-1) s.Runs))) := by
 obtain ⟨A1,c1,A2,c2,A3,c3,A6,c6,A7,c7,A8,c8,rfl,h1,h2,h3,h6,h7,h8⟩ := h
 have hl := hlen.2.2.2.2.1
 have H7 := Hh (fun (u : World) (e : Ext w u) => h7.ext RRun.mono e)
 have HN := Hh (rfl : s.Runs.length = s.Runs.length)
 clear h1 h2 h3 h6 h7 h8 hlen
 generalize s.Topo.Parents.length = n1 at *
 generalize s.Topo.Nodes.length = n2 at *
 generalize s.Up.length = n3 at *
 generalize s.Queue.length = n6 at *
 generalize s.Ends.length = n8 at *
 generalize hm : s.Runs.length = n at *
 have HM := Hh hm
 clear hm HN
 go_enter Tryz.func16,Tryz.ntmps16
 go_wp2
 go_loopw [3,9] (fun bv iv wr => ∃ (k : Nat) (b : Int),k ≤ n ∧ iv = .int .i64 k ∧ bv = .int .i64 b ∧ Hid (nextGo (-1) s.Runs = nextGo b (s.Runs.drop k)) ∧ Ext w wr) (fun _ iv _ => n - (intOf iv).toNat)
 case atStart => exact ⟨0,-1,Nat.zero_le _,rfl,rfl,Hh rfl,(Ext.refl _).alloc _⟩
 case round =>
  obtain ⟨k,b,hk,rfl,rfl,HG,hb⟩ := hrel
  by_cases hlt : k < n
  ·obtain ⟨bo,oo,x,cs,rfl,hbw,hx,_,hc,Ar,cr,rfl,_,_,_,hat,hok⟩ := (H7.out wr hb).at_ hlt
   have g0 := hc 0 _ rfl
   have g1 := hc 1 _ rfl
   have g2 := hc 2 _ rfl
   have g3 := hc 3 _ rfl
   have g4 := hc 4 _ rfl
   have g5 := hc 5 _ rfl
   have g6 := hc 6 _ rfl
   have g7 := hc 7 _ rfl
   have g8 := hc 8 _ rfl
   have g9 := hc 9 _ rfl
   have g10 := hc 10 _ rfl
   have g11 := hc 11 _ rfl
   have g12 := hc 12 _ rfl
   simp only [Nat.add_zero] at g0
   have HD := Hh (nextGo_drop b hx)
   have HE := Hh (show endE x = IntKind.i64.wrap (x.At + x.Job.Wall) from rfl)
   clear hc hx hat hok
   generalize endE x = t at *
   have hw : IntKind.i64.wrap (x.At + x.Job.Wall) = t := HE.out.symm
   rcases (show b < 0 ∨ (¬ b < 0 ∧ t < b) ∨ (¬ b < 0 ∧ ¬ t < b) by omega) with hb1 | ⟨hb1,hb2⟩ | ⟨hb1,hb2⟩
   ·have HT := Hh (show nextGo (-1) s.Runs = nextGo t (s.Runs.drop (k + 1)) by rw [HG.out,HD.out,if_pos (.inl hb1)])
    have hd1 : decide (b < 0) = true := decide_eq_true hb1
    go_wp2
    go_roundw
    case rel => exact ⟨k + 1,t,by omega,by go_num,rfl,HT,hb.alloc _⟩
    case measure => simp [intOf];omega
   ·have HT := Hh (show nextGo (-1) s.Runs = nextGo t (s.Runs.drop (k + 1)) by rw [HG.out,HD.out,if_pos (.inr hb2)])
    have hd1 : decide (b < 0) = false := decide_eq_false hb1
    have hd2 : decide (t < b) = true := decide_eq_true hb2
    go_wp2
    go_roundw
    case rel => exact ⟨k + 1,t,by omega,by go_num,rfl,HT,hb.alloc _⟩
    case measure => simp [intOf];omega
   ·have HT := Hh (show nextGo (-1) s.Runs = nextGo b (s.Runs.drop (k + 1)) by rw [HG.out,HD.out,if_neg (by omega)])
    have hd1 : decide (b < 0) = false := decide_eq_false hb1
    have hd2 : decide (t < b) = false := decide_eq_false hb2
    go_wp2
    go_roundw
    case rel => exact ⟨k + 1,b,by omega,by go_num,rfl,HT,hb.alloc _⟩
    case measure => simp [intOf];omega
  ·obtain rfl : k = n := by omega
   have HT := Hh (show b = nextGo (-1) s.Runs by rw [HG.out,List.drop_eq_nil_of_le (by rw [HM.out];exact Nat.le_refl _)];rfl)
   go_wp2
   exact ret_int rfl rfl rfl HT.out hb
theorem down_form {w : World} {base n : Nat} {e : TypeId} {sz : Nat} {A : Option Addr} {c : Nat} {L : List Value} (h : w.ownsRow base e sz (.slice A n c) n L) (hn : 0 < n) : ∃ g,A = some ⟨g,0,none⟩ ∧ base ≤ g ∧ g < w.heap.size := by
 obtain ⟨g,cap,e1,h1,h2⟩ := own_form h hn
 injection e1 with e1 _ _
 exact ⟨g,e1,h1,h2⟩
end Go.Proofs.YtfanjhcdjbnnnaaGreat
namespace Go.Proofs.YtfanjhcdjbnnnaaGreat
open Go.RowKit
set_option linter.unusedVariables false
set_option maxHeartbeats 16000000
set_option maxRecDepth 10000
structure TD (w : World) (g : Nat) (wr : World) (A : Option Addr) (n c : Nat) (ps : List Int) (B : Option Addr) (m d : Nat) (ns : List Node) : Prop where
 turned : Turned g (g + 1) w wr
 cur : Cur wr g
 t0 : wr.cell? ⟨w.heap.size + 1 + 1,0,none⟩ = some (.slice A n c)
 t1 : wr.cell? ⟨w.heap.size + 1 + 1,1,none⟩ = some (.slice B m d)
 f0 : wr.frozen? ⟨w.heap.size + 1 + 1,0,none⟩ = false
 f1 : wr.frozen? ⟨w.heap.size + 1 + 1,1,none⟩ = false
 r0 : wr.cell? ⟨w.heap.size,0,none⟩ = some (.slice none 0 0)
 r1 : wr.cell? ⟨w.heap.size,1,none⟩ = some (.slice none 0 0)
 g0 : wr.frozen? ⟨w.heap.size,0,none⟩ = false
 g1 : wr.frozen? ⟨w.heap.size,1,none⟩ = false
 tb : ∃ cs,wr.heap[w.heap.size + 1 + 1]? = some (Obj.cells cs 26)
 hn : ps.length = n
 row : wr.ownsRow (w.heap.size + 1) 3 1 (.slice A n c) n (ps.flatMap encInt)
 pok : ∀ y ∈ ps,In64 y
 p1 : 1 ≤ n
 p2 : n ≤ 18
 hm : ns.length = m
 nrow : wr.ownsRow (w.heap.size + 1) 85 4 (.slice B m d) m (ns.flatMap Node.enc)
 nok : ∀ y ∈ ns,y.ok
theorem block_ne {w : World} {base n b : Nat} {e e' : TypeId} {sz : Nat} {v : Value} {L : List Value} (h : w.ownsRow base e sz v n L) (hb : ∃ cs,w.heap[b]? = some (Obj.cells cs e')) (hne : e ≠ e') : v.ownBlock ≠ some b := by
 intro hq
 obtain ⟨cs,hb⟩ := hb
 rcases h.2 with ⟨rfl,_⟩ | ⟨g,cap,cur,rfl,_,hh,_⟩
 ·cases hq
 ·have e1 : g = b := Option.some.inj hq
  subst e1
  rw [hh] at hb
  injection hb with hb
  injection hb with _ h2
  exact hne h2
theorem type_apart {w : World} {base n base2 n2 : Nat} {e e' : TypeId} {sz sz2 : Nat} {v v2 : Value} {L L2 : List Value} (h : w.ownsRow base e sz v n L) (h2 : w.ownsRow base2 e' sz2 v2 n2 L2) (hne : e ≠ e') : rowsApart v.ownBlock v2.ownBlock := fun k hk hk' => by
 rcases h2.2 with ⟨rfl,_⟩ | ⟨g,cap,cur,rfl,_,hh,_⟩
 ·cases hk'
 ·have e1 : g = k := Option.some.inj hk'
  subst e1
  exact block_ne h ⟨_,hh⟩ hne hk
theorem block_low {w : World} {base n b : Nat} {e : TypeId} {sz : Nat} {v : Value} {L : List Value} (h : w.ownsRow base e sz v n L) (hb : b < base) : v.ownBlock ≠ some b := fun e => by
 have := (h.lt b e).1;omega
section
variable {w : World} {g : Nat} {wr : World} {A : Option Addr} {n c : Nat} {ps : List Int} {B : Option Addr} {m d : Nat} {ns : List Node}
theorem TD.le (h : TD w g wr A n c ps B m d ns) : w.heap.size + 1 + 1 < wr.heap.size := lt_of_cell h.t0
theorem TD.draw (h : TD w g wr A n c ps B m d ns) (hg : g < w.heap.size) {u : World} (ht : Turned g (g + 1) wr u) (hc : Cur u g) : TD w g u A n c ps B m d ns := by
 have hl := h.le
 obtain ⟨cs,htb⟩ := h.tb
 exact ⟨h.turned.trans ht,hc,cellT ht h.t0 (by omega),cellT ht h.t1 (by omega),frozenT ht h.f0 (by omega) (by omega),frozenT ht h.f1 (by omega) (by omega),cellT ht h.r0 (by omega),cellT ht h.r1 (by omega),frozenT ht h.g0 (by omega) (by omega),frozenT ht h.g1 (by omega) (by omega),⟨cs,heapT ht htb (by omega)⟩,h.hn,ownsT h.row ht (by omega),h.pok,h.p1,h.p2,h.hm,ownsT h.nrow ht (by omega),h.nok⟩
theorem TD.ext (h : TD w g wr A n c ps B m d ns) {u : World} (e : Ext wr u) : TD w g u A n c ps B m d ns := by
 have hl := h.le
 obtain ⟨cs,htb⟩ := h.tb
 exact ⟨h.turned.ext e,h.cur.ext e,e.cell h.t0,e.cell h.t1,(e.frozenEq (lt_of_cell h.t0)).trans h.f0,(e.frozenEq (lt_of_cell h.t1)).trans h.f1,e.cell h.r0,e.cell h.r1,(e.frozenEq (lt_of_cell h.r0)).trans h.g0,(e.frozenEq (lt_of_cell h.r1)).trans h.g1,⟨cs,heapE e htb⟩,h.hn,owns_ext h.row e,h.pok,h.p1,h.p2,h.hm,owns_ext h.nrow e,h.nok⟩
theorem TD.side (h : TD w g wr A n c ps B m d ns) (hg : g < w.heap.size) {w' : World} {base n0 : Nat} {v : Value} {L : List Value} {A' : Option Addr} {n' c' : Nat} {L' : List Value} (hv : wr.ownsRow base 3 1 v n0 L) (ha : AppR wr w' base 3 1 v A' n' c' L') (hb : w.heap.size + 1 ≤ base) (hap : rowsApart (Value.slice A n c).ownBlock v.ownBlock) : TD w g w' A n c ps B m d ns := by
 have hl := h.le
 obtain ⟨cs,htb⟩ := h.tb
 have hT := block_ne hv h.tb (by decide)
 have hR : v.ownBlock ≠ some w.heap.size := block_low hv (by omega)
 have htu := ha.turned (lo := w.heap.size + 1) (fun q hq => Nat.le_trans hb (hv.lt q hq).1)
 exact ⟨turned_low h.turned htu (by omega),h.cur.keep htu (by omega),ha.cell h.t0 hT,ha.cell h.t1 hT,ha.frozen h.f0 (by omega) hT,ha.frozen h.f1 (by omega) hT,ha.cell h.r0 hR,ha.cell h.r1 hR,ha.frozen h.g0 (by omega) hR,ha.frozen h.g1 (by omega) hR,⟨cs,(ha.kept _ (by omega) hT).trans htb⟩,h.hn,ha.other h.row hap,h.pok,h.p1,h.p2,h.hm,ha.other h.nrow (type_apart h.nrow hv (by decide)),h.nok⟩
theorem cells_set {w1 : World} {b : Nat} {cs : Array Value} {e : TypeId} (h : w1.heap[b]? = some (Obj.cells cs e)) (j : Nat) (u : Value) : ∃ cs',(w1.setCell ⟨b,j,none⟩ u).heap[b]? = some (Obj.cells cs' e) := by
 exact ⟨_,heap_setCell_same w1 b j cs e u h⟩
theorem ne_at {b o : Nat} {v : Value} (h : v.ownBlock ≠ some b) : ∀ q,v.ownBlock = some q → q ≠ (⟨b,o,none⟩ : Addr).block := fun q hq e => h (by rw [hq];exact congrArg some e)
theorem TD.push (h : TD w g wr A n c ps B m d ns) (hg : g < w.heap.size) {w' : World} {s : Int} {A' : Option Addr} {c' : Nat} (ha : AppR wr w' (w.heap.size + 1) 3 1 (.slice A n c) A' (n + 1) c' (ps.flatMap encInt ++ encInt s)) (hs : In64 s) (hl1 : n + 1 ≤ 18) : TD w g (w'.setCell ⟨w.heap.size + 1 + 1,0,none⟩ (.slice A' (n + 1) c')) A' (n + 1) c' (ps ++ [s]) B m d ns := by
 have hl := h.le
 obtain ⟨cs,htb⟩ := h.tb
 have hT := block_ne h.row h.tb (by decide)
 have hR : (Value.slice A n c).ownBlock ≠ some w.heap.size := block_low h.row (by omega)
 have htu := ha.turned (lo := w.heap.size + 1) (fun q hq => (h.row.lt q hq).1)
 have q0 := ha.cell h.t0 hT
 have q1 := ha.cell h.t1 hT
 have qf0 := ha.frozen h.f0 (by omega) hT
 have qf1 := ha.frozen h.f1 (by omega) hT
 have p0 := ha.cell h.r0 hR
 have p1 := ha.cell h.r1 hR
 have pf0 := ha.frozen h.g0 (by omega) hR
 have pf1 := ha.frozen h.g1 (by omega) hR
 have hb' : w'.heap[w.heap.size + 1 + 1]? = some (Obj.cells cs 26) := (ha.kept _ (by omega) hT).trans htb
 have hT' := block_ne ha.row ⟨cs,hb'⟩ (by decide)
 have hN' := ha.other h.nrow (type_apart h.nrow h.row (by decide))
 have hTN := block_ne hN' ⟨cs,hb'⟩ (by decide)
 have hlt := lt_of_cell q0
 refine ⟨turned_own (turned_low h.turned htu (by omega)) (by omega),(h.cur.keep htu (by omega)).put (by omega),by go_simp,by go_simp,by go_simp,by go_simp,by go_simp,by go_simp,by go_simp,by go_simp,cells_set hb' _ _,by rw [List.length_append,h.hn];rfl, ?_,all_snoc h.pok hs,by omega,hl1,h.hm,owns_other hN' (ne_at hTN) _,h.nok⟩
 rw [List.flatMap_append]
 have := owns_other (p := ⟨w.heap.size + 1 + 1,0,none⟩) ha.row (ne_at hT') (.slice A' (n + 1) c')
 simpa using this
theorem TD.pushN (h : TD w g wr A n c ps B m d ns) (hg : g < w.heap.size) {w' : World} {x : Node} {B' : Option Addr} {d' : Nat} (ha : AppR wr w' (w.heap.size + 1) 85 4 (.slice B m d) B' (m + 1) d' (ns.flatMap Node.enc ++ Node.enc x)) (hx : x.ok) : TD w g (w'.setCell ⟨w.heap.size + 1 + 1,1,none⟩ (.slice B' (m + 1) d')) A n c ps B' (m + 1) d' (ns ++ [x]) := by
 have hl := h.le
 obtain ⟨cs,htb⟩ := h.tb
 have hT := block_ne h.nrow h.tb (by decide)
 have hR : (Value.slice B m d).ownBlock ≠ some w.heap.size := block_low h.nrow (by omega)
 have htu := ha.turned (lo := w.heap.size + 1) (fun q hq => (h.nrow.lt q hq).1)
 have q0 := ha.cell h.t0 hT
 have q1 := ha.cell h.t1 hT
 have qf0 := ha.frozen h.f0 (by omega) hT
 have qf1 := ha.frozen h.f1 (by omega) hT
 have p0 := ha.cell h.r0 hR
 have p1 := ha.cell h.r1 hR
 have pf0 := ha.frozen h.g0 (by omega) hR
 have pf1 := ha.frozen h.g1 (by omega) hR
 have hb' : w'.heap[w.heap.size + 1 + 1]? = some (Obj.cells cs 26) := (ha.kept _ (by omega) hT).trans htb
 have hT' := block_ne ha.row ⟨cs,hb'⟩ (by decide)
 have hP' := ha.other h.row (type_apart h.row h.nrow (by decide))
 have hTP := block_ne hP' ⟨cs,hb'⟩ (by decide)
 have hlt := lt_of_cell q0
 refine ⟨turned_own (turned_low h.turned htu (by omega)) (by omega),(h.cur.keep htu (by omega)).put (by omega),by go_simp,by go_simp,by go_simp,by go_simp,by go_simp,by go_simp,by go_simp,by go_simp,cells_set hb' _ _,h.hn,owns_other hP' (ne_at hTP) _,h.pok,h.p1,h.p2,by rw [List.length_append,h.hm];rfl, ?_,all_snoc h.nok hx⟩
 rw [List.flatMap_append]
 have := owns_other (p := ⟨w.heap.size + 1 + 1,1,none⟩) ha.row (ne_at hT') (.slice B' (m + 1) d')
 simpa using this
end
end Go.Proofs.YtfanjhcdjbnnnaaGreat
