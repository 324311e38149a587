/- MvStep. -/
import Derived.Test.YtfanjhcdjbnnnaaGreatK38
namespace Go.Proofs.YtfanjhcdjbnnnaaGreat
open Go.RowKit
set_option linter.unusedVariables false
set_option maxHeartbeats 32000000
set_option maxRecDepth 20000
theorem l06Step_c (g : Nat) (d : StD) (lo : Nat) (w : World) (hc : Cur w g) (h : d.good w lo) (hg : g < lo) (hlo : lo ≤ w.heap.size) (hsm : d.sm) : Calls Tryz.prog 39 #[.pointer (some ⟨g,0,none⟩),.agg #[.slice d.A1 d.n1 d.c1,.slice d.A2 d.n2 d.c2,.slice d.A3 d.n3 d.c3,.int .i64 d.lic.A,.int .i64 d.lic.B,.int .i64 d.lic.C,.int .i64 d.dep,.int .i64 d.now,.slice d.A6 d.n6 d.c6,.slice d.A7 d.n7 d.c7,.slice d.A8 d.n8 d.c8]] w (RetStD w g lo) := by
 have hgw := hc.lt
 have HB := Hh (fun (n : Int) (hn : In64 n) (u : World) (hu : Cur u g) => l01Below_c g n u hu hn)
 have HJ := Hh (fun (u : World) (hu : Cur u g) => l04Job_c g u hu)
 have H9 : Hid (∀ n : Int,-1000000 ≤ n → n ≤ 1000000 → In64 n) := Hh (fun n h1 h2 => by unfold In64;omega)
 have HSM := Hh hsm
 have HMD := Hh hsm.mid
 have HG0 := Hh h
 have HC0 := Hh hc
 obtain ⟨m1,m2,m3,m6,m7,m8⟩ := hsm
 clear hc h
 have HW0 := Hh (show (∀ v0 v1 : Unit,True) from fun _ _ => trivial)
 have HM0 := Hh (MvI.start1 HG0.out)
 have E0 : Ext w ((w.alloc (.cells #[.slice d.A1 d.n1 d.c1,.slice d.A2 d.n2 d.c2,.slice d.A3 d.n3 d.c3,.int .i64 d.lic.A,.int .i64 d.lic.B,.int .i64 d.lic.C,.int .i64 d.dep,.int .i64 d.now,.slice d.A6 d.n6 d.c6,.slice d.A7 d.n7 d.c7,.slice d.A8 d.n8 d.c8] 34)).alloc (.cells #[.slice none 0 0,.slice none 0 0,.slice none 0 0,.int .i64 0,.int .i64 0,.int .i64 0,.int .i64 0,.int .i64 0,.slice none 0 0,.slice none 0 0,.slice none 0 0] 34)) := ((Ext.refl w).alloc _).alloc _
 have HE0 := Hh E0
 have hz0 : ((w.alloc (.cells #[.slice d.A1 d.n1 d.c1,.slice d.A2 d.n2 d.c2,.slice d.A3 d.n3 d.c3,.int .i64 d.lic.A,.int .i64 d.lic.B,.int .i64 d.lic.C,.int .i64 d.dep,.int .i64 d.now,.slice d.A6 d.n6 d.c6,.slice d.A7 d.n7 d.c7,.slice d.A8 d.n8 d.c8] 34)).alloc (.cells #[.slice none 0 0,.slice none 0 0,.slice none 0 0,.int .i64 0,.int .i64 0,.int .i64 0,.int .i64 0,.int .i64 0,.slice none 0 0,.slice none 0 0,.slice none 0 0] 34)).heap.size = w.heap.size + 1 + 1 := by simp
 have HZ0 := Hh hz0
 clear hz0 E0
 go_enter Tryz.func39,Tryz.ntmps39
 go_wp2_with fail
 refine (HB.out 14 (H9.out _ (by omega) (by omega)) _ (HC0.out.ext HE0.out)).mono ?_
 rintro e w1 ⟨k,rfl,⟨hk0,hk14⟩,ht1,hc1⟩
 have hl1 : w.heap.size + 1 < w1.heap.size := by have := ht1.le;have := HZ0.out;omega
 have HS1 := Hh (show StepI w (w1.alloc (.cells #[.slice d.A1 d.n1 d.c1,.slice d.A2 d.n2 d.c2,.slice d.A3 d.n3 d.c3,.int .i64 d.lic.A,.int .i64 d.lic.B,.int .i64 d.lic.C,.int .i64 d.dep,.int .i64 d.now,.slice d.A6 d.n6 d.c6,.slice d.A7 d.n7 d.c7,.slice d.A8 d.n8 d.c8] 34)) g lo w1.heap.size d d from
  ⟨owns_ext (ownsT HM0.out.box ht1 (by omega)) ((Ext.refl _).alloc _),owns_ext (ownsT HM0.out.res ht1 (by omega)) ((Ext.refl _).alloc _),owns_base (gbox w1 [.slice d.A1 d.n1 d.c1,.slice d.A2 d.n2 d.c2,.slice d.A3 d.n3 d.c3,.int .i64 d.lic.A,.int .i64 d.lic.B,.int .i64 d.lic.C,.int .i64 d.dep,.int .i64 d.now,.slice d.A6 d.n6 d.c6,.slice d.A7 d.n7 d.c7,.slice d.A8 d.n8 d.c8] 34 11 rfl) (by omega),hl1,(HM0.out.gd.turn ht1 hg).ext ((Ext.refl _).alloc _),(HM0.out.gd.turn ht1 hg).ext ((Ext.refl _).alloc _),hg,hlo,(((HE0.out.turned g (g + 1)).trans ht1).ext ((Ext.refl _).alloc _)),hc1.ext ((Ext.refl _).alloc _)⟩)
 have HB3 := Hh (ownsT HM0.out.box ht1 (show g + 1 ≤ w.heap.size by omega))
 obtain ⟨⟨t0,t1,t2,t3,t4,t5,t6,t7,t8,t9,t10⟩,⟨f0,f1,f2,f3,f4,f5,f6,f7,f8,f9,f10⟩,tl⟩ := cells11 HB3.out
 clear ht1 hc1 HM0 HE0 HZ0 HC0 HG0 HW0
 go_upto_region 4 with fail
 clear t0 t1 t2 t3 t4 t5 t6 t7 t8 t9 t10 f0 f1 f2 f3 f4 f5 f6 f7 f8 f9 f10 tl
 clear HB3
 obtain ⟨bx,hbx⟩ : ∃ bx,bx = w1.heap.size := ⟨_,rfl⟩
 rw [← hbx] at HS1 ⊢
 generalize (w1.alloc (.cells #[.slice d.A1 d.n1 d.c1,.slice d.A2 d.n2 d.c2,.slice d.A3 d.n3 d.c3,.int .i64 d.lic.A,.int .i64 d.lic.B,.int .i64 d.lic.C,.int .i64 d.dep,.int .i64 d.now,.slice d.A6 d.n6 d.c6,.slice d.A7 d.n7 d.c7,.slice d.A8 d.n8 d.c8] 34)) = u at *
 clear hbx hl1
 have HSd := Hh (HS1.out.mv ((Ext.refl u).drew))
 rcases (show k < 7 ∨ (7 ≤ k ∧ k < 9) ∨ k = 9 ∨ k = 10 ∨ k = 11 ∨ k = 12 ∨ 12 < k by omega) with hk | ⟨hk,hk'⟩ | rfl | rfl | rfl | rfl | hk
 ·have hd7 : decide (k < 7) = true := decide_eq_true hk
  go_upto_region 5 with fail
  obtain ⟨t0,t1,t2,t3,t4,t5,t6,t7,t8,t9,t10⟩ := HS1.out.c3
  have HCd := Hh (show C11 u.drew w.heap.size d from HSd.out.c3)
  go_region_held3 (fun x => x.cell? ⟨w.heap.size,0,none⟩ = some (.slice d.A1 d.n1 d.c1) ∧ x.cell? ⟨w.heap.size,1,none⟩ = some (.slice d.A2 d.n2 d.c2) ∧ x.cell? ⟨w.heap.size,2,none⟩ = some (.slice d.A3 d.n3 d.c3) ∧ x.cell? ⟨w.heap.size,3,none⟩ = some (.int .i64 d.lic.A) ∧ x.cell? ⟨w.heap.size,4,none⟩ = some (.int .i64 d.lic.B) ∧ x.cell? ⟨w.heap.size,5,none⟩ = some (.int .i64 d.lic.C) ∧ x.cell? ⟨w.heap.size,6,none⟩ = some (.int .i64 d.dep) ∧ x.cell? ⟨w.heap.size,7,none⟩ = some (.int .i64 d.now) ∧ x.cell? ⟨w.heap.size,8,none⟩ = some (.slice d.A6 d.n6 d.c6) ∧ x.cell? ⟨w.heap.size,9,none⟩ = some (.slice d.A7 d.n7 d.c7) ∧ x.cell? ⟨w.heap.size,10,none⟩ = some (.slice d.A8 d.n8 d.c8)) ((first | with_reducible exact HC9.out | with_reducible exact HC3.out | with_reducible exact HC6.out | with_reducible exact HC5.out | with_reducible exact HC2.out | with_reducible exact HCd.out | with_reducible exact ⟨t0,t1,t2,t3,t4,t5,t6,t7,t8,t9,t10⟩)) (first
   | (go_at_call 68;(with_reducible refine (HJ.out _ HSd.out.cu).mono ?_);rintro e w2 ⟨x,rfl,hx,ht2,hc2⟩;have HXK := Hh hx;have HS2 := Hh (HSd.out.turn ht2 hc2);have HC2 := Hh HS2.out.c3;clear hx ht2 hc2)
   | (go_at_call 67;(with_reducible refine (Submit_c d lo x _ HS2.out.gd HMD.out HXK.out).mono ?_);rintro e w9 ⟨d2,kc,rfl,hd2,hsm2,hb3⟩;have HS3 := Hh (HS2.out.mv hb3);have HC3 := Hh HS3.out.c3;have HG3 := Hh (hd2.base (Nat.le_trans HS2.out.hl HS2.out.tu.le));have HSM2 := Hh hsm2;have HS4 := Hh (HS3.out.put HG3.out);have HC9 := Hh (show C11 ((((((((((((w9.setCell ⟨bx,0,none⟩ (.slice d2.A1 d2.n1 d2.c1)).setCell ⟨bx,1,none⟩ (.slice d2.A2 d2.n2 d2.c2)).setCell ⟨bx,2,none⟩ (.slice d2.A3 d2.n3 d2.c3)).setCell ⟨bx,3,none⟩ (.int .i64 d2.lic.A)).setCell ⟨bx,4,none⟩ (.int .i64 d2.lic.B)).setCell ⟨bx,5,none⟩ (.int .i64 d2.lic.C)).setCell ⟨bx,6,none⟩ (.int .i64 d2.dep)).setCell ⟨bx,7,none⟩ (.int .i64 d2.now)).setCell ⟨bx,8,none⟩ (.slice d2.A6 d2.n6 d2.c6)).setCell ⟨bx,9,none⟩ (.slice d2.A7 d2.n7 d2.c7)).setCell ⟨bx,10,none⟩ (.slice d2.A8 d2.n8 d2.c8))) w.heap.size d from HS4.out.c3);obtain ⟨⟨r0,r1,r2,r3,r4,r5,r6,r7,r8,r9,r10⟩,⟨rf0,rf1,rf2,rf3,rf4,rf5,rf6,rf7,rf8,rf9,rf10⟩,rl⟩ := cells11 HS3.out.b6;clear hd2 hsm2 hb3))
  all_goals
   skip
   generalize hwq : (((((((((((w9.setCell ⟨bx,0,none⟩ (.slice d2.A1 d2.n1 d2.c1)).setCell ⟨bx,1,none⟩ (.slice d2.A2 d2.n2 d2.c2)).setCell ⟨bx,2,none⟩ (.slice d2.A3 d2.n3 d2.c3)).setCell ⟨bx,3,none⟩ (.int .i64 d2.lic.A)).setCell ⟨bx,4,none⟩ (.int .i64 d2.lic.B)).setCell ⟨bx,5,none⟩ (.int .i64 d2.lic.C)).setCell ⟨bx,6,none⟩ (.int .i64 d2.dep)).setCell ⟨bx,7,none⟩ (.int .i64 d2.now)).setCell ⟨bx,8,none⟩ (.slice d2.A6 d2.n6 d2.c6)).setCell ⟨bx,9,none⟩ (.slice d2.A7 d2.n7 d2.c7)).setCell ⟨bx,10,none⟩ (.slice d2.A8 d2.n8 d2.c8)) = w4
   have hwq' : setCells w9 bx 0 [.slice d2.A1 d2.n1 d2.c1,.slice d2.A2 d2.n2 d2.c2,.slice d2.A3 d2.n3 d2.c3,.int .i64 d2.lic.A,.int .i64 d2.lic.B,.int .i64 d2.lic.C,.int .i64 d2.dep,.int .i64 d2.now,.slice d2.A6 d2.n6 d2.c6,.slice d2.A7 d2.n7 d2.c7,.slice d2.A8 d2.n8 d2.c8] = w4 := hwq
   rw [hwq'] at HS4
   clear hwq hwq' r0 r1 r2 r3 r4 r5 r6 r7 r8 r9 r10 rf0 rf1 rf2 rf3 rf4 rf5 rf6 rf7 rf8 rf9 rf10 rl
   obtain ⟨⟨q0,q1,q2,q3,q4,q5,q6,q7,q8,q9,q10⟩,⟨qf0,qf1,qf2,qf3,qf4,qf5,qf6,qf7,qf8,qf9,qf10⟩,ql⟩ := cells11 HS4.out.b4
   by_cases hkc : kc = 0
   ·subst hkc
    obtain ⟨⟨p0,p1,p2,p3,p4,p5,p6,p7,p8,p9,p10⟩,⟨pf0,pf1,pf2,pf3,pf4,pf5,pf6,pf7,pf8,pf9,pf10⟩,pl⟩ := cells11 HS4.out.b6
    have HF := Hh (HS4.out.fin HS4.out.ge HSM2.out)
    clear HS4
    go_wp2
    exact bodyPost_ret (v := .agg #[.slice d2.A1 d2.n1 d2.c1,.slice d2.A2 d2.n2 d2.c2,.slice d2.A3 d2.n3 d2.c3,.int .i64 d2.lic.A,.int .i64 d2.lic.B,.int .i64 d2.lic.C,.int .i64 d2.dep,.int .i64 d2.now,.slice d2.A6 d2.n6 d2.c6,.slice d2.A7 d2.n7 d2.c7,.slice d2.A8 d2.n8 d2.c8]) (by simp [results,Tryz.results39,go_sem, *]) rfl HF.out
   ·have hkc1 : (kc == 0) = false := by rw [beq_eq_false_iff_ne];exact hkc
    have hkc2 : (kc != 0) = true := by simp [hkc]
    have hkc3 : decide (kc = 0) = false := decide_eq_false hkc
    clear hkc
    obtain ⟨⟨p0,p1,p2,p3,p4,p5,p6,p7,p8,p9,p10⟩,⟨pf0,pf1,pf2,pf3,pf4,pf5,pf6,pf7,pf8,pf9,pf10⟩,pl⟩ := cells11 HS4.out.b3
    have HF := Hh (HS4.out.fin HS4.out.gd HSM.out)
    clear HS4
    go_wp2
    exact bodyPost_ret (v := .agg #[.slice d.A1 d.n1 d.c1,.slice d.A2 d.n2 d.c2,.slice d.A3 d.n3 d.c3,.int .i64 d.lic.A,.int .i64 d.lic.B,.int .i64 d.lic.C,.int .i64 d.dep,.int .i64 d.now,.slice d.A6 d.n6 d.c6,.slice d.A7 d.n7 d.c7,.slice d.A8 d.n8 d.c8]) (by simp [results,Tryz.results39,go_sem, *]) rfl HF.out
 ·have hd7 : decide (k < 7) = false := by rw [decide_eq_false_iff_not];omega
  have hd9 : decide (k < 9) = true := decide_eq_true hk'
  have hnb := HS1.out.nb
  have hbu : bx < u.heap.size := (HS1.out.b6.lt bx rfl).2
  have hgu : g + 1 ≤ u.heap.size := by omega
  go_upto_region 7 with fail
  obtain ⟨t0,t1,t2,t3,t4,t5,t6,t7,t8,t9,t10⟩ := HS1.out.c3
  have HC1 := Hh HS1.out.c3
  have HCd := Hh (show C11 u.drew w.heap.size d from HSd.out.c3)
  have HCdA := Hh (show C11 ((u.alloc (.cells #[.slice none 0 0,.slice none 0 0,.slice none 0 0,.int .i64 0,.int .i64 0,.int .i64 0,.int .i64 0,.int .i64 0,.slice none 0 0,.slice none 0 0,.slice none 0 0] 34)).drew) w.heap.size d from (HS1.out.mv (((Ext.refl _).alloc _).drew)).c3)
  go_region_held3 (fun x => x.cell? ⟨w.heap.size,0,none⟩ = some (.slice d.A1 d.n1 d.c1) ∧ x.cell? ⟨w.heap.size,1,none⟩ = some (.slice d.A2 d.n2 d.c2) ∧ x.cell? ⟨w.heap.size,2,none⟩ = some (.slice d.A3 d.n3 d.c3) ∧ x.cell? ⟨w.heap.size,3,none⟩ = some (.int .i64 d.lic.A) ∧ x.cell? ⟨w.heap.size,4,none⟩ = some (.int .i64 d.lic.B) ∧ x.cell? ⟨w.heap.size,5,none⟩ = some (.int .i64 d.lic.C) ∧ x.cell? ⟨w.heap.size,6,none⟩ = some (.int .i64 d.dep) ∧ x.cell? ⟨w.heap.size,7,none⟩ = some (.int .i64 d.now) ∧ x.cell? ⟨w.heap.size,8,none⟩ = some (.slice d.A6 d.n6 d.c6) ∧ x.cell? ⟨w.heap.size,9,none⟩ = some (.slice d.A7 d.n7 d.c7) ∧ x.cell? ⟨w.heap.size,10,none⟩ = some (.slice d.A8 d.n8 d.c8)) ((first | with_reducible exact HC9.out | with_reducible exact HC9L.out | with_reducible exact HC9M.out | with_reducible exact HC3.out | with_reducible exact HC3A.out | with_reducible exact HC2.out | with_reducible exact HC2A.out | with_reducible exact HCd.out | with_reducible exact HCdA.out | with_reducible exact HC1.out)) (first
   | (go_at_call 20;(refine (HB.out 12 (H9.out _ (by omega) (by omega)) _ (HS1.out.mv (by repeat (first | exact Ext.refl _ | apply Ext.alloc | apply Ext.drew))).cu).mono ?_);rintro e w2 ⟨v2,rfl,⟨hv2a,hv2b⟩,ht2,hc2⟩;have HS2 := Hh ((HS1.out.mv (by repeat (first | exact Ext.refl _ | apply Ext.alloc | apply Ext.drew))).turn ht2 hc2);have HC2 := Hh HS2.out.c3;have HC2A := Hh (show C11 (w2.alloc (.cells #[.slice none 0 0,.slice none 0 0,.slice none 0 0,.int .i64 0,.int .i64 0,.int .i64 0,.int .i64 0,.int .i64 0,.slice none 0 0,.slice none 0 0,.slice none 0 0] 34)) w.heap.size d from (HS2.out.mv ((Ext.refl _).alloc _)).c3);(try (with_reducible have HZA2 := Hh (zbox_turn ht2 hgu)));have hb2 : bx < w2.heap.size := (HS2.out.b6.lt bx rfl).2;clear ht2 hc2)
   | (go_at_call 69;(refine (Until_c d lo _ _ (HS2.out.mv (by repeat (first | exact Ext.refl _ | apply Ext.alloc | apply Ext.drew))).gd HMD.out (wrap_in64 _)).mono ?_);rintro e w9 ⟨d2,ok2,rfl,hd2,hsm2,hb3⟩;have HS3 := Hh ((HS2.out.mv (by repeat (first | exact Ext.refl _ | apply Ext.alloc | apply Ext.drew))).mv hb3);have HC3 := Hh HS3.out.c3;have HC3A := Hh (show C11 (w9.alloc (.cells #[.slice none 0 0,.slice none 0 0,.slice none 0 0,.int .i64 0,.int .i64 0,.int .i64 0,.int .i64 0,.int .i64 0,.slice none 0 0,.slice none 0 0,.slice none 0 0] 34)) w.heap.size d from (HS3.out.mv ((Ext.refl _).alloc _)).c3);have HC9L := Hh (show C11 (w9.alloc (.cells #[.slice d2.A1 d2.n1 d2.c1,.slice d2.A2 d2.n2 d2.c2,.slice d2.A3 d2.n3 d2.c3,.int .i64 d2.lic.A,.int .i64 d2.lic.B,.int .i64 d2.lic.C,.int .i64 d2.dep,.int .i64 d2.now,.slice d2.A6 d2.n6 d2.c6,.slice d2.A7 d2.n7 d2.c7,.slice d2.A8 d2.n8 d2.c8] 34)) w.heap.size d from (HS3.out.mv ((Ext.refl _).alloc _)).c3);have HC9M := Hh (show C11 (((((((((((((w9.alloc (.cells #[.slice none 0 0,.slice none 0 0,.slice none 0 0,.int .i64 0,.int .i64 0,.int .i64 0,.int .i64 0,.int .i64 0,.slice none 0 0,.slice none 0 0,.slice none 0 0] 34)).setCell ⟨w9.heap.size,0,none⟩ (.slice d2.A1 d2.n1 d2.c1)).setCell ⟨w9.heap.size,1,none⟩ (.slice d2.A2 d2.n2 d2.c2)).setCell ⟨w9.heap.size,2,none⟩ (.slice d2.A3 d2.n3 d2.c3)).setCell ⟨w9.heap.size,3,none⟩ (.int .i64 d2.lic.A)).setCell ⟨w9.heap.size,4,none⟩ (.int .i64 d2.lic.B)).setCell ⟨w9.heap.size,5,none⟩ (.int .i64 d2.lic.C)).setCell ⟨w9.heap.size,6,none⟩ (.int .i64 d2.dep)).setCell ⟨w9.heap.size,7,none⟩ (.int .i64 d2.now)).setCell ⟨w9.heap.size,8,none⟩ (.slice d2.A6 d2.n6 d2.c6)).setCell ⟨w9.heap.size,9,none⟩ (.slice d2.A7 d2.n7 d2.c7)).setCell ⟨w9.heap.size,10,none⟩ (.slice d2.A8 d2.n8 d2.c8))) w.heap.size d from ((HS3.out.mv ((Ext.refl w9).alloc (.cells #[.slice none 0 0,.slice none 0 0,.slice none 0 0,.int .i64 0,.int .i64 0,.int .i64 0,.int .i64 0,.int .i64 0,.slice none 0 0,.slice none 0 0,.slice none 0 0] 34))).side (us := [.slice d2.A1 d2.n1 d2.c1,.slice d2.A2 d2.n2 d2.c2,.slice d2.A3 d2.n3 d2.c3,.int .i64 d2.lic.A,.int .i64 d2.lic.B,.int .i64 d2.lic.C,.int .i64 d2.dep,.int .i64 d2.now,.slice d2.A6 d2.n6 d2.c6,.slice d2.A7 d2.n7 d2.c7,.slice d2.A8 d2.n8 d2.c8]) (gbox w9 [.slice none 0 0,.slice none 0 0,.slice none 0 0,.int .i64 0,.int .i64 0,.int .i64 0,.int .i64 0,.int .i64 0,.slice none 0 0,.slice none 0 0,.slice none 0 0] 34 11 rfl) (HS3.out.b6.lt bx rfl).2).c3);(try (have HZA3 := Hh (owns_ext HZA2.out (Ext.trans (by repeat (first | exact Ext.refl _ | apply Ext.alloc | apply Ext.drew)) hb3))));(try (with_reducible have HZB3 := Hh (zbox_ext hb3)));(try (have HC9 := Hh (show C11 ((((((((((((w9.setCell ⟨u.heap.size,0,none⟩ (.slice d2.A1 d2.n1 d2.c1)).setCell ⟨u.heap.size,1,none⟩ (.slice d2.A2 d2.n2 d2.c2)).setCell ⟨u.heap.size,2,none⟩ (.slice d2.A3 d2.n3 d2.c3)).setCell ⟨u.heap.size,3,none⟩ (.int .i64 d2.lic.A)).setCell ⟨u.heap.size,4,none⟩ (.int .i64 d2.lic.B)).setCell ⟨u.heap.size,5,none⟩ (.int .i64 d2.lic.C)).setCell ⟨u.heap.size,6,none⟩ (.int .i64 d2.dep)).setCell ⟨u.heap.size,7,none⟩ (.int .i64 d2.now)).setCell ⟨u.heap.size,8,none⟩ (.slice d2.A6 d2.n6 d2.c6)).setCell ⟨u.heap.size,9,none⟩ (.slice d2.A7 d2.n7 d2.c7)).setCell ⟨u.heap.size,10,none⟩ (.slice d2.A8 d2.n8 d2.c8))) w.heap.size d from (HS3.out.side (us := [.slice d2.A1 d2.n1 d2.c1,.slice d2.A2 d2.n2 d2.c2,.slice d2.A3 d2.n3 d2.c3,.int .i64 d2.lic.A,.int .i64 d2.lic.B,.int .i64 d2.lic.C,.int .i64 d2.dep,.int .i64 d2.now,.slice d2.A6 d2.n6 d2.c6,.slice d2.A7 d2.n7 d2.c7,.slice d2.A8 d2.n8 d2.c8]) HZA3.out hbu).c3)));(try (have HC9 := Hh (show C11 ((((((((((((w9.setCell ⟨w2.heap.size,0,none⟩ (.slice d2.A1 d2.n1 d2.c1)).setCell ⟨w2.heap.size,1,none⟩ (.slice d2.A2 d2.n2 d2.c2)).setCell ⟨w2.heap.size,2,none⟩ (.slice d2.A3 d2.n3 d2.c3)).setCell ⟨w2.heap.size,3,none⟩ (.int .i64 d2.lic.A)).setCell ⟨w2.heap.size,4,none⟩ (.int .i64 d2.lic.B)).setCell ⟨w2.heap.size,5,none⟩ (.int .i64 d2.lic.C)).setCell ⟨w2.heap.size,6,none⟩ (.int .i64 d2.dep)).setCell ⟨w2.heap.size,7,none⟩ (.int .i64 d2.now)).setCell ⟨w2.heap.size,8,none⟩ (.slice d2.A6 d2.n6 d2.c6)).setCell ⟨w2.heap.size,9,none⟩ (.slice d2.A7 d2.n7 d2.c7)).setCell ⟨w2.heap.size,10,none⟩ (.slice d2.A8 d2.n8 d2.c8))) w.heap.size d from (HS3.out.side (us := [.slice d2.A1 d2.n1 d2.c1,.slice d2.A2 d2.n2 d2.c2,.slice d2.A3 d2.n3 d2.c3,.int .i64 d2.lic.A,.int .i64 d2.lic.B,.int .i64 d2.lic.C,.int .i64 d2.dep,.int .i64 d2.now,.slice d2.A6 d2.n6 d2.c6,.slice d2.A7 d2.n7 d2.c7,.slice d2.A8 d2.n8 d2.c8]) HZB3.out hb2).c3)));have HG3 := Hh (hd2.base (Nat.le_trans hlo (HS2.out.mv (by repeat (first | exact Ext.refl _ | apply Ext.alloc | apply Ext.drew))).tu.le));have HSM2 := Hh hsm2;have HS4 := Hh (HS3.out.put HG3.out);obtain ⟨⟨r0,r1,r2,r3,r4,r5,r6,r7,r8,r9,r10⟩,⟨rf0,rf1,rf2,rf3,rf4,rf5,rf6,rf7,rf8,rf9,rf10⟩,rl⟩ := cells11 HS3.out.b6;clear hd2 hsm2 hb3;(first | (have hzz := cells11 HZA3.out;obtain ⟨⟨z0,z1,z2,z3,z4,z5,z6,z7,z8,z9,z10⟩,⟨zf0,zf1,zf2,zf3,zf4,zf5,zf6,zf7,zf8,zf9,zf10⟩,zl⟩ := hzz) | (have hzz := cells11 HZB3.out;obtain ⟨⟨z0,z1,z2,z3,z4,z5,z6,z7,z8,z9,z10⟩,⟨zf0,zf1,zf2,zf3,zf4,zf5,zf6,zf7,zf8,zf9,zf10⟩,zl⟩ := hzz) | (have hzz := cells11 (gbox w9 [.slice none 0 0,.slice none 0 0,.slice none 0 0,.int .i64 0,.int .i64 0,.int .i64 0,.int .i64 0,.int .i64 0,.slice none 0 0,.slice none 0 0,.slice none 0 0] 34 11 rfl);obtain ⟨⟨z0,z1,z2,z3,z4,z5,z6,z7,z8,z9,z10⟩,⟨zf0,zf1,zf2,zf3,zf4,zf5,zf6,zf7,zf8,zf9,zf10⟩,zl⟩ := hzz))))
  all_goals
   first
   |skip
    have HZ9 := HZA3
    have hp8 : bx < u.heap.size := by assumption
    have HS6 := Hh (HS3.out.side (us := [.slice d2.A1 d2.n1 d2.c1,.slice d2.A2 d2.n2 d2.c2,.slice d2.A3 d2.n3 d2.c3,.int .i64 d2.lic.A,.int .i64 d2.lic.B,.int .i64 d2.lic.C,.int .i64 d2.dep,.int .i64 d2.now,.slice d2.A6 d2.n6 d2.c6,.slice d2.A7 d2.n7 d2.c7,.slice d2.A8 d2.n8 d2.c8]) HZ9.out hp8)
    have HZF := Hh (puts11 HZ9.out (us := [.slice d2.A1 d2.n1 d2.c1,.slice d2.A2 d2.n2 d2.c2,.slice d2.A3 d2.n3 d2.c3,.int .i64 d2.lic.A,.int .i64 d2.lic.B,.int .i64 d2.lic.C,.int .i64 d2.dep,.int .i64 d2.now,.slice d2.A6 d2.n6 d2.c6,.slice d2.A7 d2.n7 d2.c7,.slice d2.A8 d2.n8 d2.c8]) rfl)
    have HGG := Hh (HG3.out.kept HZ9.out (kept_puts u.heap.size [.slice d2.A1 d2.n1 d2.c1,.slice d2.A2 d2.n2 d2.c2,.slice d2.A3 d2.n3 d2.c3,.int .i64 d2.lic.A,.int .i64 d2.lic.B,.int .i64 d2.lic.C,.int .i64 d2.dep,.int .i64 d2.now,.slice d2.A6 d2.n6 d2.c6,.slice d2.A7 d2.n7 d2.c7,.slice d2.A8 d2.n8 d2.c8] w9 0) (by simp [rowTypes]))
    go_upto_region 8 with fail
    generalize hwq : (((((((((((w9.setCell ⟨u.heap.size,0,none⟩ (.slice d2.A1 d2.n1 d2.c1)).setCell ⟨u.heap.size,1,none⟩ (.slice d2.A2 d2.n2 d2.c2)).setCell ⟨u.heap.size,2,none⟩ (.slice d2.A3 d2.n3 d2.c3)).setCell ⟨u.heap.size,3,none⟩ (.int .i64 d2.lic.A)).setCell ⟨u.heap.size,4,none⟩ (.int .i64 d2.lic.B)).setCell ⟨u.heap.size,5,none⟩ (.int .i64 d2.lic.C)).setCell ⟨u.heap.size,6,none⟩ (.int .i64 d2.dep)).setCell ⟨u.heap.size,7,none⟩ (.int .i64 d2.now)).setCell ⟨u.heap.size,8,none⟩ (.slice d2.A6 d2.n6 d2.c6)).setCell ⟨u.heap.size,9,none⟩ (.slice d2.A7 d2.n7 d2.c7)).setCell ⟨u.heap.size,10,none⟩ (.slice d2.A8 d2.n8 d2.c8)) = w6
    have hwq' : setCells w9 u.heap.size 0 [.slice d2.A1 d2.n1 d2.c1,.slice d2.A2 d2.n2 d2.c2,.slice d2.A3 d2.n3 d2.c3,.int .i64 d2.lic.A,.int .i64 d2.lic.B,.int .i64 d2.lic.C,.int .i64 d2.dep,.int .i64 d2.now,.slice d2.A6 d2.n6 d2.c6,.slice d2.A7 d2.n7 d2.c7,.slice d2.A8 d2.n8 d2.c8] = w6 := hwq
    rw [hwq'] at HS6 HZF HGG
    clear hwq hwq' z0 z1 z2 z3 z4 z5 z6 z7 z8 z9 z10 zf0 zf1 zf2 zf3 zf4 zf5 zf6 zf7 zf8 zf9 zf10 zl HS4 r0 r1 r2 r3 r4 r5 r6 r7 r8 r9 r10 rf0 rf1 rf2 rf3 rf4 rf5 rf6 rf7 rf8 rf9 rf10 rl HS3 HG3
    rcases ok2 with _ | _
    ·skip
     obtain ⟨⟨q0,q1,q2,q3,q4,q5,q6,q7,q8,q9,q10⟩,⟨qf0,qf1,qf2,qf3,qf4,qf5,qf6,qf7,qf8,qf9,qf10⟩,ql⟩ := cells11 HS6.out.b4
     obtain ⟨⟨p0,p1,p2,p3,p4,p5,p6,p7,p8,p9,p10⟩,⟨pf0,pf1,pf2,pf3,pf4,pf5,pf6,pf7,pf8,pf9,pf10⟩,pl⟩ := cells11 HS6.out.b6
     have HF := Hh (HS6.out.fin HS6.out.ge HSM.out)
     clear HS6
     go_wp2
     exact bodyPost_ret (v := .agg #[.slice d.A1 d.n1 d.c1,.slice d.A2 d.n2 d.c2,.slice d.A3 d.n3 d.c3,.int .i64 d.lic.A,.int .i64 d.lic.B,.int .i64 d.lic.C,.int .i64 d.dep,.int .i64 d.now,.slice d.A6 d.n6 d.c6,.slice d.A7 d.n7 d.c7,.slice d.A8 d.n8 d.c8]) (by simp [results,Tryz.results39,go_sem, *]) rfl HF.out
    ·have HS7 := Hh (HS6.out.put HGG.out)
     obtain ⟨⟨p0,p1,p2,p3,p4,p5,p6,p7,p8,p9,p10⟩,⟨pf0,pf1,pf2,pf3,pf4,pf5,pf6,pf7,pf8,pf9,pf10⟩,pl⟩ := cells11 HZF.out
     obtain ⟨⟨r0,r1,r2,r3,r4,r5,r6,r7,r8,r9,r10⟩,⟨rf0,rf1,rf2,rf3,rf4,rf5,rf6,rf7,rf8,rf9,rf10⟩,rl⟩ := cells11 HS6.out.b6
     go_upto_region 20 with fail
     generalize hwq : (((((((((((w6.setCell ⟨bx,0,none⟩ (.slice d2.A1 d2.n1 d2.c1)).setCell ⟨bx,1,none⟩ (.slice d2.A2 d2.n2 d2.c2)).setCell ⟨bx,2,none⟩ (.slice d2.A3 d2.n3 d2.c3)).setCell ⟨bx,3,none⟩ (.int .i64 d2.lic.A)).setCell ⟨bx,4,none⟩ (.int .i64 d2.lic.B)).setCell ⟨bx,5,none⟩ (.int .i64 d2.lic.C)).setCell ⟨bx,6,none⟩ (.int .i64 d2.dep)).setCell ⟨bx,7,none⟩ (.int .i64 d2.now)).setCell ⟨bx,8,none⟩ (.slice d2.A6 d2.n6 d2.c6)).setCell ⟨bx,9,none⟩ (.slice d2.A7 d2.n7 d2.c7)).setCell ⟨bx,10,none⟩ (.slice d2.A8 d2.n8 d2.c8)) = w7
     have hwq' : setCells w6 bx 0 [.slice d2.A1 d2.n1 d2.c1,.slice d2.A2 d2.n2 d2.c2,.slice d2.A3 d2.n3 d2.c3,.int .i64 d2.lic.A,.int .i64 d2.lic.B,.int .i64 d2.lic.C,.int .i64 d2.dep,.int .i64 d2.now,.slice d2.A6 d2.n6 d2.c6,.slice d2.A7 d2.n7 d2.c7,.slice d2.A8 d2.n8 d2.c8] = w7 := hwq
     rw [hwq'] at HS7
     clear hwq hwq' HS6 HZF HGG r0 r1 r2 r3 r4 r5 r6 r7 r8 r9 r10 rf0 rf1 rf2 rf3 rf4 rf5 rf6 rf7 rf8 rf9 rf10 rl p0 p1 p2 p3 p4 p5 p6 p7 p8 p9 p10 pf0 pf1 pf2 pf3 pf4 pf5 pf6 pf7 pf8 pf9 pf10 pl
     obtain ⟨⟨q0,q1,q2,q3,q4,q5,q6,q7,q8,q9,q10⟩,⟨qf0,qf1,qf2,qf3,qf4,qf5,qf6,qf7,qf8,qf9,qf10⟩,ql⟩ := cells11 HS7.out.b4
     obtain ⟨⟨p0,p1,p2,p3,p4,p5,p6,p7,p8,p9,p10⟩,⟨pf0,pf1,pf2,pf3,pf4,pf5,pf6,pf7,pf8,pf9,pf10⟩,pl⟩ := cells11 HS7.out.b6
     have HF := Hh (HS7.out.fin HS7.out.ge HSM2.out)
     clear HS7
     go_wp2
     exact bodyPost_ret (v := .agg #[.slice d2.A1 d2.n1 d2.c1,.slice d2.A2 d2.n2 d2.c2,.slice d2.A3 d2.n3 d2.c3,.int .i64 d2.lic.A,.int .i64 d2.lic.B,.int .i64 d2.lic.C,.int .i64 d2.dep,.int .i64 d2.now,.slice d2.A6 d2.n6 d2.c6,.slice d2.A7 d2.n7 d2.c7,.slice d2.A8 d2.n8 d2.c8]) (by simp [results,Tryz.results39,go_sem, *]) rfl HF.out
   |skip
    have HZ9 := HZB3
    have hp8 : bx < w2.heap.size := by assumption
    have HS6 := Hh (HS3.out.side (us := [.slice d2.A1 d2.n1 d2.c1,.slice d2.A2 d2.n2 d2.c2,.slice d2.A3 d2.n3 d2.c3,.int .i64 d2.lic.A,.int .i64 d2.lic.B,.int .i64 d2.lic.C,.int .i64 d2.dep,.int .i64 d2.now,.slice d2.A6 d2.n6 d2.c6,.slice d2.A7 d2.n7 d2.c7,.slice d2.A8 d2.n8 d2.c8]) HZ9.out hp8)
    have HZF := Hh (puts11 HZ9.out (us := [.slice d2.A1 d2.n1 d2.c1,.slice d2.A2 d2.n2 d2.c2,.slice d2.A3 d2.n3 d2.c3,.int .i64 d2.lic.A,.int .i64 d2.lic.B,.int .i64 d2.lic.C,.int .i64 d2.dep,.int .i64 d2.now,.slice d2.A6 d2.n6 d2.c6,.slice d2.A7 d2.n7 d2.c7,.slice d2.A8 d2.n8 d2.c8]) rfl)
    have HGG := Hh (HG3.out.kept HZ9.out (kept_puts w2.heap.size [.slice d2.A1 d2.n1 d2.c1,.slice d2.A2 d2.n2 d2.c2,.slice d2.A3 d2.n3 d2.c3,.int .i64 d2.lic.A,.int .i64 d2.lic.B,.int .i64 d2.lic.C,.int .i64 d2.dep,.int .i64 d2.now,.slice d2.A6 d2.n6 d2.c6,.slice d2.A7 d2.n7 d2.c7,.slice d2.A8 d2.n8 d2.c8] w9 0) (by simp [rowTypes]))
    go_upto_region 8 with fail
    generalize hwq : (((((((((((w9.setCell ⟨w2.heap.size,0,none⟩ (.slice d2.A1 d2.n1 d2.c1)).setCell ⟨w2.heap.size,1,none⟩ (.slice d2.A2 d2.n2 d2.c2)).setCell ⟨w2.heap.size,2,none⟩ (.slice d2.A3 d2.n3 d2.c3)).setCell ⟨w2.heap.size,3,none⟩ (.int .i64 d2.lic.A)).setCell ⟨w2.heap.size,4,none⟩ (.int .i64 d2.lic.B)).setCell ⟨w2.heap.size,5,none⟩ (.int .i64 d2.lic.C)).setCell ⟨w2.heap.size,6,none⟩ (.int .i64 d2.dep)).setCell ⟨w2.heap.size,7,none⟩ (.int .i64 d2.now)).setCell ⟨w2.heap.size,8,none⟩ (.slice d2.A6 d2.n6 d2.c6)).setCell ⟨w2.heap.size,9,none⟩ (.slice d2.A7 d2.n7 d2.c7)).setCell ⟨w2.heap.size,10,none⟩ (.slice d2.A8 d2.n8 d2.c8)) = w6
    have hwq' : setCells w9 w2.heap.size 0 [.slice d2.A1 d2.n1 d2.c1,.slice d2.A2 d2.n2 d2.c2,.slice d2.A3 d2.n3 d2.c3,.int .i64 d2.lic.A,.int .i64 d2.lic.B,.int .i64 d2.lic.C,.int .i64 d2.dep,.int .i64 d2.now,.slice d2.A6 d2.n6 d2.c6,.slice d2.A7 d2.n7 d2.c7,.slice d2.A8 d2.n8 d2.c8] = w6 := hwq
    rw [hwq'] at HS6 HZF HGG
    clear hwq hwq' z0 z1 z2 z3 z4 z5 z6 z7 z8 z9 z10 zf0 zf1 zf2 zf3 zf4 zf5 zf6 zf7 zf8 zf9 zf10 zl HS4 r0 r1 r2 r3 r4 r5 r6 r7 r8 r9 r10 rf0 rf1 rf2 rf3 rf4 rf5 rf6 rf7 rf8 rf9 rf10 rl HS3 HG3
    rcases ok2 with _ | _
    ·skip
     obtain ⟨⟨q0,q1,q2,q3,q4,q5,q6,q7,q8,q9,q10⟩,⟨qf0,qf1,qf2,qf3,qf4,qf5,qf6,qf7,qf8,qf9,qf10⟩,ql⟩ := cells11 HS6.out.b4
     obtain ⟨⟨p0,p1,p2,p3,p4,p5,p6,p7,p8,p9,p10⟩,⟨pf0,pf1,pf2,pf3,pf4,pf5,pf6,pf7,pf8,pf9,pf10⟩,pl⟩ := cells11 HS6.out.b6
     have HF := Hh (HS6.out.fin HS6.out.ge HSM.out)
     clear HS6
     go_wp2
     exact bodyPost_ret (v := .agg #[.slice d.A1 d.n1 d.c1,.slice d.A2 d.n2 d.c2,.slice d.A3 d.n3 d.c3,.int .i64 d.lic.A,.int .i64 d.lic.B,.int .i64 d.lic.C,.int .i64 d.dep,.int .i64 d.now,.slice d.A6 d.n6 d.c6,.slice d.A7 d.n7 d.c7,.slice d.A8 d.n8 d.c8]) (by simp [results,Tryz.results39,go_sem, *]) rfl HF.out
    ·have HS7 := Hh (HS6.out.put HGG.out)
     obtain ⟨⟨p0,p1,p2,p3,p4,p5,p6,p7,p8,p9,p10⟩,⟨pf0,pf1,pf2,pf3,pf4,pf5,pf6,pf7,pf8,pf9,pf10⟩,pl⟩ := cells11 HZF.out
     obtain ⟨⟨r0,r1,r2,r3,r4,r5,r6,r7,r8,r9,r10⟩,⟨rf0,rf1,rf2,rf3,rf4,rf5,rf6,rf7,rf8,rf9,rf10⟩,rl⟩ := cells11 HS6.out.b6
     go_upto_region 20 with fail
     generalize hwq : (((((((((((w6.setCell ⟨bx,0,none⟩ (.slice d2.A1 d2.n1 d2.c1)).setCell ⟨bx,1,none⟩ (.slice d2.A2 d2.n2 d2.c2)).setCell ⟨bx,2,none⟩ (.slice d2.A3 d2.n3 d2.c3)).setCell ⟨bx,3,none⟩ (.int .i64 d2.lic.A)).setCell ⟨bx,4,none⟩ (.int .i64 d2.lic.B)).setCell ⟨bx,5,none⟩ (.int .i64 d2.lic.C)).setCell ⟨bx,6,none⟩ (.int .i64 d2.dep)).setCell ⟨bx,7,none⟩ (.int .i64 d2.now)).setCell ⟨bx,8,none⟩ (.slice d2.A6 d2.n6 d2.c6)).setCell ⟨bx,9,none⟩ (.slice d2.A7 d2.n7 d2.c7)).setCell ⟨bx,10,none⟩ (.slice d2.A8 d2.n8 d2.c8)) = w7
     have hwq' : setCells w6 bx 0 [.slice d2.A1 d2.n1 d2.c1,.slice d2.A2 d2.n2 d2.c2,.slice d2.A3 d2.n3 d2.c3,.int .i64 d2.lic.A,.int .i64 d2.lic.B,.int .i64 d2.lic.C,.int .i64 d2.dep,.int .i64 d2.now,.slice d2.A6 d2.n6 d2.c6,.slice d2.A7 d2.n7 d2.c7,.slice d2.A8 d2.n8 d2.c8] = w7 := hwq
     rw [hwq'] at HS7
     clear hwq hwq' HS6 HZF HGG r0 r1 r2 r3 r4 r5 r6 r7 r8 r9 r10 rf0 rf1 rf2 rf3 rf4 rf5 rf6 rf7 rf8 rf9 rf10 rl p0 p1 p2 p3 p4 p5 p6 p7 p8 p9 p10 pf0 pf1 pf2 pf3 pf4 pf5 pf6 pf7 pf8 pf9 pf10 pl
     obtain ⟨⟨q0,q1,q2,q3,q4,q5,q6,q7,q8,q9,q10⟩,⟨qf0,qf1,qf2,qf3,qf4,qf5,qf6,qf7,qf8,qf9,qf10⟩,ql⟩ := cells11 HS7.out.b4
     obtain ⟨⟨p0,p1,p2,p3,p4,p5,p6,p7,p8,p9,p10⟩,⟨pf0,pf1,pf2,pf3,pf4,pf5,pf6,pf7,pf8,pf9,pf10⟩,pl⟩ := cells11 HS7.out.b6
     have HF := Hh (HS7.out.fin HS7.out.ge HSM2.out)
     clear HS7
     go_wp2
     exact bodyPost_ret (v := .agg #[.slice d2.A1 d2.n1 d2.c1,.slice d2.A2 d2.n2 d2.c2,.slice d2.A3 d2.n3 d2.c3,.int .i64 d2.lic.A,.int .i64 d2.lic.B,.int .i64 d2.lic.C,.int .i64 d2.dep,.int .i64 d2.now,.slice d2.A6 d2.n6 d2.c6,.slice d2.A7 d2.n7 d2.c7,.slice d2.A8 d2.n8 d2.c8]) (by simp [results,Tryz.results39,go_sem, *]) rfl HF.out
   |skip
    rcases ok2 with _ | _
    ·have HS5 := Hh (HS3.out.mv ((Ext.refl w9).alloc (.cells #[.slice d2.A1 d2.n1 d2.c1,.slice d2.A2 d2.n2 d2.c2,.slice d2.A3 d2.n3 d2.c3,.int .i64 d2.lic.A,.int .i64 d2.lic.B,.int .i64 d2.lic.C,.int .i64 d2.dep,.int .i64 d2.now,.slice d2.A6 d2.n6 d2.c6,.slice d2.A7 d2.n7 d2.c7,.slice d2.A8 d2.n8 d2.c8] 34)))
     clear HS4 r0 r1 r2 r3 r4 r5 r6 r7 r8 r9 r10 rf0 rf1 rf2 rf3 rf4 rf5 rf6 rf7 rf8 rf9 rf10 rl
     go_upto_region 8 with fail
     generalize (w9.alloc (.cells #[.slice d2.A1 d2.n1 d2.c1,.slice d2.A2 d2.n2 d2.c2,.slice d2.A3 d2.n3 d2.c3,.int .i64 d2.lic.A,.int .i64 d2.lic.B,.int .i64 d2.lic.C,.int .i64 d2.dep,.int .i64 d2.now,.slice d2.A6 d2.n6 d2.c6,.slice d2.A7 d2.n7 d2.c7,.slice d2.A8 d2.n8 d2.c8] 34)) = w5 at *
     obtain ⟨⟨q0,q1,q2,q3,q4,q5,q6,q7,q8,q9,q10⟩,⟨qf0,qf1,qf2,qf3,qf4,qf5,qf6,qf7,qf8,qf9,qf10⟩,ql⟩ := cells11 HS5.out.b4
     obtain ⟨⟨p0,p1,p2,p3,p4,p5,p6,p7,p8,p9,p10⟩,⟨pf0,pf1,pf2,pf3,pf4,pf5,pf6,pf7,pf8,pf9,pf10⟩,pl⟩ := cells11 HS5.out.b6
     have HF := Hh (HS5.out.fin HS5.out.ge HSM.out)
     clear HS5
     go_wp2
     exact bodyPost_ret (v := .agg #[.slice d.A1 d.n1 d.c1,.slice d.A2 d.n2 d.c2,.slice d.A3 d.n3 d.c3,.int .i64 d.lic.A,.int .i64 d.lic.B,.int .i64 d.lic.C,.int .i64 d.dep,.int .i64 d.now,.slice d.A6 d.n6 d.c6,.slice d.A7 d.n7 d.c7,.slice d.A8 d.n8 d.c8]) (by simp [results,Tryz.results39,go_sem, *]) rfl HF.out
    ·go_upto_region 20 with fail
     generalize hwq : (((((((((((((w9.setCell ⟨bx,0,none⟩ (.slice d2.A1 d2.n1 d2.c1)).setCell ⟨bx,1,none⟩ (.slice d2.A2 d2.n2 d2.c2)).setCell ⟨bx,2,none⟩ (.slice d2.A3 d2.n3 d2.c3)).setCell ⟨bx,3,none⟩ (.int .i64 d2.lic.A)).setCell ⟨bx,4,none⟩ (.int .i64 d2.lic.B)).setCell ⟨bx,5,none⟩ (.int .i64 d2.lic.C)).setCell ⟨bx,6,none⟩ (.int .i64 d2.dep)).setCell ⟨bx,7,none⟩ (.int .i64 d2.now)).setCell ⟨bx,8,none⟩ (.slice d2.A6 d2.n6 d2.c6)).setCell ⟨bx,9,none⟩ (.slice d2.A7 d2.n7 d2.c7)).setCell ⟨bx,10,none⟩ (.slice d2.A8 d2.n8 d2.c8))).alloc (.cells #[.slice d2.A1 d2.n1 d2.c1,.slice d2.A2 d2.n2 d2.c2,.slice d2.A3 d2.n3 d2.c3,.int .i64 d2.lic.A,.int .i64 d2.lic.B,.int .i64 d2.lic.C,.int .i64 d2.dep,.int .i64 d2.now,.slice d2.A6 d2.n6 d2.c6,.slice d2.A7 d2.n7 d2.c7,.slice d2.A8 d2.n8 d2.c8] 34)) = w4
     have hwq' : (setCells w9 bx 0 [.slice d2.A1 d2.n1 d2.c1,.slice d2.A2 d2.n2 d2.c2,.slice d2.A3 d2.n3 d2.c3,.int .i64 d2.lic.A,.int .i64 d2.lic.B,.int .i64 d2.lic.C,.int .i64 d2.dep,.int .i64 d2.now,.slice d2.A6 d2.n6 d2.c6,.slice d2.A7 d2.n7 d2.c7,.slice d2.A8 d2.n8 d2.c8]).alloc (.cells #[.slice d2.A1 d2.n1 d2.c1,.slice d2.A2 d2.n2 d2.c2,.slice d2.A3 d2.n3 d2.c3,.int .i64 d2.lic.A,.int .i64 d2.lic.B,.int .i64 d2.lic.C,.int .i64 d2.dep,.int .i64 d2.now,.slice d2.A6 d2.n6 d2.c6,.slice d2.A7 d2.n7 d2.c7,.slice d2.A8 d2.n8 d2.c8] 34) = w4 := hwq
     have HS5 := Hh (HS4.out.mv ((Ext.refl (setCells w9 bx 0 [.slice d2.A1 d2.n1 d2.c1,.slice d2.A2 d2.n2 d2.c2,.slice d2.A3 d2.n3 d2.c3,.int .i64 d2.lic.A,.int .i64 d2.lic.B,.int .i64 d2.lic.C,.int .i64 d2.dep,.int .i64 d2.now,.slice d2.A6 d2.n6 d2.c6,.slice d2.A7 d2.n7 d2.c7,.slice d2.A8 d2.n8 d2.c8])).alloc (.cells #[.slice d2.A1 d2.n1 d2.c1,.slice d2.A2 d2.n2 d2.c2,.slice d2.A3 d2.n3 d2.c3,.int .i64 d2.lic.A,.int .i64 d2.lic.B,.int .i64 d2.lic.C,.int .i64 d2.dep,.int .i64 d2.now,.slice d2.A6 d2.n6 d2.c6,.slice d2.A7 d2.n7 d2.c7,.slice d2.A8 d2.n8 d2.c8] 34)))
     rw [hwq'] at HS5
     clear hwq hwq' HS4 r0 r1 r2 r3 r4 r5 r6 r7 r8 r9 r10 rf0 rf1 rf2 rf3 rf4 rf5 rf6 rf7 rf8 rf9 rf10 rl
     obtain ⟨⟨q0,q1,q2,q3,q4,q5,q6,q7,q8,q9,q10⟩,⟨qf0,qf1,qf2,qf3,qf4,qf5,qf6,qf7,qf8,qf9,qf10⟩,ql⟩ := cells11 HS5.out.b4
     obtain ⟨⟨p0,p1,p2,p3,p4,p5,p6,p7,p8,p9,p10⟩,⟨pf0,pf1,pf2,pf3,pf4,pf5,pf6,pf7,pf8,pf9,pf10⟩,pl⟩ := cells11 HS5.out.b6
     have HF := Hh (HS5.out.fin HS5.out.ge HSM2.out)
     clear HS5
     go_wp2
     exact bodyPost_ret (v := .agg #[.slice d2.A1 d2.n1 d2.c1,.slice d2.A2 d2.n2 d2.c2,.slice d2.A3 d2.n3 d2.c3,.int .i64 d2.lic.A,.int .i64 d2.lic.B,.int .i64 d2.lic.C,.int .i64 d2.dep,.int .i64 d2.now,.slice d2.A6 d2.n6 d2.c6,.slice d2.A7 d2.n7 d2.c7,.slice d2.A8 d2.n8 d2.c8]) (by simp [results,Tryz.results39,go_sem, *]) rfl HF.out
 ·skip
  go_upto_region 11 with fail
  obtain ⟨t0,t1,t2,t3,t4,t5,t6,t7,t8,t9,t10⟩ := HS1.out.c3
  have HCd := Hh (show C11 u.drew w.heap.size d from HSd.out.c3)
  go_region_held3 (fun x => x.cell? ⟨w.heap.size,0,none⟩ = some (.slice d.A1 d.n1 d.c1) ∧ x.cell? ⟨w.heap.size,1,none⟩ = some (.slice d.A2 d.n2 d.c2) ∧ x.cell? ⟨w.heap.size,2,none⟩ = some (.slice d.A3 d.n3 d.c3) ∧ x.cell? ⟨w.heap.size,3,none⟩ = some (.int .i64 d.lic.A) ∧ x.cell? ⟨w.heap.size,4,none⟩ = some (.int .i64 d.lic.B) ∧ x.cell? ⟨w.heap.size,5,none⟩ = some (.int .i64 d.lic.C) ∧ x.cell? ⟨w.heap.size,6,none⟩ = some (.int .i64 d.dep) ∧ x.cell? ⟨w.heap.size,7,none⟩ = some (.int .i64 d.now) ∧ x.cell? ⟨w.heap.size,8,none⟩ = some (.slice d.A6 d.n6 d.c6) ∧ x.cell? ⟨w.heap.size,9,none⟩ = some (.slice d.A7 d.n7 d.c7) ∧ x.cell? ⟨w.heap.size,10,none⟩ = some (.slice d.A8 d.n8 d.c8)) ((first | with_reducible exact HC9.out | with_reducible exact HC3.out | with_reducible exact HC6.out | with_reducible exact HC5.out | with_reducible exact HC2.out | with_reducible exact HCd.out | with_reducible exact ⟨t0,t1,t2,t3,t4,t5,t6,t7,t8,t9,t10⟩)) (first
   | (go_at_call 20;(with_reducible refine (HB.out 30 (H9.out _ (by omega) (by omega)) _ HSd.out.cu).mono ?_);rintro e w2 ⟨v2,rfl,⟨hv2a,hv2b⟩,ht2,hc2⟩;have HS2 := Hh (HSd.out.turn ht2 hc2);have HC2 := Hh HS2.out.c3;clear ht2 hc2)
   | (go_at_call 20;(with_reducible refine (HB.out 2 (H9.out _ (by omega) (by omega)) _ HS2.out.cu).mono ?_);rintro e w5 ⟨v5,rfl,⟨hv5a,hv5b⟩,ht5,hc5⟩;have HS5 := Hh (HS2.out.turn ht5 hc5);have HC5 := Hh HS5.out.c3;clear ht5 hc5)
   | (go_at_call 70;(with_reducible refine (Finish_c d lo _ _ _ HS5.out.gd HMD.out (wrap_in64 _)).mono ?_);rintro e w9 ⟨d2,kc,rfl,hd2,hsm2,hb3⟩;have HS3 := Hh (HS5.out.mv hb3);have HC3 := Hh HS3.out.c3;have HG3 := Hh (hd2.base (Nat.le_trans HS5.out.hl HS5.out.tu.le));have HSM2 := Hh hsm2;have HS4 := Hh (HS3.out.put HG3.out);have HC9 := Hh (show C11 ((((((((((((w9.setCell ⟨bx,0,none⟩ (.slice d2.A1 d2.n1 d2.c1)).setCell ⟨bx,1,none⟩ (.slice d2.A2 d2.n2 d2.c2)).setCell ⟨bx,2,none⟩ (.slice d2.A3 d2.n3 d2.c3)).setCell ⟨bx,3,none⟩ (.int .i64 d2.lic.A)).setCell ⟨bx,4,none⟩ (.int .i64 d2.lic.B)).setCell ⟨bx,5,none⟩ (.int .i64 d2.lic.C)).setCell ⟨bx,6,none⟩ (.int .i64 d2.dep)).setCell ⟨bx,7,none⟩ (.int .i64 d2.now)).setCell ⟨bx,8,none⟩ (.slice d2.A6 d2.n6 d2.c6)).setCell ⟨bx,9,none⟩ (.slice d2.A7 d2.n7 d2.c7)).setCell ⟨bx,10,none⟩ (.slice d2.A8 d2.n8 d2.c8))) w.heap.size d from HS4.out.c3);obtain ⟨⟨r0,r1,r2,r3,r4,r5,r6,r7,r8,r9,r10⟩,⟨rf0,rf1,rf2,rf3,rf4,rf5,rf6,rf7,rf8,rf9,rf10⟩,rl⟩ := cells11 HS3.out.b6;clear hd2 hsm2 hb3))
  all_goals
   skip
   generalize hwq : (((((((((((w9.setCell ⟨bx,0,none⟩ (.slice d2.A1 d2.n1 d2.c1)).setCell ⟨bx,1,none⟩ (.slice d2.A2 d2.n2 d2.c2)).setCell ⟨bx,2,none⟩ (.slice d2.A3 d2.n3 d2.c3)).setCell ⟨bx,3,none⟩ (.int .i64 d2.lic.A)).setCell ⟨bx,4,none⟩ (.int .i64 d2.lic.B)).setCell ⟨bx,5,none⟩ (.int .i64 d2.lic.C)).setCell ⟨bx,6,none⟩ (.int .i64 d2.dep)).setCell ⟨bx,7,none⟩ (.int .i64 d2.now)).setCell ⟨bx,8,none⟩ (.slice d2.A6 d2.n6 d2.c6)).setCell ⟨bx,9,none⟩ (.slice d2.A7 d2.n7 d2.c7)).setCell ⟨bx,10,none⟩ (.slice d2.A8 d2.n8 d2.c8)) = w4
   have hwq' : setCells w9 bx 0 [.slice d2.A1 d2.n1 d2.c1,.slice d2.A2 d2.n2 d2.c2,.slice d2.A3 d2.n3 d2.c3,.int .i64 d2.lic.A,.int .i64 d2.lic.B,.int .i64 d2.lic.C,.int .i64 d2.dep,.int .i64 d2.now,.slice d2.A6 d2.n6 d2.c6,.slice d2.A7 d2.n7 d2.c7,.slice d2.A8 d2.n8 d2.c8] = w4 := hwq
   rw [hwq'] at HS4
   clear hwq hwq' r0 r1 r2 r3 r4 r5 r6 r7 r8 r9 r10 rf0 rf1 rf2 rf3 rf4 rf5 rf6 rf7 rf8 rf9 rf10 rl
   obtain ⟨⟨q0,q1,q2,q3,q4,q5,q6,q7,q8,q9,q10⟩,⟨qf0,qf1,qf2,qf3,qf4,qf5,qf6,qf7,qf8,qf9,qf10⟩,ql⟩ := cells11 HS4.out.b4
   by_cases hkc : kc = 0
   ·subst hkc
    obtain ⟨⟨p0,p1,p2,p3,p4,p5,p6,p7,p8,p9,p10⟩,⟨pf0,pf1,pf2,pf3,pf4,pf5,pf6,pf7,pf8,pf9,pf10⟩,pl⟩ := cells11 HS4.out.b6
    have HF := Hh (HS4.out.fin HS4.out.ge HSM2.out)
    clear HS4
    go_wp2
    exact bodyPost_ret (v := .agg #[.slice d2.A1 d2.n1 d2.c1,.slice d2.A2 d2.n2 d2.c2,.slice d2.A3 d2.n3 d2.c3,.int .i64 d2.lic.A,.int .i64 d2.lic.B,.int .i64 d2.lic.C,.int .i64 d2.dep,.int .i64 d2.now,.slice d2.A6 d2.n6 d2.c6,.slice d2.A7 d2.n7 d2.c7,.slice d2.A8 d2.n8 d2.c8]) (by simp [results,Tryz.results39,go_sem, *]) rfl HF.out
   ·have hkc1 : (kc == 0) = false := by rw [beq_eq_false_iff_ne];exact hkc
    have hkc2 : (kc != 0) = true := by simp [hkc]
    have hkc3 : decide (kc = 0) = false := decide_eq_false hkc
    clear hkc
    obtain ⟨⟨p0,p1,p2,p3,p4,p5,p6,p7,p8,p9,p10⟩,⟨pf0,pf1,pf2,pf3,pf4,pf5,pf6,pf7,pf8,pf9,pf10⟩,pl⟩ := cells11 HS4.out.b3
    have HF := Hh (HS4.out.fin HS4.out.gd HSM.out)
    clear HS4
    go_wp2
    exact bodyPost_ret (v := .agg #[.slice d.A1 d.n1 d.c1,.slice d.A2 d.n2 d.c2,.slice d.A3 d.n3 d.c3,.int .i64 d.lic.A,.int .i64 d.lic.B,.int .i64 d.lic.C,.int .i64 d.dep,.int .i64 d.now,.slice d.A6 d.n6 d.c6,.slice d.A7 d.n7 d.c7,.slice d.A8 d.n8 d.c8]) (by simp [results,Tryz.results39,go_sem, *]) rfl HF.out
 ·skip
  go_upto_region 13 with fail
  obtain ⟨t0,t1,t2,t3,t4,t5,t6,t7,t8,t9,t10⟩ := HS1.out.c3
  have HCd := Hh (show C11 u.drew w.heap.size d from HSd.out.c3)
  go_region_held3 (fun x => x.cell? ⟨w.heap.size,0,none⟩ = some (.slice d.A1 d.n1 d.c1) ∧ x.cell? ⟨w.heap.size,1,none⟩ = some (.slice d.A2 d.n2 d.c2) ∧ x.cell? ⟨w.heap.size,2,none⟩ = some (.slice d.A3 d.n3 d.c3) ∧ x.cell? ⟨w.heap.size,3,none⟩ = some (.int .i64 d.lic.A) ∧ x.cell? ⟨w.heap.size,4,none⟩ = some (.int .i64 d.lic.B) ∧ x.cell? ⟨w.heap.size,5,none⟩ = some (.int .i64 d.lic.C) ∧ x.cell? ⟨w.heap.size,6,none⟩ = some (.int .i64 d.dep) ∧ x.cell? ⟨w.heap.size,7,none⟩ = some (.int .i64 d.now) ∧ x.cell? ⟨w.heap.size,8,none⟩ = some (.slice d.A6 d.n6 d.c6) ∧ x.cell? ⟨w.heap.size,9,none⟩ = some (.slice d.A7 d.n7 d.c7) ∧ x.cell? ⟨w.heap.size,10,none⟩ = some (.slice d.A8 d.n8 d.c8)) ((first | with_reducible exact HC9.out | with_reducible exact HC3.out | with_reducible exact HC6.out | with_reducible exact HC5.out | with_reducible exact HC2.out | with_reducible exact HCd.out | with_reducible exact ⟨t0,t1,t2,t3,t4,t5,t6,t7,t8,t9,t10⟩)) (first
   | (go_at_call 20;(with_reducible refine (HB.out (d.n2 : Int) (H9.out _ (by omega) (by omega)) _ HSd.out.cu).mono ?_);rintro e w2 ⟨v2,rfl,⟨hv2a,hv2b⟩,ht2,hc2⟩;have HS2 := Hh (HSd.out.turn ht2 hc2);have HC2 := Hh HS2.out.c3;clear ht2 hc2)
   | (go_at_call 71;(with_reducible refine (Fail_c d lo _ _ HS2.out.gd HMD.out).mono ?_);rintro e w9 ⟨d2,kc,rfl,hd2,hsm2,hb3⟩;have HS3 := Hh (HS2.out.mv hb3);have HC3 := Hh HS3.out.c3;have HG3 := Hh (hd2.base (Nat.le_trans HS2.out.hl HS2.out.tu.le));have HSM2 := Hh hsm2;have HS4 := Hh (HS3.out.put HG3.out);have HC9 := Hh (show C11 ((((((((((((w9.setCell ⟨bx,0,none⟩ (.slice d2.A1 d2.n1 d2.c1)).setCell ⟨bx,1,none⟩ (.slice d2.A2 d2.n2 d2.c2)).setCell ⟨bx,2,none⟩ (.slice d2.A3 d2.n3 d2.c3)).setCell ⟨bx,3,none⟩ (.int .i64 d2.lic.A)).setCell ⟨bx,4,none⟩ (.int .i64 d2.lic.B)).setCell ⟨bx,5,none⟩ (.int .i64 d2.lic.C)).setCell ⟨bx,6,none⟩ (.int .i64 d2.dep)).setCell ⟨bx,7,none⟩ (.int .i64 d2.now)).setCell ⟨bx,8,none⟩ (.slice d2.A6 d2.n6 d2.c6)).setCell ⟨bx,9,none⟩ (.slice d2.A7 d2.n7 d2.c7)).setCell ⟨bx,10,none⟩ (.slice d2.A8 d2.n8 d2.c8))) w.heap.size d from HS4.out.c3);obtain ⟨⟨r0,r1,r2,r3,r4,r5,r6,r7,r8,r9,r10⟩,⟨rf0,rf1,rf2,rf3,rf4,rf5,rf6,rf7,rf8,rf9,rf10⟩,rl⟩ := cells11 HS3.out.b6;clear hd2 hsm2 hb3))
  all_goals
   skip
   generalize hwq : (((((((((((w9.setCell ⟨bx,0,none⟩ (.slice d2.A1 d2.n1 d2.c1)).setCell ⟨bx,1,none⟩ (.slice d2.A2 d2.n2 d2.c2)).setCell ⟨bx,2,none⟩ (.slice d2.A3 d2.n3 d2.c3)).setCell ⟨bx,3,none⟩ (.int .i64 d2.lic.A)).setCell ⟨bx,4,none⟩ (.int .i64 d2.lic.B)).setCell ⟨bx,5,none⟩ (.int .i64 d2.lic.C)).setCell ⟨bx,6,none⟩ (.int .i64 d2.dep)).setCell ⟨bx,7,none⟩ (.int .i64 d2.now)).setCell ⟨bx,8,none⟩ (.slice d2.A6 d2.n6 d2.c6)).setCell ⟨bx,9,none⟩ (.slice d2.A7 d2.n7 d2.c7)).setCell ⟨bx,10,none⟩ (.slice d2.A8 d2.n8 d2.c8)) = w4
   have hwq' : setCells w9 bx 0 [.slice d2.A1 d2.n1 d2.c1,.slice d2.A2 d2.n2 d2.c2,.slice d2.A3 d2.n3 d2.c3,.int .i64 d2.lic.A,.int .i64 d2.lic.B,.int .i64 d2.lic.C,.int .i64 d2.dep,.int .i64 d2.now,.slice d2.A6 d2.n6 d2.c6,.slice d2.A7 d2.n7 d2.c7,.slice d2.A8 d2.n8 d2.c8] = w4 := hwq
   rw [hwq'] at HS4
   clear hwq hwq' r0 r1 r2 r3 r4 r5 r6 r7 r8 r9 r10 rf0 rf1 rf2 rf3 rf4 rf5 rf6 rf7 rf8 rf9 rf10 rl
   obtain ⟨⟨q0,q1,q2,q3,q4,q5,q6,q7,q8,q9,q10⟩,⟨qf0,qf1,qf2,qf3,qf4,qf5,qf6,qf7,qf8,qf9,qf10⟩,ql⟩ := cells11 HS4.out.b4
   by_cases hkc : kc = 0
   ·subst hkc
    obtain ⟨⟨p0,p1,p2,p3,p4,p5,p6,p7,p8,p9,p10⟩,⟨pf0,pf1,pf2,pf3,pf4,pf5,pf6,pf7,pf8,pf9,pf10⟩,pl⟩ := cells11 HS4.out.b6
    have HF := Hh (HS4.out.fin HS4.out.ge HSM2.out)
    clear HS4
    go_wp2
    exact bodyPost_ret (v := .agg #[.slice d2.A1 d2.n1 d2.c1,.slice d2.A2 d2.n2 d2.c2,.slice d2.A3 d2.n3 d2.c3,.int .i64 d2.lic.A,.int .i64 d2.lic.B,.int .i64 d2.lic.C,.int .i64 d2.dep,.int .i64 d2.now,.slice d2.A6 d2.n6 d2.c6,.slice d2.A7 d2.n7 d2.c7,.slice d2.A8 d2.n8 d2.c8]) (by simp [results,Tryz.results39,go_sem, *]) rfl HF.out
   ·have hkc1 : (kc == 0) = false := by rw [beq_eq_false_iff_ne];exact hkc
    have hkc2 : (kc != 0) = true := by simp [hkc]
    have hkc3 : decide (kc = 0) = false := decide_eq_false hkc
    clear hkc
    obtain ⟨⟨p0,p1,p2,p3,p4,p5,p6,p7,p8,p9,p10⟩,⟨pf0,pf1,pf2,pf3,pf4,pf5,pf6,pf7,pf8,pf9,pf10⟩,pl⟩ := cells11 HS4.out.b3
    have HF := Hh (HS4.out.fin HS4.out.gd HSM.out)
    clear HS4
    go_wp2
    exact bodyPost_ret (v := .agg #[.slice d.A1 d.n1 d.c1,.slice d.A2 d.n2 d.c2,.slice d.A3 d.n3 d.c3,.int .i64 d.lic.A,.int .i64 d.lic.B,.int .i64 d.lic.C,.int .i64 d.dep,.int .i64 d.now,.slice d.A6 d.n6 d.c6,.slice d.A7 d.n7 d.c7,.slice d.A8 d.n8 d.c8]) (by simp [results,Tryz.results39,go_sem, *]) rfl HF.out
 ·skip
  go_upto_region 15 with fail
  obtain ⟨t0,t1,t2,t3,t4,t5,t6,t7,t8,t9,t10⟩ := HS1.out.c3
  have HCd := Hh (show C11 u.drew w.heap.size d from HSd.out.c3)
  go_region_held3 (fun x => x.cell? ⟨w.heap.size,0,none⟩ = some (.slice d.A1 d.n1 d.c1) ∧ x.cell? ⟨w.heap.size,1,none⟩ = some (.slice d.A2 d.n2 d.c2) ∧ x.cell? ⟨w.heap.size,2,none⟩ = some (.slice d.A3 d.n3 d.c3) ∧ x.cell? ⟨w.heap.size,3,none⟩ = some (.int .i64 d.lic.A) ∧ x.cell? ⟨w.heap.size,4,none⟩ = some (.int .i64 d.lic.B) ∧ x.cell? ⟨w.heap.size,5,none⟩ = some (.int .i64 d.lic.C) ∧ x.cell? ⟨w.heap.size,6,none⟩ = some (.int .i64 d.dep) ∧ x.cell? ⟨w.heap.size,7,none⟩ = some (.int .i64 d.now) ∧ x.cell? ⟨w.heap.size,8,none⟩ = some (.slice d.A6 d.n6 d.c6) ∧ x.cell? ⟨w.heap.size,9,none⟩ = some (.slice d.A7 d.n7 d.c7) ∧ x.cell? ⟨w.heap.size,10,none⟩ = some (.slice d.A8 d.n8 d.c8)) ((first | with_reducible exact HC9.out | with_reducible exact HC3.out | with_reducible exact HC6.out | with_reducible exact HC5.out | with_reducible exact HC2.out | with_reducible exact HCd.out | with_reducible exact ⟨t0,t1,t2,t3,t4,t5,t6,t7,t8,t9,t10⟩)) (first
   | (go_at_call 20;(with_reducible refine (HB.out (d.n2 : Int) (H9.out _ (by omega) (by omega)) _ HSd.out.cu).mono ?_);rintro e w2 ⟨v2,rfl,⟨hv2a,hv2b⟩,ht2,hc2⟩;have HS2 := Hh (HSd.out.turn ht2 hc2);have HC2 := Hh HS2.out.c3;clear ht2 hc2)
   | (go_at_call 72;(with_reducible refine (Resume_c d lo _ _ HS2.out.gd HMD.out).mono ?_);rintro e w9 ⟨d2,kc,rfl,hd2,hsm2,hb3⟩;have HS3 := Hh (HS2.out.mv hb3);have HC3 := Hh HS3.out.c3;have HG3 := Hh (hd2.base (Nat.le_trans HS2.out.hl HS2.out.tu.le));have HSM2 := Hh hsm2;have HS4 := Hh (HS3.out.put HG3.out);have HC9 := Hh (show C11 ((((((((((((w9.setCell ⟨bx,0,none⟩ (.slice d2.A1 d2.n1 d2.c1)).setCell ⟨bx,1,none⟩ (.slice d2.A2 d2.n2 d2.c2)).setCell ⟨bx,2,none⟩ (.slice d2.A3 d2.n3 d2.c3)).setCell ⟨bx,3,none⟩ (.int .i64 d2.lic.A)).setCell ⟨bx,4,none⟩ (.int .i64 d2.lic.B)).setCell ⟨bx,5,none⟩ (.int .i64 d2.lic.C)).setCell ⟨bx,6,none⟩ (.int .i64 d2.dep)).setCell ⟨bx,7,none⟩ (.int .i64 d2.now)).setCell ⟨bx,8,none⟩ (.slice d2.A6 d2.n6 d2.c6)).setCell ⟨bx,9,none⟩ (.slice d2.A7 d2.n7 d2.c7)).setCell ⟨bx,10,none⟩ (.slice d2.A8 d2.n8 d2.c8))) w.heap.size d from HS4.out.c3);obtain ⟨⟨r0,r1,r2,r3,r4,r5,r6,r7,r8,r9,r10⟩,⟨rf0,rf1,rf2,rf3,rf4,rf5,rf6,rf7,rf8,rf9,rf10⟩,rl⟩ := cells11 HS3.out.b6;clear hd2 hsm2 hb3))
  all_goals
   skip
   generalize hwq : (((((((((((w9.setCell ⟨bx,0,none⟩ (.slice d2.A1 d2.n1 d2.c1)).setCell ⟨bx,1,none⟩ (.slice d2.A2 d2.n2 d2.c2)).setCell ⟨bx,2,none⟩ (.slice d2.A3 d2.n3 d2.c3)).setCell ⟨bx,3,none⟩ (.int .i64 d2.lic.A)).setCell ⟨bx,4,none⟩ (.int .i64 d2.lic.B)).setCell ⟨bx,5,none⟩ (.int .i64 d2.lic.C)).setCell ⟨bx,6,none⟩ (.int .i64 d2.dep)).setCell ⟨bx,7,none⟩ (.int .i64 d2.now)).setCell ⟨bx,8,none⟩ (.slice d2.A6 d2.n6 d2.c6)).setCell ⟨bx,9,none⟩ (.slice d2.A7 d2.n7 d2.c7)).setCell ⟨bx,10,none⟩ (.slice d2.A8 d2.n8 d2.c8)) = w4
   have hwq' : setCells w9 bx 0 [.slice d2.A1 d2.n1 d2.c1,.slice d2.A2 d2.n2 d2.c2,.slice d2.A3 d2.n3 d2.c3,.int .i64 d2.lic.A,.int .i64 d2.lic.B,.int .i64 d2.lic.C,.int .i64 d2.dep,.int .i64 d2.now,.slice d2.A6 d2.n6 d2.c6,.slice d2.A7 d2.n7 d2.c7,.slice d2.A8 d2.n8 d2.c8] = w4 := hwq
   rw [hwq'] at HS4
   clear hwq hwq' r0 r1 r2 r3 r4 r5 r6 r7 r8 r9 r10 rf0 rf1 rf2 rf3 rf4 rf5 rf6 rf7 rf8 rf9 rf10 rl
   obtain ⟨⟨q0,q1,q2,q3,q4,q5,q6,q7,q8,q9,q10⟩,⟨qf0,qf1,qf2,qf3,qf4,qf5,qf6,qf7,qf8,qf9,qf10⟩,ql⟩ := cells11 HS4.out.b4
   by_cases hkc : kc = 0
   ·subst hkc
    obtain ⟨⟨p0,p1,p2,p3,p4,p5,p6,p7,p8,p9,p10⟩,⟨pf0,pf1,pf2,pf3,pf4,pf5,pf6,pf7,pf8,pf9,pf10⟩,pl⟩ := cells11 HS4.out.b6
    have HF := Hh (HS4.out.fin HS4.out.ge HSM2.out)
    clear HS4
    go_wp2
    exact bodyPost_ret (v := .agg #[.slice d2.A1 d2.n1 d2.c1,.slice d2.A2 d2.n2 d2.c2,.slice d2.A3 d2.n3 d2.c3,.int .i64 d2.lic.A,.int .i64 d2.lic.B,.int .i64 d2.lic.C,.int .i64 d2.dep,.int .i64 d2.now,.slice d2.A6 d2.n6 d2.c6,.slice d2.A7 d2.n7 d2.c7,.slice d2.A8 d2.n8 d2.c8]) (by simp [results,Tryz.results39,go_sem, *]) rfl HF.out
   ·have hkc1 : (kc == 0) = false := by rw [beq_eq_false_iff_ne];exact hkc
    have hkc2 : (kc != 0) = true := by simp [hkc]
    have hkc3 : decide (kc = 0) = false := decide_eq_false hkc
    clear hkc
    obtain ⟨⟨p0,p1,p2,p3,p4,p5,p6,p7,p8,p9,p10⟩,⟨pf0,pf1,pf2,pf3,pf4,pf5,pf6,pf7,pf8,pf9,pf10⟩,pl⟩ := cells11 HS4.out.b3
    have HF := Hh (HS4.out.fin HS4.out.gd HSM.out)
    clear HS4
    go_wp2
    exact bodyPost_ret (v := .agg #[.slice d.A1 d.n1 d.c1,.slice d.A2 d.n2 d.c2,.slice d.A3 d.n3 d.c3,.int .i64 d.lic.A,.int .i64 d.lic.B,.int .i64 d.lic.C,.int .i64 d.dep,.int .i64 d.now,.slice d.A6 d.n6 d.c6,.slice d.A7 d.n7 d.c7,.slice d.A8 d.n8 d.c8]) (by simp [results,Tryz.results39,go_sem, *]) rfl HF.out
 ·skip
  go_upto_region 17 with fail
  obtain ⟨t0,t1,t2,t3,t4,t5,t6,t7,t8,t9,t10⟩ := HS1.out.c3
  have HCd := Hh (show C11 u.drew w.heap.size d from HSd.out.c3)
  go_region_held3 (fun x => x.cell? ⟨w.heap.size,0,none⟩ = some (.slice d.A1 d.n1 d.c1) ∧ x.cell? ⟨w.heap.size,1,none⟩ = some (.slice d.A2 d.n2 d.c2) ∧ x.cell? ⟨w.heap.size,2,none⟩ = some (.slice d.A3 d.n3 d.c3) ∧ x.cell? ⟨w.heap.size,3,none⟩ = some (.int .i64 d.lic.A) ∧ x.cell? ⟨w.heap.size,4,none⟩ = some (.int .i64 d.lic.B) ∧ x.cell? ⟨w.heap.size,5,none⟩ = some (.int .i64 d.lic.C) ∧ x.cell? ⟨w.heap.size,6,none⟩ = some (.int .i64 d.dep) ∧ x.cell? ⟨w.heap.size,7,none⟩ = some (.int .i64 d.now) ∧ x.cell? ⟨w.heap.size,8,none⟩ = some (.slice d.A6 d.n6 d.c6) ∧ x.cell? ⟨w.heap.size,9,none⟩ = some (.slice d.A7 d.n7 d.c7) ∧ x.cell? ⟨w.heap.size,10,none⟩ = some (.slice d.A8 d.n8 d.c8)) ((first | with_reducible exact HC9.out | with_reducible exact HC3.out | with_reducible exact HC6.out | with_reducible exact HC5.out | with_reducible exact HC2.out | with_reducible exact HCd.out | with_reducible exact ⟨t0,t1,t2,t3,t4,t5,t6,t7,t8,t9,t10⟩)) (first
   | (go_at_call 20;(with_reducible refine (HB.out 6 (H9.out _ (by omega) (by omega)) _ HSd.out.cu).mono ?_);rintro e w2 ⟨v2,rfl,⟨hv2a,hv2b⟩,ht2,hc2⟩;have HS2 := Hh (HSd.out.turn ht2 hc2);have HC2 := Hh HS2.out.c3;clear ht2 hc2)
   | (go_at_call 20;(with_reducible refine (HB.out 4 (H9.out _ (by omega) (by omega)) _ HS2.out.cu).mono ?_);rintro e w5 ⟨v5,rfl,⟨hv5a,hv5b⟩,ht5,hc5⟩;have HS5 := Hh (HS2.out.turn ht5 hc5);have HC5 := Hh HS5.out.c3;clear ht5 hc5)
   | (go_at_call 20;(with_reducible refine (HB.out 2 (H9.out _ (by omega) (by omega)) _ HS5.out.cu).mono ?_);rintro e w6 ⟨v6,rfl,⟨hv6a,hv6b⟩,ht6,hc6⟩;have HS6 := Hh (HS5.out.turn ht6 hc6);have HC6 := Hh HS6.out.c3;clear ht6 hc6)
   | (go_at_call 73;(with_reducible refine (Resize_c d lo ⟨v2,v5,v6⟩ _ HS6.out.gd HMD.out).mono ?_);rintro e w9 ⟨d2,kc,rfl,hd2,hsm2,hb3⟩;have HS3 := Hh (HS6.out.mv hb3);have HC3 := Hh HS3.out.c3;have HG3 := Hh (hd2.base (Nat.le_trans HS6.out.hl HS6.out.tu.le));have HSM2 := Hh hsm2;have HS4 := Hh (HS3.out.put HG3.out);have HC9 := Hh (show C11 ((((((((((((w9.setCell ⟨bx,0,none⟩ (.slice d2.A1 d2.n1 d2.c1)).setCell ⟨bx,1,none⟩ (.slice d2.A2 d2.n2 d2.c2)).setCell ⟨bx,2,none⟩ (.slice d2.A3 d2.n3 d2.c3)).setCell ⟨bx,3,none⟩ (.int .i64 d2.lic.A)).setCell ⟨bx,4,none⟩ (.int .i64 d2.lic.B)).setCell ⟨bx,5,none⟩ (.int .i64 d2.lic.C)).setCell ⟨bx,6,none⟩ (.int .i64 d2.dep)).setCell ⟨bx,7,none⟩ (.int .i64 d2.now)).setCell ⟨bx,8,none⟩ (.slice d2.A6 d2.n6 d2.c6)).setCell ⟨bx,9,none⟩ (.slice d2.A7 d2.n7 d2.c7)).setCell ⟨bx,10,none⟩ (.slice d2.A8 d2.n8 d2.c8))) w.heap.size d from HS4.out.c3);obtain ⟨⟨r0,r1,r2,r3,r4,r5,r6,r7,r8,r9,r10⟩,⟨rf0,rf1,rf2,rf3,rf4,rf5,rf6,rf7,rf8,rf9,rf10⟩,rl⟩ := cells11 HS3.out.b6;clear hd2 hsm2 hb3))
  all_goals
   skip
   generalize hwq : (((((((((((w9.setCell ⟨bx,0,none⟩ (.slice d2.A1 d2.n1 d2.c1)).setCell ⟨bx,1,none⟩ (.slice d2.A2 d2.n2 d2.c2)).setCell ⟨bx,2,none⟩ (.slice d2.A3 d2.n3 d2.c3)).setCell ⟨bx,3,none⟩ (.int .i64 d2.lic.A)).setCell ⟨bx,4,none⟩ (.int .i64 d2.lic.B)).setCell ⟨bx,5,none⟩ (.int .i64 d2.lic.C)).setCell ⟨bx,6,none⟩ (.int .i64 d2.dep)).setCell ⟨bx,7,none⟩ (.int .i64 d2.now)).setCell ⟨bx,8,none⟩ (.slice d2.A6 d2.n6 d2.c6)).setCell ⟨bx,9,none⟩ (.slice d2.A7 d2.n7 d2.c7)).setCell ⟨bx,10,none⟩ (.slice d2.A8 d2.n8 d2.c8)) = w4
   have hwq' : setCells w9 bx 0 [.slice d2.A1 d2.n1 d2.c1,.slice d2.A2 d2.n2 d2.c2,.slice d2.A3 d2.n3 d2.c3,.int .i64 d2.lic.A,.int .i64 d2.lic.B,.int .i64 d2.lic.C,.int .i64 d2.dep,.int .i64 d2.now,.slice d2.A6 d2.n6 d2.c6,.slice d2.A7 d2.n7 d2.c7,.slice d2.A8 d2.n8 d2.c8] = w4 := hwq
   rw [hwq'] at HS4
   clear hwq hwq' r0 r1 r2 r3 r4 r5 r6 r7 r8 r9 r10 rf0 rf1 rf2 rf3 rf4 rf5 rf6 rf7 rf8 rf9 rf10 rl
   obtain ⟨⟨q0,q1,q2,q3,q4,q5,q6,q7,q8,q9,q10⟩,⟨qf0,qf1,qf2,qf3,qf4,qf5,qf6,qf7,qf8,qf9,qf10⟩,ql⟩ := cells11 HS4.out.b4
   by_cases hkc : kc = 0
   ·subst hkc
    obtain ⟨⟨p0,p1,p2,p3,p4,p5,p6,p7,p8,p9,p10⟩,⟨pf0,pf1,pf2,pf3,pf4,pf5,pf6,pf7,pf8,pf9,pf10⟩,pl⟩ := cells11 HS4.out.b6
    have HF := Hh (HS4.out.fin HS4.out.ge HSM2.out)
    clear HS4
    go_wp2
    exact bodyPost_ret (v := .agg #[.slice d2.A1 d2.n1 d2.c1,.slice d2.A2 d2.n2 d2.c2,.slice d2.A3 d2.n3 d2.c3,.int .i64 d2.lic.A,.int .i64 d2.lic.B,.int .i64 d2.lic.C,.int .i64 d2.dep,.int .i64 d2.now,.slice d2.A6 d2.n6 d2.c6,.slice d2.A7 d2.n7 d2.c7,.slice d2.A8 d2.n8 d2.c8]) (by simp [results,Tryz.results39,go_sem, *]) rfl HF.out
   ·have hkc1 : (kc == 0) = false := by rw [beq_eq_false_iff_ne];exact hkc
    have hkc2 : (kc != 0) = true := by simp [hkc]
    have hkc3 : decide (kc = 0) = false := decide_eq_false hkc
    clear hkc
    obtain ⟨⟨p0,p1,p2,p3,p4,p5,p6,p7,p8,p9,p10⟩,⟨pf0,pf1,pf2,pf3,pf4,pf5,pf6,pf7,pf8,pf9,pf10⟩,pl⟩ := cells11 HS4.out.b3
    have HF := Hh (HS4.out.fin HS4.out.gd HSM.out)
    clear HS4
    go_wp2
    exact bodyPost_ret (v := .agg #[.slice d.A1 d.n1 d.c1,.slice d.A2 d.n2 d.c2,.slice d.A3 d.n3 d.c3,.int .i64 d.lic.A,.int .i64 d.lic.B,.int .i64 d.lic.C,.int .i64 d.dep,.int .i64 d.now,.slice d.A6 d.n6 d.c6,.slice d.A7 d.n7 d.c7,.slice d.A8 d.n8 d.c8]) (by simp [results,Tryz.results39,go_sem, *]) rfl HF.out
 ·have hd7 : decide (k < 7) = false := by rw [decide_eq_false_iff_not];omega
  have hd9 : decide (k < 9) = false := by rw [decide_eq_false_iff_not];omega
  have e9 : (k == 9) = false := by rw [beq_eq_false_iff_ne];omega
  have e10 : (k == 10) = false := by rw [beq_eq_false_iff_ne];omega
  have e11 : (k == 11) = false := by rw [beq_eq_false_iff_ne];omega
  have e12 : (k == 12) = false := by rw [beq_eq_false_iff_ne];omega
  obtain ⟨⟨t0,t1,t2,t3,t4,t5,t6,t7,t8,t9,t10⟩,⟨f0,f1,f2,f3,f4,f5,f6,f7,f8,f9,f10⟩,tl⟩ := cells11 HS1.out.b3
  by_cases hn7 : 0 < d.n7
  rotate_left
  ·have hdn : decide (0 < d.n7) = false := decide_eq_false hn7
   have hdn2 : decide ((0 : Int) < (d.n7 : Int)) = false := by rw [decide_eq_false_iff_not];omega
   clear hn7
   obtain ⟨⟨q0,q1,q2,q3,q4,q5,q6,q7,q8,q9,q10⟩,⟨qf0,qf1,qf2,qf3,qf4,qf5,qf6,qf7,qf8,qf9,qf10⟩,ql⟩ := cells11 HS1.out.b4
   obtain ⟨⟨p0,p1,p2,p3,p4,p5,p6,p7,p8,p9,p10⟩,⟨pf0,pf1,pf2,pf3,pf4,pf5,pf6,pf7,pf8,pf9,pf10⟩,pl⟩ := cells11 HS1.out.b6
   have HF := Hh (HS1.out.fin HS1.out.ge HSM.out)
   clear HS1 HSd
   go_wp2
   exact bodyPost_ret (v := .agg #[.slice d.A1 d.n1 d.c1,.slice d.A2 d.n2 d.c2,.slice d.A3 d.n3 d.c3,.int .i64 d.lic.A,.int .i64 d.lic.B,.int .i64 d.lic.C,.int .i64 d.dep,.int .i64 d.now,.slice d.A6 d.n6 d.c6,.slice d.A7 d.n7 d.c7,.slice d.A8 d.n8 d.c8]) (by simp [results,Tryz.results39,go_sem, *]) rfl HF.out
  have hdn : decide (0 < d.n7) = true := decide_eq_true hn7
  have hdn2 : decide ((0 : Int) < (d.n7 : Int)) = true := by rw [decide_eq_true_iff];omega
  go_upto_region 19 with fail
  clear t0 t1 t2 t3 t4 t5 t6 t7 t8 t9 t10 f0 f1 f2 f3 f4 f5 f6 f7 f8 f9 f10 tl
  obtain ⟨br,hbr⟩ : ∃ br,d.A7 = some ⟨br,0,none⟩ := by
   obtain ⟨gq,cq,hv,_⟩ := own_form HS1.out.gd.r7 hn7
   injection hv with h1 _ _
   exact ⟨gq,h1⟩
  have HAA := Hh hbr
  have HFI := Hh (show ∀ (id why : Int) (x : World),d.good x lo → In64 id → Calls Tryz.prog 70 #[.agg #[.slice d.A1 d.n1 d.c1,.slice d.A2 d.n2 d.c2,.slice d.A3 d.n3 d.c3,.int .i64 d.lic.A,.int .i64 d.lic.B,.int .i64 d.lic.C,.int .i64 d.dep,.int .i64 d.now,.slice d.A6 d.n6 d.c6,.slice (some ⟨br,0,none⟩) d.n7 d.c7,.slice d.A8 d.n8 d.c8],.int .i64 id,.int .i64 why] x (RetStI x) from fun id why x hx hid => by
   have h := Finish_c d lo id why x hx HMD.out hid
   rw [hbr] at h
   exact h)
  clear hbr
  have HC1 := Hh (show (u.cell? ⟨w.heap.size,0,none⟩ = some (.slice d.A1 d.n1 d.c1) ∧ u.cell? ⟨w.heap.size,1,none⟩ = some (.slice d.A2 d.n2 d.c2) ∧ u.cell? ⟨w.heap.size,2,none⟩ = some (.slice d.A3 d.n3 d.c3) ∧ u.cell? ⟨w.heap.size,3,none⟩ = some (.int .i64 d.lic.A) ∧ u.cell? ⟨w.heap.size,4,none⟩ = some (.int .i64 d.lic.B) ∧ u.cell? ⟨w.heap.size,5,none⟩ = some (.int .i64 d.lic.C) ∧ u.cell? ⟨w.heap.size,6,none⟩ = some (.int .i64 d.dep) ∧ u.cell? ⟨w.heap.size,7,none⟩ = some (.int .i64 d.now) ∧ u.cell? ⟨w.heap.size,8,none⟩ = some (.slice d.A6 d.n6 d.c6) ∧ u.cell? ⟨w.heap.size,9,none⟩ = some (.slice (some ⟨br,0,none⟩) d.n7 d.c7) ∧ u.cell? ⟨w.heap.size,10,none⟩ = some (.slice d.A8 d.n8 d.c8)) ∧ (∀ j : Nat,j < d.n7 → u.cell? ⟨br,j * 13,none⟩ = some (.int .i64 (idF d j))) from ⟨HAA.out ▸ HS1.out.c3,HS1.out.gd.idc HAA.out⟩)
  have HCd := Hh (show (u.drew.cell? ⟨w.heap.size,0,none⟩ = some (.slice d.A1 d.n1 d.c1) ∧ u.drew.cell? ⟨w.heap.size,1,none⟩ = some (.slice d.A2 d.n2 d.c2) ∧ u.drew.cell? ⟨w.heap.size,2,none⟩ = some (.slice d.A3 d.n3 d.c3) ∧ u.drew.cell? ⟨w.heap.size,3,none⟩ = some (.int .i64 d.lic.A) ∧ u.drew.cell? ⟨w.heap.size,4,none⟩ = some (.int .i64 d.lic.B) ∧ u.drew.cell? ⟨w.heap.size,5,none⟩ = some (.int .i64 d.lic.C) ∧ u.drew.cell? ⟨w.heap.size,6,none⟩ = some (.int .i64 d.dep) ∧ u.drew.cell? ⟨w.heap.size,7,none⟩ = some (.int .i64 d.now) ∧ u.drew.cell? ⟨w.heap.size,8,none⟩ = some (.slice d.A6 d.n6 d.c6) ∧ u.drew.cell? ⟨w.heap.size,9,none⟩ = some (.slice (some ⟨br,0,none⟩) d.n7 d.c7) ∧ u.drew.cell? ⟨w.heap.size,10,none⟩ = some (.slice d.A8 d.n8 d.c8)) ∧ (∀ j : Nat,j < d.n7 → u.drew.cell? ⟨br,j * 13,none⟩ = some (.int .i64 (idF d j))) from ⟨HAA.out ▸ HSd.out.c3,HSd.out.gd.idc HAA.out⟩)
  obtain ⟨⟨t0,t1,t2,t3,t4,t5,t6,t7,t8,t9,t10⟩,tj⟩ := HC1.out
  go_region_held3 (fun x => (x.cell? ⟨w.heap.size,0,none⟩ = some (.slice d.A1 d.n1 d.c1) ∧ x.cell? ⟨w.heap.size,1,none⟩ = some (.slice d.A2 d.n2 d.c2) ∧ x.cell? ⟨w.heap.size,2,none⟩ = some (.slice d.A3 d.n3 d.c3) ∧ x.cell? ⟨w.heap.size,3,none⟩ = some (.int .i64 d.lic.A) ∧ x.cell? ⟨w.heap.size,4,none⟩ = some (.int .i64 d.lic.B) ∧ x.cell? ⟨w.heap.size,5,none⟩ = some (.int .i64 d.lic.C) ∧ x.cell? ⟨w.heap.size,6,none⟩ = some (.int .i64 d.dep) ∧ x.cell? ⟨w.heap.size,7,none⟩ = some (.int .i64 d.now) ∧ x.cell? ⟨w.heap.size,8,none⟩ = some (.slice d.A6 d.n6 d.c6) ∧ x.cell? ⟨w.heap.size,9,none⟩ = some (.slice (some ⟨br,0,none⟩) d.n7 d.c7) ∧ x.cell? ⟨w.heap.size,10,none⟩ = some (.slice d.A8 d.n8 d.c8)) ∧ (∀ j : Nat,j < d.n7 → x.cell? ⟨br,j * 13,none⟩ = some (.int .i64 (idF d j)))) ((first | with_reducible exact HC9.out | with_reducible exact HC3.out | with_reducible exact HC5.out | with_reducible exact HC2.out | with_reducible exact HCd.out | with_reducible exact HC1.out)) (first
   | (go_at_call 20;(with_reducible refine (HB.out (d.n7 : Int) (H9.out _ (by omega) (by omega)) _ HSd.out.cu).mono ?_);rintro e w2 ⟨v2,rfl,⟨hv2a,hv2b⟩,ht2,hc2⟩;have HS2 := Hh (HSd.out.turn ht2 hc2);have HC2 := Hh (show (w2.cell? ⟨w.heap.size,0,none⟩ = some (.slice d.A1 d.n1 d.c1) ∧ w2.cell? ⟨w.heap.size,1,none⟩ = some (.slice d.A2 d.n2 d.c2) ∧ w2.cell? ⟨w.heap.size,2,none⟩ = some (.slice d.A3 d.n3 d.c3) ∧ w2.cell? ⟨w.heap.size,3,none⟩ = some (.int .i64 d.lic.A) ∧ w2.cell? ⟨w.heap.size,4,none⟩ = some (.int .i64 d.lic.B) ∧ w2.cell? ⟨w.heap.size,5,none⟩ = some (.int .i64 d.lic.C) ∧ w2.cell? ⟨w.heap.size,6,none⟩ = some (.int .i64 d.dep) ∧ w2.cell? ⟨w.heap.size,7,none⟩ = some (.int .i64 d.now) ∧ w2.cell? ⟨w.heap.size,8,none⟩ = some (.slice d.A6 d.n6 d.c6) ∧ w2.cell? ⟨w.heap.size,9,none⟩ = some (.slice (some ⟨br,0,none⟩) d.n7 d.c7) ∧ w2.cell? ⟨w.heap.size,10,none⟩ = some (.slice d.A8 d.n8 d.c8)) ∧ (∀ j : Nat,j < d.n7 → w2.cell? ⟨br,j * 13,none⟩ = some (.int .i64 (idF d j))) from ⟨HAA.out ▸ HS2.out.c3,HS2.out.gd.idc HAA.out⟩);obtain ⟨jj,rfl⟩ := Int.eq_ofNat_of_zero_le hv2a;have hjj : jj < d.n7 := (by omega);clear ht2 hc2)
   | (go_at_call 20;(with_reducible refine (HB.out 2 (H9.out _ (by omega) (by omega)) _ HS2.out.cu).mono ?_);rintro e w5 ⟨v5,rfl,⟨hv5a,hv5b⟩,ht5,hc5⟩;have HS5 := Hh (HS2.out.turn ht5 hc5);have HC5 := Hh (show (w5.cell? ⟨w.heap.size,0,none⟩ = some (.slice d.A1 d.n1 d.c1) ∧ w5.cell? ⟨w.heap.size,1,none⟩ = some (.slice d.A2 d.n2 d.c2) ∧ w5.cell? ⟨w.heap.size,2,none⟩ = some (.slice d.A3 d.n3 d.c3) ∧ w5.cell? ⟨w.heap.size,3,none⟩ = some (.int .i64 d.lic.A) ∧ w5.cell? ⟨w.heap.size,4,none⟩ = some (.int .i64 d.lic.B) ∧ w5.cell? ⟨w.heap.size,5,none⟩ = some (.int .i64 d.lic.C) ∧ w5.cell? ⟨w.heap.size,6,none⟩ = some (.int .i64 d.dep) ∧ w5.cell? ⟨w.heap.size,7,none⟩ = some (.int .i64 d.now) ∧ w5.cell? ⟨w.heap.size,8,none⟩ = some (.slice d.A6 d.n6 d.c6) ∧ w5.cell? ⟨w.heap.size,9,none⟩ = some (.slice (some ⟨br,0,none⟩) d.n7 d.c7) ∧ w5.cell? ⟨w.heap.size,10,none⟩ = some (.slice d.A8 d.n8 d.c8)) ∧ (∀ j : Nat,j < d.n7 → w5.cell? ⟨br,j * 13,none⟩ = some (.int .i64 (idF d j))) from ⟨HAA.out ▸ HS5.out.c3,HS5.out.gd.idc HAA.out⟩);clear ht5 hc5)
   | (go_at_call 70;(with_reducible refine (HFI.out _ _ _ HS5.out.gd (HS5.out.gd.id64 hjj)).mono ?_);rintro e w9 ⟨d2,kc,rfl,hd2,hsm2,hb3⟩;have HS3 := Hh (HS5.out.mv hb3);have HC3 := Hh (show (w9.cell? ⟨w.heap.size,0,none⟩ = some (.slice d.A1 d.n1 d.c1) ∧ w9.cell? ⟨w.heap.size,1,none⟩ = some (.slice d.A2 d.n2 d.c2) ∧ w9.cell? ⟨w.heap.size,2,none⟩ = some (.slice d.A3 d.n3 d.c3) ∧ w9.cell? ⟨w.heap.size,3,none⟩ = some (.int .i64 d.lic.A) ∧ w9.cell? ⟨w.heap.size,4,none⟩ = some (.int .i64 d.lic.B) ∧ w9.cell? ⟨w.heap.size,5,none⟩ = some (.int .i64 d.lic.C) ∧ w9.cell? ⟨w.heap.size,6,none⟩ = some (.int .i64 d.dep) ∧ w9.cell? ⟨w.heap.size,7,none⟩ = some (.int .i64 d.now) ∧ w9.cell? ⟨w.heap.size,8,none⟩ = some (.slice d.A6 d.n6 d.c6) ∧ w9.cell? ⟨w.heap.size,9,none⟩ = some (.slice (some ⟨br,0,none⟩) d.n7 d.c7) ∧ w9.cell? ⟨w.heap.size,10,none⟩ = some (.slice d.A8 d.n8 d.c8)) ∧ (∀ j : Nat,j < d.n7 → w9.cell? ⟨br,j * 13,none⟩ = some (.int .i64 (idF d j))) from ⟨HAA.out ▸ HS3.out.c3,HS3.out.gd.idc HAA.out⟩);have HG3 := Hh (hd2.base (Nat.le_trans HS5.out.hl HS5.out.tu.le));have HSM2 := Hh hsm2;have HS4 := Hh (HS3.out.put HG3.out);have HC9 := Hh (show (((((((((((((w9.setCell ⟨bx,0,none⟩ (.slice d2.A1 d2.n1 d2.c1)).setCell ⟨bx,1,none⟩ (.slice d2.A2 d2.n2 d2.c2)).setCell ⟨bx,2,none⟩ (.slice d2.A3 d2.n3 d2.c3)).setCell ⟨bx,3,none⟩ (.int .i64 d2.lic.A)).setCell ⟨bx,4,none⟩ (.int .i64 d2.lic.B)).setCell ⟨bx,5,none⟩ (.int .i64 d2.lic.C)).setCell ⟨bx,6,none⟩ (.int .i64 d2.dep)).setCell ⟨bx,7,none⟩ (.int .i64 d2.now)).setCell ⟨bx,8,none⟩ (.slice d2.A6 d2.n6 d2.c6)).setCell ⟨bx,9,none⟩ (.slice d2.A7 d2.n7 d2.c7)).setCell ⟨bx,10,none⟩ (.slice d2.A8 d2.n8 d2.c8))).cell? ⟨w.heap.size,0,none⟩ = some (.slice d.A1 d.n1 d.c1) ∧ ((((((((((((w9.setCell ⟨bx,0,none⟩ (.slice d2.A1 d2.n1 d2.c1)).setCell ⟨bx,1,none⟩ (.slice d2.A2 d2.n2 d2.c2)).setCell ⟨bx,2,none⟩ (.slice d2.A3 d2.n3 d2.c3)).setCell ⟨bx,3,none⟩ (.int .i64 d2.lic.A)).setCell ⟨bx,4,none⟩ (.int .i64 d2.lic.B)).setCell ⟨bx,5,none⟩ (.int .i64 d2.lic.C)).setCell ⟨bx,6,none⟩ (.int .i64 d2.dep)).setCell ⟨bx,7,none⟩ (.int .i64 d2.now)).setCell ⟨bx,8,none⟩ (.slice d2.A6 d2.n6 d2.c6)).setCell ⟨bx,9,none⟩ (.slice d2.A7 d2.n7 d2.c7)).setCell ⟨bx,10,none⟩ (.slice d2.A8 d2.n8 d2.c8))).cell? ⟨w.heap.size,1,none⟩ = some (.slice d.A2 d.n2 d.c2) ∧ ((((((((((((w9.setCell ⟨bx,0,none⟩ (.slice d2.A1 d2.n1 d2.c1)).setCell ⟨bx,1,none⟩ (.slice d2.A2 d2.n2 d2.c2)).setCell ⟨bx,2,none⟩ (.slice d2.A3 d2.n3 d2.c3)).setCell ⟨bx,3,none⟩ (.int .i64 d2.lic.A)).setCell ⟨bx,4,none⟩ (.int .i64 d2.lic.B)).setCell ⟨bx,5,none⟩ (.int .i64 d2.lic.C)).setCell ⟨bx,6,none⟩ (.int .i64 d2.dep)).setCell ⟨bx,7,none⟩ (.int .i64 d2.now)).setCell ⟨bx,8,none⟩ (.slice d2.A6 d2.n6 d2.c6)).setCell ⟨bx,9,none⟩ (.slice d2.A7 d2.n7 d2.c7)).setCell ⟨bx,10,none⟩ (.slice d2.A8 d2.n8 d2.c8))).cell? ⟨w.heap.size,2,none⟩ = some (.slice d.A3 d.n3 d.c3) ∧ ((((((((((((w9.setCell ⟨bx,0,none⟩ (.slice d2.A1 d2.n1 d2.c1)).setCell ⟨bx,1,none⟩ (.slice d2.A2 d2.n2 d2.c2)).setCell ⟨bx,2,none⟩ (.slice d2.A3 d2.n3 d2.c3)).setCell ⟨bx,3,none⟩ (.int .i64 d2.lic.A)).setCell ⟨bx,4,none⟩ (.int .i64 d2.lic.B)).setCell ⟨bx,5,none⟩ (.int .i64 d2.lic.C)).setCell ⟨bx,6,none⟩ (.int .i64 d2.dep)).setCell ⟨bx,7,none⟩ (.int .i64 d2.now)).setCell ⟨bx,8,none⟩ (.slice d2.A6 d2.n6 d2.c6)).setCell ⟨bx,9,none⟩ (.slice d2.A7 d2.n7 d2.c7)).setCell ⟨bx,10,none⟩ (.slice d2.A8 d2.n8 d2.c8))).cell? ⟨w.heap.size,3,none⟩ = some (.int .i64 d.lic.A) ∧ ((((((((((((w9.setCell ⟨bx,0,none⟩ (.slice d2.A1 d2.n1 d2.c1)).setCell ⟨bx,1,none⟩ (.slice d2.A2 d2.n2 d2.c2)).setCell ⟨bx,2,none⟩ (.slice d2.A3 d2.n3 d2.c3)).setCell ⟨bx,3,none⟩ (.int .i64 d2.lic.A)).setCell ⟨bx,4,none⟩ (.int .i64 d2.lic.B)).setCell ⟨bx,5,none⟩ (.int .i64 d2.lic.C)).setCell ⟨bx,6,none⟩ (.int .i64 d2.dep)).setCell ⟨bx,7,none⟩ (.int .i64 d2.now)).setCell ⟨bx,8,none⟩ (.slice d2.A6 d2.n6 d2.c6)).setCell ⟨bx,9,none⟩ (.slice d2.A7 d2.n7 d2.c7)).setCell ⟨bx,10,none⟩ (.slice d2.A8 d2.n8 d2.c8))).cell? ⟨w.heap.size,4,none⟩ = some (.int .i64 d.lic.B) ∧ ((((((((((((w9.setCell ⟨bx,0,none⟩ (.slice d2.A1 d2.n1 d2.c1)).setCell ⟨bx,1,none⟩ (.slice d2.A2 d2.n2 d2.c2)).setCell ⟨bx,2,none⟩ (.slice d2.A3 d2.n3 d2.c3)).setCell ⟨bx,3,none⟩ (.int .i64 d2.lic.A)).setCell ⟨bx,4,none⟩ (.int .i64 d2.lic.B)).setCell ⟨bx,5,none⟩ (.int .i64 d2.lic.C)).setCell ⟨bx,6,none⟩ (.int .i64 d2.dep)).setCell ⟨bx,7,none⟩ (.int .i64 d2.now)).setCell ⟨bx,8,none⟩ (.slice d2.A6 d2.n6 d2.c6)).setCell ⟨bx,9,none⟩ (.slice d2.A7 d2.n7 d2.c7)).setCell ⟨bx,10,none⟩ (.slice d2.A8 d2.n8 d2.c8))).cell? ⟨w.heap.size,5,none⟩ = some (.int .i64 d.lic.C) ∧ ((((((((((((w9.setCell ⟨bx,0,none⟩ (.slice d2.A1 d2.n1 d2.c1)).setCell ⟨bx,1,none⟩ (.slice d2.A2 d2.n2 d2.c2)).setCell ⟨bx,2,none⟩ (.slice d2.A3 d2.n3 d2.c3)).setCell ⟨bx,3,none⟩ (.int .i64 d2.lic.A)).setCell ⟨bx,4,none⟩ (.int .i64 d2.lic.B)).setCell ⟨bx,5,none⟩ (.int .i64 d2.lic.C)).setCell ⟨bx,6,none⟩ (.int .i64 d2.dep)).setCell ⟨bx,7,none⟩ (.int .i64 d2.now)).setCell ⟨bx,8,none⟩ (.slice d2.A6 d2.n6 d2.c6)).setCell ⟨bx,9,none⟩ (.slice d2.A7 d2.n7 d2.c7)).setCell ⟨bx,10,none⟩ (.slice d2.A8 d2.n8 d2.c8))).cell? ⟨w.heap.size,6,none⟩ = some (.int .i64 d.dep) ∧ ((((((((((((w9.setCell ⟨bx,0,none⟩ (.slice d2.A1 d2.n1 d2.c1)).setCell ⟨bx,1,none⟩ (.slice d2.A2 d2.n2 d2.c2)).setCell ⟨bx,2,none⟩ (.slice d2.A3 d2.n3 d2.c3)).setCell ⟨bx,3,none⟩ (.int .i64 d2.lic.A)).setCell ⟨bx,4,none⟩ (.int .i64 d2.lic.B)).setCell ⟨bx,5,none⟩ (.int .i64 d2.lic.C)).setCell ⟨bx,6,none⟩ (.int .i64 d2.dep)).setCell ⟨bx,7,none⟩ (.int .i64 d2.now)).setCell ⟨bx,8,none⟩ (.slice d2.A6 d2.n6 d2.c6)).setCell ⟨bx,9,none⟩ (.slice d2.A7 d2.n7 d2.c7)).setCell ⟨bx,10,none⟩ (.slice d2.A8 d2.n8 d2.c8))).cell? ⟨w.heap.size,7,none⟩ = some (.int .i64 d.now) ∧ ((((((((((((w9.setCell ⟨bx,0,none⟩ (.slice d2.A1 d2.n1 d2.c1)).setCell ⟨bx,1,none⟩ (.slice d2.A2 d2.n2 d2.c2)).setCell ⟨bx,2,none⟩ (.slice d2.A3 d2.n3 d2.c3)).setCell ⟨bx,3,none⟩ (.int .i64 d2.lic.A)).setCell ⟨bx,4,none⟩ (.int .i64 d2.lic.B)).setCell ⟨bx,5,none⟩ (.int .i64 d2.lic.C)).setCell ⟨bx,6,none⟩ (.int .i64 d2.dep)).setCell ⟨bx,7,none⟩ (.int .i64 d2.now)).setCell ⟨bx,8,none⟩ (.slice d2.A6 d2.n6 d2.c6)).setCell ⟨bx,9,none⟩ (.slice d2.A7 d2.n7 d2.c7)).setCell ⟨bx,10,none⟩ (.slice d2.A8 d2.n8 d2.c8))).cell? ⟨w.heap.size,8,none⟩ = some (.slice d.A6 d.n6 d.c6) ∧ ((((((((((((w9.setCell ⟨bx,0,none⟩ (.slice d2.A1 d2.n1 d2.c1)).setCell ⟨bx,1,none⟩ (.slice d2.A2 d2.n2 d2.c2)).setCell ⟨bx,2,none⟩ (.slice d2.A3 d2.n3 d2.c3)).setCell ⟨bx,3,none⟩ (.int .i64 d2.lic.A)).setCell ⟨bx,4,none⟩ (.int .i64 d2.lic.B)).setCell ⟨bx,5,none⟩ (.int .i64 d2.lic.C)).setCell ⟨bx,6,none⟩ (.int .i64 d2.dep)).setCell ⟨bx,7,none⟩ (.int .i64 d2.now)).setCell ⟨bx,8,none⟩ (.slice d2.A6 d2.n6 d2.c6)).setCell ⟨bx,9,none⟩ (.slice d2.A7 d2.n7 d2.c7)).setCell ⟨bx,10,none⟩ (.slice d2.A8 d2.n8 d2.c8))).cell? ⟨w.heap.size,9,none⟩ = some (.slice (some ⟨br,0,none⟩) d.n7 d.c7) ∧ ((((((((((((w9.setCell ⟨bx,0,none⟩ (.slice d2.A1 d2.n1 d2.c1)).setCell ⟨bx,1,none⟩ (.slice d2.A2 d2.n2 d2.c2)).setCell ⟨bx,2,none⟩ (.slice d2.A3 d2.n3 d2.c3)).setCell ⟨bx,3,none⟩ (.int .i64 d2.lic.A)).setCell ⟨bx,4,none⟩ (.int .i64 d2.lic.B)).setCell ⟨bx,5,none⟩ (.int .i64 d2.lic.C)).setCell ⟨bx,6,none⟩ (.int .i64 d2.dep)).setCell ⟨bx,7,none⟩ (.int .i64 d2.now)).setCell ⟨bx,8,none⟩ (.slice d2.A6 d2.n6 d2.c6)).setCell ⟨bx,9,none⟩ (.slice d2.A7 d2.n7 d2.c7)).setCell ⟨bx,10,none⟩ (.slice d2.A8 d2.n8 d2.c8))).cell? ⟨w.heap.size,10,none⟩ = some (.slice d.A8 d.n8 d.c8)) ∧ (∀ j : Nat,j < d.n7 → ((((((((((((w9.setCell ⟨bx,0,none⟩ (.slice d2.A1 d2.n1 d2.c1)).setCell ⟨bx,1,none⟩ (.slice d2.A2 d2.n2 d2.c2)).setCell ⟨bx,2,none⟩ (.slice d2.A3 d2.n3 d2.c3)).setCell ⟨bx,3,none⟩ (.int .i64 d2.lic.A)).setCell ⟨bx,4,none⟩ (.int .i64 d2.lic.B)).setCell ⟨bx,5,none⟩ (.int .i64 d2.lic.C)).setCell ⟨bx,6,none⟩ (.int .i64 d2.dep)).setCell ⟨bx,7,none⟩ (.int .i64 d2.now)).setCell ⟨bx,8,none⟩ (.slice d2.A6 d2.n6 d2.c6)).setCell ⟨bx,9,none⟩ (.slice d2.A7 d2.n7 d2.c7)).setCell ⟨bx,10,none⟩ (.slice d2.A8 d2.n8 d2.c8))).cell? ⟨br,j * 13,none⟩ = some (.int .i64 (idF d j))) from ⟨HAA.out ▸ HS4.out.c3,HS4.out.gd.idc HAA.out⟩);obtain ⟨⟨r0,r1,r2,r3,r4,r5,r6,r7,r8,r9,r10⟩,⟨rf0,rf1,rf2,rf3,rf4,rf5,rf6,rf7,rf8,rf9,rf10⟩,rl⟩ := cells11 HS3.out.b6;clear hd2 hsm2 hb3))
  all_goals
   skip
   generalize hwq : (((((((((((w9.setCell ⟨bx,0,none⟩ (.slice d2.A1 d2.n1 d2.c1)).setCell ⟨bx,1,none⟩ (.slice d2.A2 d2.n2 d2.c2)).setCell ⟨bx,2,none⟩ (.slice d2.A3 d2.n3 d2.c3)).setCell ⟨bx,3,none⟩ (.int .i64 d2.lic.A)).setCell ⟨bx,4,none⟩ (.int .i64 d2.lic.B)).setCell ⟨bx,5,none⟩ (.int .i64 d2.lic.C)).setCell ⟨bx,6,none⟩ (.int .i64 d2.dep)).setCell ⟨bx,7,none⟩ (.int .i64 d2.now)).setCell ⟨bx,8,none⟩ (.slice d2.A6 d2.n6 d2.c6)).setCell ⟨bx,9,none⟩ (.slice d2.A7 d2.n7 d2.c7)).setCell ⟨bx,10,none⟩ (.slice d2.A8 d2.n8 d2.c8)) = w4
   have hwq' : setCells w9 bx 0 [.slice d2.A1 d2.n1 d2.c1,.slice d2.A2 d2.n2 d2.c2,.slice d2.A3 d2.n3 d2.c3,.int .i64 d2.lic.A,.int .i64 d2.lic.B,.int .i64 d2.lic.C,.int .i64 d2.dep,.int .i64 d2.now,.slice d2.A6 d2.n6 d2.c6,.slice d2.A7 d2.n7 d2.c7,.slice d2.A8 d2.n8 d2.c8] = w4 := hwq
   rw [hwq'] at HS4
   clear hwq hwq' r0 r1 r2 r3 r4 r5 r6 r7 r8 r9 r10 rf0 rf1 rf2 rf3 rf4 rf5 rf6 rf7 rf8 rf9 rf10 rl
   obtain ⟨⟨q0,q1,q2,q3,q4,q5,q6,q7,q8,q9,q10⟩,⟨qf0,qf1,qf2,qf3,qf4,qf5,qf6,qf7,qf8,qf9,qf10⟩,ql⟩ := cells11 HS4.out.b4
   by_cases hkc : kc = 0
   ·subst hkc
    obtain ⟨⟨p0,p1,p2,p3,p4,p5,p6,p7,p8,p9,p10⟩,⟨pf0,pf1,pf2,pf3,pf4,pf5,pf6,pf7,pf8,pf9,pf10⟩,pl⟩ := cells11 HS4.out.b6
    have HF := Hh (HS4.out.fin HS4.out.ge HSM2.out)
    clear HS4
    go_wp2
    exact bodyPost_ret (v := .agg #[.slice d2.A1 d2.n1 d2.c1,.slice d2.A2 d2.n2 d2.c2,.slice d2.A3 d2.n3 d2.c3,.int .i64 d2.lic.A,.int .i64 d2.lic.B,.int .i64 d2.lic.C,.int .i64 d2.dep,.int .i64 d2.now,.slice d2.A6 d2.n6 d2.c6,.slice d2.A7 d2.n7 d2.c7,.slice d2.A8 d2.n8 d2.c8]) (by simp [results,Tryz.results39,go_sem, *]) rfl HF.out
   ·have hkc1 : (kc == 0) = false := by rw [beq_eq_false_iff_ne];exact hkc
    have hkc2 : (kc != 0) = true := by simp [hkc]
    have hkc3 : decide (kc = 0) = false := decide_eq_false hkc
    clear hkc
    obtain ⟨⟨p0,p1,p2,p3,p4,p5,p6,p7,p8,p9,p10⟩,⟨pf0,pf1,pf2,pf3,pf4,pf5,pf6,pf7,pf8,pf9,pf10⟩,pl⟩ := cells11 HS4.out.b3
    have HF := Hh (HS4.out.fin HS4.out.gd HSM.out)
    clear HS4
    go_wp2
    exact bodyPost_ret (v := .agg #[.slice d.A1 d.n1 d.c1,.slice d.A2 d.n2 d.c2,.slice d.A3 d.n3 d.c3,.int .i64 d.lic.A,.int .i64 d.lic.B,.int .i64 d.lic.C,.int .i64 d.dep,.int .i64 d.now,.slice d.A6 d.n6 d.c6,.slice d.A7 d.n7 d.c7,.slice d.A8 d.n8 d.c8]) (by simp [results,Tryz.results39,go_sem, *]) rfl HF.out
end Go.Proofs.YtfanjhcdjbnnnaaGreat
