/- MvDrop, SLow. -/
import Derived.Test.YtfanjhcdjbnnnaaGreatK28
import Derived.Test.YtfanjhcdjbnnnaaGreatK11
import Derived.Test.YtfanjhcdjbnnnaaGreatK12
namespace Go.Proofs.YtfanjhcdjbnnnaaGreat
open Go.RowKit
set_option linter.unusedVariables false
set_option maxHeartbeats 16000000
set_option maxRecDepth 10000
theorem l06Drop_c (d : StD) (lo : Nat) (why id node : Int) (w : World) (h : d.good w lo) (hlo : lo ≤ w.heap.size) (hsm : d.mid) (hwhy : In64 why) : Calls Tryz.prog 98 #[.agg #[.slice d.A1 d.n1 d.c1,.slice d.A2 d.n2 d.c2,.slice d.A3 d.n3 d.c3,.int .i64 d.lic.A,.int .i64 d.lic.B,.int .i64 d.lic.C,.int .i64 d.dep,.int .i64 d.now,.slice d.A6 d.n6 d.c6,.slice d.A7 d.n7 d.c7,.slice d.A8 d.n8 d.c8],.int .i64 why,.int .i64 id,.int .i64 node] w (RetDrop w lo d) := by
 obtain ⟨iR,hiR,hR0,hR1,hR2⟩ := info_parts CRun.info
 obtain ⟨iE,hiE,hE0,hE1,hE2⟩ := info_parts CEnd.info
 obtain ⟨hs1,hs2,hs3,hs6,hs7,hs8⟩ := hsm
 have HMI := Hh (MvI.start1 h)
 have HL0 := Hh (show ((w.alloc (.cells #[.slice d.A1 d.n1 d.c1,.slice d.A2 d.n2 d.c2,.slice d.A3 d.n3 d.c3,.int .i64 d.lic.A,.int .i64 d.lic.B,.int .i64 d.lic.C,.int .i64 d.dep,.int .i64 d.now,.slice d.A6 d.n6 d.c6,.slice d.A7 d.n7 d.c7,.slice d.A8 d.n8 d.c8] 34)).alloc (.cells #[.slice none 0 0,.slice none 0 0,.slice none 0 0,.int .i64 0,.int .i64 0,.int .i64 0,.int .i64 0,.int .i64 0,.slice none 0 0,.slice none 0 0,.slice none 0 0] 34)).heap.size = w.heap.size + 1 + 1 from by simp)
 have HOW := Hh (fun q (hq : d.ow = some q) => (h.r7.lt q hq).2)
 clear h
 obtain ⟨W,hW⟩ : ∃ u,u = ((w.alloc (.cells #[.slice d.A1 d.n1 d.c1,.slice d.A2 d.n2 d.c2,.slice d.A3 d.n3 d.c3,.int .i64 d.lic.A,.int .i64 d.lic.B,.int .i64 d.lic.C,.int .i64 d.dep,.int .i64 d.now,.slice d.A6 d.n6 d.c6,.slice d.A7 d.n7 d.c7,.slice d.A8 d.n8 d.c8] 34)).alloc (.cells #[.slice none 0 0,.slice none 0 0,.slice none 0 0,.int .i64 0,.int .i64 0,.int .i64 0,.int .i64 0,.int .i64 0,.slice none 0 0,.slice none 0 0,.slice none 0 0] 34)) := ⟨_,rfl⟩
 go_enter Tryz.func98,Tryz.ntmps98
 go_upto_region 1 with fail
 rw [← hW] at HMI HL0 ⊢
 clear hW
 obtain ⟨A7,hA7⟩ : ∃ A7,d.A7 = A7 := ⟨_,rfl⟩
 have hl0 : w.heap.size + 1 < W.heap.size := by have := HL0.out;omega
 have HDI0 := Hh (show DropI w W (W.alloc (.cells #[] 54)) lo w.heap.size (w.heap.size + 1) d d (some ⟨W.heap.size,0,none⟩) 0 0 [] 0 from
  ⟨owns_ext HMI.out.box ((Ext.refl _).alloc _),owns_ext HMI.out.res ((Ext.refl _).alloc _),by omega,HMI.out.gd.ext ((Ext.refl _).alloc _),owns_empty W 54 13,rfl,(fun x hx => by cases hx),(fun q hq => by have := HOW.out q hq;omega),by omega,by simp,Kept.ofExt (HMI.out.ext.alloc _) _,(fun q hq => .inl hq),⟨rfl,rfl,rfl,rfl⟩,⟨rfl,rfl,rfl,rfl,by omega⟩⟩)
 obtain ⟨⟨t0,t1,t2,t3,t4,t5,t6,t7,t8,t9,t10⟩,⟨f0,f1,f2,f3,f4,f5,f6,f7,f8,f9,f10⟩,tl⟩ := cells11 HMI.out.box
 clear HMI HOW
 go_wp2
 clear t0 t1 t2 t3 t4 t5 t6 t7 t8 t9 t10 f0 f1 f2 f3 f4 f5 f6 f7 f8 f9 f10 tl
 rw [hA7]
 go_loopw [9,16] (fun rv iv wr => ∃ (k : Nat) (d2 : StD) (B : Option Addr) (b c : Nat) (rest : List RawRun),k ≤ d.n7 ∧ rv = .slice B b c ∧ iv = .int .i64 k ∧ b ≤ k ∧ Hid (DropI w W wr lo w.heap.size (w.heap.size + 1) d d2 B b c rest k)) (fun _ iv _ => d.n7 - (intOf iv).toNat)
 case atStart => exact ⟨0,d,_,0,0,[],Nat.zero_le _,rfl,rfl,Nat.le_refl _,HDI0⟩
 case round =>
  clear HDI0
  obtain ⟨k,d2,B,b,c,rest,hk,rfl,rfl,hbk,HDI⟩ := hrel
  have hlw := HDI.out.kp.size
  have hlw2 := HDI.out.lw
  have h8 : d2.n8 ≤ d.n8 + k := by have := HDI.out.sz.2.2.2.2;omega
  by_cases hlt : k < d.n7
  ·have HSA := Hh (show SlAt (Flat RawRun.enc RawRun.ok) 13 wr A7 d.n7 d.rs from by have h := HDI.out.gd.sl7;rw [HDI.out.sr.1,HDI.out.sr.2.1,HDI.out.sr.2.2.1,hA7] at h;exact h)
   obtain ⟨bo,oo,x,cs,rfl,hbw,hx,_,hc,rfl,hok⟩ := HSA.out.at_ hlt
   have HMM := Hh (show RawRun.mem wr lo x from (HDI.out.gd.k7 x (by rw [HDI.out.sr.1];exact List.mem_of_getElem? hx)).2)
   have HK := Hh hok
   have g0 := hc 0 _ rfl
   have g1 := hc 1 _ rfl
   have g2 := hc 2 _ rfl
   have g3 := hc 3 _ rfl
   have g4 := hc 4 _ rfl
   have g5 := hc 5 _ rfl
   have g6 := hc 6 _ rfl
   have g7 := hc 7 _ rfl
   have g8 := hc 8 _ rfl
   have g9 := hc 9 _ rfl
   have g10 := hc 10 _ rfl
   have g11 := hc 11 _ rfl
   have g12 := hc 12 _ rfl
   simp only [Nat.add_zero] at g0
   have HXB := Hh (gbox wr [.int .i64 x.j.Id,.int .i64 x.j.Prio,.int .i64 x.j.Nodes,.int .i64 x.j.Need.A,.int .i64 x.j.Need.B,.int .i64 x.j.Need.C,.int .i64 x.j.Lic.A,.int .i64 x.j.Lic.B,.int .i64 x.j.Lic.C,.int .i64 x.j.Wall,.int .i64 x.j.Level,.int .i64 x.at_,.slice x.A x.n x.c] 54 13 rfl)
   have HE1 := Hh (show Ext wr (wr.alloc (.cells (RawRun.enc x).toArray 54)) from (Ext.refl wr).alloc _)
   clear hc hx hok HSA
   by_cases hid1 : x.j.Id = id
   ·have hd1 : decide (x.j.Id = id) = true := decide_eq_true hid1
    have hd2 : (x.j.Id == id) = true := by rw [beq_iff_eq];exact hid1
    clear hid1
    have HDQ := Hh (HDI.out.mv HE1.out)
    obtain ⟨⟨t0,t1,t2,t3,t4,t5,t6,t7,t8,t9,t10⟩,⟨f0,f1,f2,f3,f4,f5,f6,f7,f8,f9,f10⟩,tl⟩ := cells11 HDI.out.box
    have HEK := Hh (show End.ok ⟨x.j.Id,d2.now,why⟩ from ⟨HK.out.1.1,HDI.out.gd.kn,hwhy⟩)
    go_upto_region 8 with (at_builtin;go_must (refine wpList_append_k (enc := End.enc) (ok := End.ok) (.tmp 32) (.tmp 40) _ lo 64 iE _ 3 24 (.slice d2.A8 d2.n8 d2.c8) d2.n8 (d2.es.flatMap End.enc) (some ⟨(wr.heap.size + 1),0,none⟩) 1 1 [(⟨x.j.Id,d2.now,why⟩ : End)] (d2.n8 + 1) ((d2.es ++ [(⟨x.j.Id,d2.now,why⟩ : End)]).flatMap End.enc) rfl List.flatMap_append.symm rfl rfl Tryz.underlying32 hiE hE0 hE1 hE2 rfl (by omega) rfl (owns_ext (HDQ.out.gd.r8) ((Ext.refl _).alloc _)) rfl (by exact sl_one_at (enc := End.enc) (wr.alloc (.cells (RawRun.enc x).toArray 54)) _ (by simp) (⟨x.j.Id,d2.now,why⟩ : End) 64 rfl HEK.out) End.size End.one (by unfold maxLen;omega) (by omega) (by simp;omega) ?_);intro A8 c8 w8 hr;have HR8 := Hh hr;clear hr;have HB8 := Hh (HR8.out.kp.own (owns_ext HDQ.out.box ((Ext.refl (wr.alloc (.cells (RawRun.enc x).toArray 54))).alloc (.cells (End.enc (⟨x.j.Id,d2.now,why⟩ : End)).toArray 64))) (g_apart (owns_ext HDQ.out.box ((Ext.refl (wr.alloc (.cells (RawRun.enc x).toArray 54))).alloc (.cells (End.enc (⟨x.j.Id,d2.now,why⟩ : End)).toArray 64))) (owns_ext HDQ.out.gd.r8 ((Ext.refl (wr.alloc (.cells (RawRun.enc x).toArray 54))).alloc (.cells (End.enc (⟨x.j.Id,d2.now,why⟩ : End)).toArray 64))) (by decide)));clear t0 t1 t2 t3 t4 t5 t6 t7 t8 t9 t10 f0 f1 f2 f3 f4 f5 f6 f7 f8 f9 f10 tl;obtain ⟨⟨t0,t1,t2,t3,t4,t5,t6,t7,t8,t9,t10⟩,⟨f0,f1,f2,f3,f4,f5,f6,f7,f8,f9,f10⟩,tl⟩ := cells11 HB8.out)
    have HDN := Hh ((HDQ.out.mv ((Ext.refl (wr.alloc (.cells (RawRun.enc x).toArray 54))).alloc (.cells (End.enc (⟨x.j.Id,d2.now,why⟩ : End)).toArray 64))).endd (Nat.le_refl _) HR8.out HEK.out)
    clear t0 t1 t2 t3 t4 t5 t6 t7 t8 t9 t10 f0 f1 f2 f3 f4 f5 f6 f7 f8 f9 f10 tl HB8 HR8 HDQ HDI
    go_wp2
    go_roundw
    case rel => exact ⟨k + 1,_,B,b,c,rest,by omega,rfl,by go_num,by omega,HDN⟩
    case measure => simp [intOf];omega
   ·have hd1 : decide (x.j.Id = id) = false := decide_eq_false hid1
    have hd2 : (x.j.Id == id) = false := by rw [beq_eq_false_iff_ne];exact hid1
    clear hid1
    obtain ⟨xs,hxs⟩ := HMM.out
    have HHA := Hh (l02Has_c xs node x.A x.n x.c _ (hxs.1.ext (Flat.mono _ _) HE1.out) (by have := HK.out.2.2.1;unfold maxLen;omega))
    clear hxs
    go_wp2_with fail
    refine HHA.out.mono ?_
    rintro e w5 ⟨rfl,hb5⟩
    generalize xs.contains node = hh at *
    have HDQ := Hh (HDI.out.mv (HE1.out.trans hb5))
    have HXB5 := Hh (owns_ext HXB.out hb5)
    have HM5 := Hh (show RawRun.mem w5 lo x from by obtain ⟨ys,hy⟩ := HMM.out;exact ⟨ys,hy.ext (HE1.out.trans hb5)⟩)
    have hl5 := hb5.le
    simp at hl5
    clear hb5 HHA g0 g1 g2 g3 g4 g5 g6 g7 g8 g9 g10 g11 g12
    obtain ⟨⟨z0,z1,z2,z3,z4,z5,z6,z7,z8,z9,z10,z11,z12⟩,zf,zl⟩ := cells13 HXB5.out
    rcases hh with _ | _
    ·clear HDI
     go_wp2_with (at_builtin;go_must (refine wpList_append_k (enc := RawRun.enc) (ok := RawRun.ok) (.tmp 43) (.tmp 45) _ W.heap.size 54 iR _ 13 120 (.slice B b c) b (rest.flatMap RawRun.enc) (some ⟨w5.heap.size,0,none⟩) 1 1 [x] (b + 1) ((rest ++ [x]).flatMap RawRun.enc) rfl List.flatMap_append.symm rfl rfl Tryz.underlying31 hiR hR0 hR1 hR2 rfl (by omega) rfl (owns_ext (HDQ.out.rr) ((Ext.refl _).alloc _)) rfl (by exact sl_one_at (enc := RawRun.enc) w5 _ rfl x 54 rfl HK.out) RawRun.size RawRun.one (by unfold maxLen;omega) (by omega) (by simp;omega) ?_);intro B8 c8 w8 hr;have HR8 := Hh hr;clear hr)
     have HDN := Hh ((HDQ.out.mv ((Ext.refl w5).alloc (.cells (RawRun.enc x).toArray 54))).keep HR8.out HK.out (by obtain ⟨ys,hy⟩ := HM5.out;exact ⟨ys,hy.ext ((Ext.refl _).alloc _)⟩))
     clear HR8 HDQ
     go_wp2
     go_roundw
     case rel => exact ⟨k + 1,d2,B8,b + 1,c8,_,by omega,rfl,by go_num,by omega,HDN⟩
     case measure => simp [intOf];omega
    ·skip
     obtain ⟨⟨t0,t1,t2,t3,t4,t5,t6,t7,t8,t9,t10⟩,⟨f0,f1,f2,f3,f4,f5,f6,f7,f8,f9,f10⟩,tl⟩ := cells11 HDQ.out.box
     have HEK := Hh (show End.ok ⟨x.j.Id,d2.now,why⟩ from ⟨HK.out.1.1,HDI.out.gd.kn,hwhy⟩)
     go_upto_region 8 with (at_builtin;go_must (refine wpList_append_k (enc := End.enc) (ok := End.ok) (.tmp 32) (.tmp 40) _ lo 64 iE _ 3 24 (.slice d2.A8 d2.n8 d2.c8) d2.n8 (d2.es.flatMap End.enc) (some ⟨w5.heap.size,0,none⟩) 1 1 [(⟨x.j.Id,d2.now,why⟩ : End)] (d2.n8 + 1) ((d2.es ++ [(⟨x.j.Id,d2.now,why⟩ : End)]).flatMap End.enc) rfl List.flatMap_append.symm rfl rfl Tryz.underlying32 hiE hE0 hE1 hE2 rfl (by omega) rfl (owns_ext (HDQ.out.gd.r8) ((Ext.refl _).alloc _)) rfl (by exact sl_one_at (enc := End.enc) w5 _ rfl (⟨x.j.Id,d2.now,why⟩ : End) 64 rfl HEK.out) End.size End.one (by unfold maxLen;omega) (by omega) (by simp;omega) ?_);intro A8 c8 w8 hr;have HR8 := Hh hr;clear hr;have HB8 := Hh (HR8.out.kp.own (owns_ext HDQ.out.box ((Ext.refl w5).alloc (.cells (End.enc (⟨x.j.Id,d2.now,why⟩ : End)).toArray 64))) (g_apart (owns_ext HDQ.out.box ((Ext.refl w5).alloc (.cells (End.enc (⟨x.j.Id,d2.now,why⟩ : End)).toArray 64))) (owns_ext HDQ.out.gd.r8 ((Ext.refl w5).alloc (.cells (End.enc (⟨x.j.Id,d2.now,why⟩ : End)).toArray 64))) (by decide)));clear t0 t1 t2 t3 t4 t5 t6 t7 t8 t9 t10 f0 f1 f2 f3 f4 f5 f6 f7 f8 f9 f10 tl;obtain ⟨⟨t0,t1,t2,t3,t4,t5,t6,t7,t8,t9,t10⟩,⟨f0,f1,f2,f3,f4,f5,f6,f7,f8,f9,f10⟩,tl⟩ := cells11 HB8.out)
     have HDN := Hh ((HDQ.out.mv ((Ext.refl w5).alloc (.cells (End.enc (⟨x.j.Id,d2.now,why⟩ : End)).toArray 64))).endd (Nat.le_refl _) HR8.out HEK.out)
     clear t0 t1 t2 t3 t4 t5 t6 t7 t8 t9 t10 f0 f1 f2 f3 f4 f5 f6 f7 f8 f9 f10 tl HB8 HR8 HDQ HDI
     go_wp2
     go_roundw
     case rel => exact ⟨k + 1,_,B,b,c,rest,by omega,rfl,by go_num,by omega,HDN⟩
     case measure => simp [intOf];omega
  ·obtain rfl : k = d.n7 := by omega
   have HKB := Hh (kept_set wr w.heap.size 9 (.slice B b c))
   have HB9 := Hh (show (wr.setCell ⟨w.heap.size,9,none⟩ (.slice B b c)).ownsRow w.heap.size 34 11 (.slice (some ⟨w.heap.size,0,none⟩) 1 1) 1 [.slice (d2.withR rest B b c).A1 (d2.withR rest B b c).n1 (d2.withR rest B b c).c1,.slice (d2.withR rest B b c).A2 (d2.withR rest B b c).n2 (d2.withR rest B b c).c2,.slice (d2.withR rest B b c).A3 (d2.withR rest B b c).n3 (d2.withR rest B b c).c3,.int .i64 (d2.withR rest B b c).lic.A,.int .i64 (d2.withR rest B b c).lic.B,.int .i64 (d2.withR rest B b c).lic.C,.int .i64 (d2.withR rest B b c).dep,.int .i64 (d2.withR rest B b c).now,.slice (d2.withR rest B b c).A6 (d2.withR rest B b c).n6 (d2.withR rest B b c).c6,.slice (d2.withR rest B b c).A7 (d2.withR rest B b c).n7 (d2.withR rest B b c).c7,.slice (d2.withR rest B b c).A8 (d2.withR rest B b c).n8 (d2.withR rest B b c).c8] from (HDI.out.box.stored 9 _).1)
   have HR9 := Hh (g_far HDI.out.res (g := w.heap.size) (p := 9) (u := .slice B b c) (by simp [Value.ownBlock]))
   have HG9 := Hh ((HDI.out.gd.runs HDI.out.rl (owns_base HDI.out.rr (by omega)) HDI.out.rm).far HDI.out.box (p := 9) (u := .slice B b c) (by simp [rowTypes]))
   have HK9 := Hh (HDI.out.kp.trans HKB.out (fun q hq => .inr (by injection hq with hq;omega)))
   have HZ := Hh HDI.out.sz
   obtain ⟨⟨t0,t1,t2,t3,t4,t5,t6,t7,t8,t9,t10⟩,⟨f0,f1,f2,f3,f4,f5,f6,f7,f8,f9,f10⟩,tl⟩ := cells11 HDI.out.box
   clear HDI HKB
   go_upto_region 10 with fail
   clear t0 t1 t2 t3 t4 t5 t6 t7 t8 t9 t10 f0 f1 f2 f3 f4 f5 f6 f7 f8 f9 f10 tl
   generalize (wr.setCell ⟨w.heap.size,9,none⟩ (.slice B b c)) = w9 at *
   have HGF := Hh (HG9.out.kept HR9.out (kept_puts (w.heap.size + 1) [.slice (d2.withR rest B b c).A1 (d2.withR rest B b c).n1 (d2.withR rest B b c).c1,.slice (d2.withR rest B b c).A2 (d2.withR rest B b c).n2 (d2.withR rest B b c).c2,.slice (d2.withR rest B b c).A3 (d2.withR rest B b c).n3 (d2.withR rest B b c).c3,.int .i64 (d2.withR rest B b c).lic.A,.int .i64 (d2.withR rest B b c).lic.B,.int .i64 (d2.withR rest B b c).lic.C,.int .i64 (d2.withR rest B b c).dep,.int .i64 (d2.withR rest B b c).now,.slice (d2.withR rest B b c).A6 (d2.withR rest B b c).n6 (d2.withR rest B b c).c6,.slice (d2.withR rest B b c).A7 (d2.withR rest B b c).n7 (d2.withR rest B b c).c7,.slice (d2.withR rest B b c).A8 (d2.withR rest B b c).n8 (d2.withR rest B b c).c8] w9 0) (by simp [rowTypes]))
   have HKF := Hh (HK9.out.trans (kept_puts (w.heap.size + 1) [.slice (d2.withR rest B b c).A1 (d2.withR rest B b c).n1 (d2.withR rest B b c).c1,.slice (d2.withR rest B b c).A2 (d2.withR rest B b c).n2 (d2.withR rest B b c).c2,.slice (d2.withR rest B b c).A3 (d2.withR rest B b c).n3 (d2.withR rest B b c).c3,.int .i64 (d2.withR rest B b c).lic.A,.int .i64 (d2.withR rest B b c).lic.B,.int .i64 (d2.withR rest B b c).lic.C,.int .i64 (d2.withR rest B b c).dep,.int .i64 (d2.withR rest B b c).now,.slice (d2.withR rest B b c).A6 (d2.withR rest B b c).n6 (d2.withR rest B b c).c6,.slice (d2.withR rest B b c).A7 (d2.withR rest B b c).n7 (d2.withR rest B b c).c7,.slice (d2.withR rest B b c).A8 (d2.withR rest B b c).n8 (d2.withR rest B b c).c8] w9 0) (fun q hq => .inr (by injection hq with hq;omega)))
   obtain ⟨d3,hd3⟩ : ∃ d3,d3 = d2.withR rest B b c := ⟨_,rfl⟩
   have HS3 := Hh (show d3.n1 = d.n1 ∧ d3.n2 = d.n2 ∧ d3.n3 = d.n3 ∧ d3.n6 = d.n6 ∧ d3.n7 ≤ d.n7 ∧ d3.n8 ≤ d.n8 + d.n7 from by rw [hd3];exact ⟨HZ.out.1,HZ.out.2.1,HZ.out.2.2.1,HZ.out.2.2.2.1,hbk,h8⟩)
   rw [← hd3] at HB9 HGF HKF
   clear hd3 HG9 HK9 HZ h8
   obtain ⟨⟨r0,r1,r2,r3,r4,r5,r6,r7,r8,r9,r10⟩,⟨rf0,rf1,rf2,rf3,rf4,rf5,rf6,rf7,rf8,rf9,rf10⟩,rl⟩ := cells11 HR9.out
   obtain ⟨⟨t0,t1,t2,t3,t4,t5,t6,t7,t8,t9,t10⟩,⟨f0,f1,f2,f3,f4,f5,f6,f7,f8,f9,f10⟩,tl⟩ := cells11 HB9.out
   clear HB9 HR9
   go_wp2
   exact bodyPost_ret (v := .agg #[.slice d3.A1 d3.n1 d3.c1,.slice d3.A2 d3.n2 d3.c2,.slice d3.A3 d3.n3 d3.c3,.int .i64 d3.lic.A,.int .i64 d3.lic.B,.int .i64 d3.lic.C,.int .i64 d3.dep,.int .i64 d3.now,.slice d3.A6 d3.n6 d3.c6,.slice d3.A7 d3.n7 d3.c7,.slice d3.A8 d3.n8 d3.c8]) (by simp [results,Tryz.results98,go_sem, *]) rfl ⟨d3,rfl,HGF.out,HS3.out,HKF.out⟩
theorem sLowest_c (ps : List Int) (ns : List Node) (nodes : List Int) (A : Option Addr) (m c : Nat) (B : Option Addr) (q d : Nat) (D : Option Addr) (n f : Nat) (w : World) (h : SlAt RInt 1 w A (m + 1) ps) (h2 : SlAt RNode 4 w B q ns) (h3 : SlAt RInt 1 w D n nodes) (hn : n ≤ 1048576) (h0 : 0 < n) (ht : topoB ps ns = true) (hv : nodesIn ns.length nodes = true) : Calls Tryz.prog 37 #[.agg #[.slice A (m + 1) c,.slice B q d],.slice D n f] w (Ret w (.int .i64 (lowestI ps ns nodes))) := by
 have htp := topo_parts ht
 have hm : m + 1 ≤ 24 := by have := htp.1.2;rw [h.len] at this;exact this
 have hq : q ≤ 24 := by have := htp.2.1;rw [h2.len] at this;exact this
 have HAN := Hh (fun (u : World) (e : Ext w u) => l02Nodes_c ps ns nodes A (m + 1) c B q d D n f u (h.ext (Flat.mono _ _) e) (by unfold maxLen;omega) (h2.ext (Flat.mono _ _) e) (by unfold maxLen;omega) (h3.ext (Flat.mono _ _) e) (by unfold maxLen;omega))
 rw [show (nodesB ns.length nodes && topoB ps ns) = true by rw [ht,Bool.and_true];exact hv] at HAN
 have HAB := Hh (fun (s : Nat) (hs : s < m + 1) (u : World) (e : Ext w u) => RetOwn.sl (l02Up_c ps ns s A (m + 1) c B q d u (h.ext (Flat.mono _ _) e) hm hs htp.2.2.1))
 have HLV := Hh (fun (s : Nat) (hs : s < m + 1) (u : World) (e : Ext w u) => show Calls Tryz.prog 36 #[.agg #[.slice A (m + 1) c,.slice B q d],.int .i64 s] u (Ret u (.int .i64 (levT ps s))) from by
  have h1 := l02Level_c ps A (m + 1) c B q d hm h.len htp.2.2.1 24 s u hs (by omega) (h.ext (Flat.mono _ _) e) (Nat.le_refl _)
  rw [lev_eq ht (by rw [h.len];exact hs) (by rw [h.len];omega)] at h1
  exact h1)
 have H2 := Hh (fun (u : World) (e : Ext w u) => h2.ext (Flat.mono Node.enc Node.ok) e)
 have H3 := Hh (fun (u : World) (e : Ext w u) => h3.ext (Flat.mono encInt In64) e)
 have HLO := Hh (show lowestI ps ns nodes = lowGo ps ns nodes (m + 1) 0 (-1) by
  unfold lowestI
  rw [if_pos (by rw [ht,hv,h3.len,decide_eq_true h0];rfl),h.len])
 have HND := Hh (fun (x : Node) (hx : x ∈ ns) => show 0 ≤ x.Leaf ∧ x.Leaf < (m : Int) + 1 from by
  have h5 := htp.2.2.2.2.1 x hx
  unfold nodeB withinB at h5
  simp only [Bool.and_eq_true,decide_eq_true_iff] at h5
  have := h5.1
  have h6 := h.len
  omega)
 have HVN := Hh (fun (x : Int) (hx : x ∈ nodes) => show 0 ≤ x ∧ x < (q : Int) from by have := nodesIn_at hv hx;rw [h2.len] at this;exact this)
 have HNL := Hh h3.len
 have HQL := Hh h2.len
 have hup := htp.2.2.1
 have hlu := Hh (fun s => upL_len ps s)
 clear h h2 h3 ht hv htp hup
 generalize lowestI ps ns nodes = R at *
 go_enter Tryz.func37,Tryz.ntmps37
 go_wp2_with fail
 refine (HAN.out _ Ext.go).mono ?_
 rintro e w1 ⟨rfl,hb1⟩
 obtain ⟨hcr1,hfr1,hz1⟩ := hb1.rules
 (try simp at hz1)
 have hy1_w0 : w.heap.size < w1.heap.size := (by omega)
 obtain ⟨b0,b1⟩ := bc2 w (w.heap.size) (.slice A (m + 1) c) (.slice B q d) 26 ((hb1)) (by simp)
 obtain ⟨bf0,bf1⟩ := bf2 w (w.heap.size) (.slice A (m + 1) c) (.slice B q d) 26 ((hb1)) (by simp)
 have hb0 := lt_of_cell b0
 clear hcr1 hfr1
 have hn0 : ((n : Int) == 0) = false := by rw [beq_eq_false_iff_ne];omega
 go_wp2
 go_loopw [5,23] (fun bv iv wr => ∃ (k : Nat) (bst : Int),k ≤ m + 1 ∧ iv = .int .i64 k ∧ bv = .int .i64 bst ∧ (bst = -1 ∨ 0 ≤ bst ∧ bst < k) ∧ Hid (R = lowGo ps ns nodes (m + 1 - k) k bst) ∧ Ext (w.alloc (.cells #[.slice A (m + 1) c,.slice B q d] 26)) wr) (fun _ iv _ => m + 1 - (intOf iv).toNat)
 case atStart => exact ⟨0,-1,Nat.zero_le _,rfl,rfl,.inl rfl,HLO,hb1⟩
 case round =>
  clear b0 b1 bf0 bf1 hb1
  obtain ⟨k,bst,hk,rfl,rfl,hbst,HG,hb⟩ := hrel
  by_cases hlt : k < m + 1
  ·have hkd : decide ((k : Int) < (m : Int) + 1) = true := by rw [decide_eq_true_iff];omega
   go_wp2
   go_loopw [7,28] (fun av jv wq => ∃ (j : Nat) (al : Bool),j ≤ n ∧ jv = .int .i64 j ∧ av = .bool al ∧ Hid (al = (nodes.take j).all (overOne ps ns k)) ∧ Ext (w.alloc (.cells #[.slice A (m + 1) c,.slice B q d] 26)) wq) (fun _ jv _ => n - (intOf jv).toNat)
   case atStart => exact ⟨0,true,Nat.zero_le _,rfl,rfl,Hh rfl,hb⟩
   case round =>
    obtain ⟨j,al,hj,rfl,rfl,HAL,hbq⟩ := hrel
    have hxq : Ext w wr := ((Ext.refl w).alloc _).trans hbq
    by_cases hlt2 : j < n
    ·obtain ⟨bo,oo,x,cs,hD,hbw,hx,_,hc,rfl,_⟩ := (H3.out wr hxq).at_ hlt2
     subst hD
     have g0 := hc 0 _ rfl
     simp only [Nat.mul_one,Nat.add_zero] at g0
     have HST := Hh (all_step (p := overOne ps ns k) hx)
     obtain ⟨hxa,hxb⟩ := HVN.out x (List.mem_of_getElem? hx)
     obtain ⟨i,rfl⟩ := Int.eq_ofNat_of_zero_le hxa
     have hi : i < q := by omega
     obtain ⟨bn,on,y,cs2,hB,hbw2,hy,_,hc2,rfl,_⟩ := (H2.out wr hxq).at_ hi
     subst hB
     have y0 := hc2 0 _ rfl
     have y1 := hc2 1 _ rfl
     have y2 := hc2 2 _ rfl
     have y3 := hc2 3 _ rfl
     simp only [Nat.add_zero] at y0
     have hyl := HND.out y (List.mem_of_getElem? hy)
     have HOV := Hh (show overOne ps ns k (i : Int) = (upL ps y.Leaf.toNat).contains (k : Int) by unfold overOne;rw [show ((i : Int)).toNat = i by omega,List.getD_eq_getElem?_getD,hy];rfl)
     obtain ⟨lf,hlf⟩ : ∃ lf : Nat,y.Leaf = lf := ⟨y.Leaf.toNat,by omega⟩
     rw [hlf] at y0 HOV hyl
     rw [show ((lf : Int)).toNat = lf by omega] at HOV
     have HAB2 := Hh (fun (u : World) (e : Ext wr u) => HAB.out lf (by omega) u (hxq.trans e))
     have z0 := hbq.cell (cell_box_at w w.heap.size rfl [.slice A (m + 1) c,.slice (some ⟨bn,on,none⟩) q d] 26 0 _ rfl)
     have z1 := hbq.cell (cell_box_at w w.heap.size rfl [.slice A (m + 1) c,.slice (some ⟨bn,on,none⟩) q d] 26 1 _ rfl)
     have hz0 := lt_of_cell z0
     have hul := hlu.out lf
     clear hx hc hy hc2 y1 y2 y3
     obtain ⟨ct,hct⟩ : ∃ ct,(upL ps lf).contains (k : Int) = ct := ⟨_,rfl⟩
     have HCT := Hh hct
     clear hct
     have HKS := Hh (fun (u : World) (e : Ext wr u) => show Ext wr u ∧ u.cell? ⟨w.heap.size,0,none⟩ = some (.slice A (m + 1) c) ∧ u.cell? ⟨w.heap.size,1,none⟩ = some (.slice (some ⟨bn,on,none⟩) q d) ∧ u.cell? ⟨bn,on + i * 4,none⟩ = some (.int .i64 lf) from ⟨e,e.cell z0,e.cell z1,e.cell y0⟩)
     rcases ct with _ | _
     ·go_wp2
      go_region_held3 (fun u => Ext wr u ∧ u.cell? ⟨w.heap.size,0,none⟩ = some (.slice A (m + 1) c) ∧ u.cell? ⟨w.heap.size,1,none⟩ = some (.slice (some ⟨bn,on,none⟩) q d) ∧ u.cell? ⟨bn,on + i * 4,none⟩ = some (.int .i64 lf)) ((refine HKS.out _ ?_;first | exact (Ext.refl _).drew | assumption | exact HE6.out | exact HE5.out)) (first | (go_at_call 65;(with_reducible refine (HAB2.out _ (by repeat (first | exact Ext.refl _ | apply Ext.drew))).mono ?_);rintro e w5 ⟨A5,c5,rfl,hs5,hb5⟩;have HE5 := Hh (show Ext wr w5 from Ext.trans (by repeat (first | exact Ext.refl _ | apply Ext.drew)) hb5);have HS5 := Hh hs5;clear hs5) | (go_at_call 64;(have hcc := l02Has_c (upL ps lf) (k : Int) A5 (upL ps lf).length c5 _ HS5.out (by unfold maxLen;omega));rw [HCT.out] at hcc;(with_reducible refine hcc.mono ?_);rintro e w6 ⟨rfl,hb6⟩;have HE6 := Hh (HE5.out.trans hb6)))
      all_goals
       go_wp2
       go_roundw
       case rel => exact ⟨j + 1,false,by omega,by go_num,rfl,Hh (by rw [HST.out,← HAL.out,HOV.out,HCT.out,Bool.and_false]),hbq.trans HE6.out⟩
       case measure => simp [intOf];omega
     ·go_wp2
      go_region_held3 (fun u => Ext wr u ∧ u.cell? ⟨w.heap.size,0,none⟩ = some (.slice A (m + 1) c) ∧ u.cell? ⟨w.heap.size,1,none⟩ = some (.slice (some ⟨bn,on,none⟩) q d) ∧ u.cell? ⟨bn,on + i * 4,none⟩ = some (.int .i64 lf)) ((refine HKS.out _ ?_;first | exact (Ext.refl _).drew | assumption | exact HE6.out | exact HE5.out)) (first | (go_at_call 65;(with_reducible refine (HAB2.out _ (by repeat (first | exact Ext.refl _ | apply Ext.drew))).mono ?_);rintro e w5 ⟨A5,c5,rfl,hs5,hb5⟩;have HE5 := Hh (show Ext wr w5 from Ext.trans (by repeat (first | exact Ext.refl _ | apply Ext.drew)) hb5);have HS5 := Hh hs5;clear hs5) | (go_at_call 64;(have hcc := l02Has_c (upL ps lf) (k : Int) A5 (upL ps lf).length c5 _ HS5.out (by unfold maxLen;omega));rw [HCT.out] at hcc;(with_reducible refine hcc.mono ?_);rintro e w6 ⟨rfl,hb6⟩;have HE6 := Hh (HE5.out.trans hb6)))
      all_goals
       go_wp2
       go_roundw
       case rel => exact ⟨j + 1,al,by omega,by go_num,rfl,Hh (by rw [HST.out,← HAL.out,HOV.out,HCT.out,Bool.and_true]),hbq.trans HE6.out⟩
       case measure => simp [intOf];omega
    ·have HAF := Hh (show overAll ps ns nodes k = al by rw [overAll_eq,HAL.out,List.take_of_length_le (by have := HNL.out;omega)])
     have HGS := Hh (show R = lowGo ps ns nodes (m + 1 - (k + 1)) (k + 1) (if (al && (decide (bst < 0) || decide (levT ps k ≤ levT ps bst.toNat))) = true then k else bst) by rw [HG.out,show m + 1 - k = m + 1 - (k + 1) + 1 by omega,low_step,HAF.out])
     have z0 := hbq.cell (cell_box_at w w.heap.size rfl [.slice A (m + 1) c,.slice B q d] 26 0 _ rfl)
     have z1 := hbq.cell (cell_box_at w w.heap.size rfl [.slice A (m + 1) c,.slice B q d] 26 1 _ rfl)
     have hz0 := lt_of_cell z0
     rcases al with _ | _
     ·go_wp2
      go_quiet (fail)
      go_wp2
      go_roundw
      case rel => exact ⟨k + 1,bst,by omega,by go_num,rfl,by omega,Hh (by rw [HGS.out];rfl),Ext.trans hbq ((Ext.refl _).drewN _)⟩
      case measure => simp [intOf];omega
     ·rcases hbst with rfl | ⟨hb1,hb2⟩
      ·go_wp2
       go_quiet (fail)
       go_wp2
       go_roundw
       case rel => exact ⟨k + 1,k,by omega,by go_num,rfl,.inr ⟨by omega,by omega⟩,Hh (by rw [HGS.out];rfl),Ext.trans hbq ((Ext.refl _).drewN _)⟩
       case measure => simp [intOf];omega
      ·obtain ⟨t,rfl⟩ := Int.eq_ofNat_of_zero_le hb1
       have hdb : decide ((t : Int) < 0) = false := by rw [decide_eq_false_iff_not];omega
       have HG2 := Hh (show R = lowGo ps ns nodes (m + 1 - (k + 1)) (k + 1) (if levT ps k ≤ levT ps t then (k : Int) else t) by
        rw [HGS.out,hdb,show ((t : Int)).toNat = t by omega]
        by_cases hle : levT ps k ≤ levT ps t
        ·rw [if_pos hle,decide_eq_true hle];rfl
        ·rw [if_neg hle,decide_eq_false hle];rfl)
       have HV1 := Hh (fun (u : World) (e : Ext wr u) => HLV.out k hlt u ((((Ext.refl w).alloc _).trans hbq).trans e))
       have HV2 := Hh (fun (u : World) (e : Ext wr u) => HLV.out t (by omega) u ((((Ext.refl w).alloc _).trans hbq).trans e))
       generalize levT ps k = l1 at *
       generalize levT ps t = l2 at *
       have hcx := @Later.cell wr
       have HXW := Hh (fun x : Later wr => x.ext)
       by_cases hle : l1 ≤ l2
       ·rw [if_pos hle] at HG2
        go_wp2
        refine wp_region_ext (by kernel_rfl) (by kernel_rfl) ?_
        repeat (go_big_quiet_step (first | (go_at_call 36;with_reducible exact Calls.quiet_ext (HV1.out _ (HXW.out _))) | (go_at_call 36;with_reducible exact Calls.quiet_ext (HV2.out _ (HXW.out _)))))
        refine wpQuiet_nil ?_
        intro w7 hb7
        clear hcx z0 z1
        go_wp2
        go_roundw
        case rel => exact ⟨k + 1,k,by omega,by go_num,rfl,.inr ⟨by omega,by omega⟩,HG2,hbq.trans hb7⟩
        case measure => simp [intOf];omega
       ·rw [if_neg hle] at HG2
        go_wp2
        refine wp_region_ext (by kernel_rfl) (by kernel_rfl) ?_
        repeat (go_big_quiet_step (first | (go_at_call 36;with_reducible exact Calls.quiet_ext (HV1.out _ (HXW.out _))) | (go_at_call 36;with_reducible exact Calls.quiet_ext (HV2.out _ (HXW.out _)))))
        refine wpQuiet_nil ?_
        intro w7 hb7
        clear hcx z0 z1
        go_wp2
        go_roundw
        case rel => exact ⟨k + 1,t,by omega,by go_num,rfl,.inr ⟨by omega,by omega⟩,HG2,hbq.trans hb7⟩
        case measure => simp [intOf];omega
  ·have HE := Hh (show R = bst by rw [HG.out,show m + 1 - k = 0 by omega];rfl)
   go_wp2
   exact ret_int rfl rfl rfl (by rw [HE.out]) (((Ext.refl w).alloc _).trans hb)
end Go.Proofs.YtfanjhcdjbnnnaaGreat
