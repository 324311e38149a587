/- MvNew, DrawVec. -/
import Derived.Test.YtfanjhcdjbnnnaaGreatK32
import Derived.Test.YtfanjhcdjbnnnaaGreatK27
namespace Go.Proofs.YtfanjhcdjbnnnaaGreat
open Go.RowKit
set_option linter.unusedVariables false
set_option maxHeartbeats 16000000
set_option maxRecDepth 20000
structure NewI (w u : World) (d : StD) : Prop where
 box : u.ownsRow w.heap.size 34 11 (.slice (some ⟨w.heap.size + 1 + 1 + 1,0,none⟩) 1 1) 1 [.slice d.A1 d.n1 d.c1,.slice d.A2 d.n2 d.c2,.slice d.A3 d.n3 d.c3,.int .i64 d.lic.A,.int .i64 d.lic.B,.int .i64 d.lic.C,.int .i64 d.dep,.int .i64 d.now,.slice d.A6 d.n6 d.c6,.slice d.A7 d.n7 d.c7,.slice d.A8 d.n8 d.c8]
 res : u.ownsRow w.heap.size 34 11 (.slice (some ⟨w.heap.size + 1 + 1,0,none⟩) 1 1) 1 [.slice none 0 0,.slice none 0 0,.slice none 0 0,.int .i64 0,.int .i64 0,.int .i64 0,.int .i64 0,.int .i64 0,.slice none 0 0,.slice none 0 0,.slice none 0 0]
 gd : d.good u 0
 uo : u.ownsRow w.heap.size 4 1 (.slice d.A3 d.n3 d.c3) d.n3 (d.up.flatMap encB)
 ext : Ext w u
theorem StD.good.pushU {w w' : World} {lo : Nat} {d : StD} {b : Bool} {A : Option Addr} {c : Nat} (h : d.good w lo) (hr : AppR w w' lo 4 1 (.slice d.A3 d.n3 d.c3) A (d.n3 + 1) c ((d.up ++ [b]).flatMap encB)) : (d.withUp (d.up ++ [b]) A (d.n3 + 1) c).good w' lo :=
 ⟨h.l1,h.l2,(by show d.n3 + 1 = (d.up ++ [b]).length;rw [h.l3,List.length_append];rfl),h.l6,h.l7,h.l8,h.r1.keep h.r3 hr.kp (by decide),h.r2.keep h.r3 hr.kp (by decide),hr.row,hr.kp.own h.r6 (g_apart h.r6 h.r3 (by decide)),hr.kp.own h.r7 (g_apart h.r7 h.r3 (by decide)),hr.kp.own h.r8 (g_apart h.r8 h.r3 (by decide)),h.k1,h.k2,h.k6,(fun x hx => ⟨(h.k7 x hx).1,by obtain ⟨xs,hx⟩ := (h.k7 x hx).2;exact ⟨xs,hx.kept h.r3 hr.kp (by decide)⟩⟩),h.k8,h.kn⟩
theorem AppR.lower {w w' : World} {base base' size n' c' : Nat} {e : TypeId} {v : Value} {A' : Option Addr} {L' : List Value} (h : AppR w w' base e size v A' n' c' L') (hb : base' ≤ base) : AppR w w' base' e size v A' n' c' L' := ⟨owns_base h.row hb,h.os,h.tape,h.output,h.size,h.kept,h.fresh⟩
theorem NewI.mv {w u u' : World} {d : StD} (h : NewI w u d) (e : Ext u u') : NewI w u' d := ⟨owns_ext h.box e,owns_ext h.res e,h.gd.ext e,owns_ext h.uo e,h.ext.trans e⟩
theorem NewI.push {w u u' : World} {d : StD} {b : Bool} {A : Option Addr} {c : Nat} (h : NewI w u d) (hr : AppR u u' w.heap.size 4 1 (.slice d.A3 d.n3 d.c3) A (d.n3 + 1) c ((d.up ++ [b]).flatMap encB)) : NewI w (u'.setCell ⟨w.heap.size + 1 + 1 + 1,2,none⟩ (.slice A (d.n3 + 1) c)) (d.withUp (d.up ++ [b]) A (d.n3 + 1) c) := by
 have hb := hr.kp.own h.box (g_apart h.box h.uo (by decide))
 have hk2 := kept_set u' (w.heap.size + 1 + 1 + 1) 2 (.slice A (d.n3 + 1) c)
 exact ⟨(hb.stored 2 _).1,g_far (hr.kp.own h.res (g_apart h.res h.uo (by decide))) (by simp [Value.ownBlock]),(h.gd.pushU (hr.lower (Nat.zero_le _))).far hb (by simp [rowTypes]),hk2.own hr.row (g_apart hr.row hb (by decide)),(hr.kp.ext h.ext (fun q hq => (h.uo.lt q hq).1)).setCell (by simp only [];omega) _⟩
theorem StateNew_c (ps : List Int) (ns : List Node) (lic : Vec) (dep : Int) (A : Option Addr) (n1 c1 : Nat) (B : Option Addr) (n2 c2 : Nat) (w : World) (h1 : n1 = ps.length) (h2 : n2 = ns.length) (r1 : own0 w 0 3 1 A c1 n1 (ps.flatMap encInt)) (r2 : own0 w 0 85 4 B c2 n2 (ns.flatMap Node.enc)) (k1 : ∀ x ∈ ps,In64 x) (k2 : ∀ x ∈ ns,x.ok) (hn1 : n1 ≤ 1000) (hn2 : n2 ≤ 1000) : Calls Tryz.prog 66 #[.agg #[.slice A n1 c1,.slice B n2 c2],.agg #[.int .i64 lic.A,.int .i64 lic.B,.int .i64 lic.C],.int .i64 dep] w (RetStB w) := by
 obtain ⟨i0,hi,hI0,hI1,hI2⟩ := info_parts CBool.info
 have HN0 := Hh (show NewI w ((((w.alloc (.cells #[.slice A n1 c1,.slice B n2 c2] 26)).alloc (.cells #[.int .i64 lic.A,.int .i64 lic.B,.int .i64 lic.C] 29)).alloc (.cells #[.slice none 0 0,.slice none 0 0,.slice none 0 0,.int .i64 0,.int .i64 0,.int .i64 0,.int .i64 0,.int .i64 0,.slice none 0 0,.slice none 0 0,.slice none 0 0] 34)).alloc (.cells #[.slice A n1 c1,.slice B n2 c2,.slice none 0 0,.int .i64 lic.A,.int .i64 lic.B,.int .i64 lic.C,.int .i64 dep,.int .i64 0,.slice none 0 0,.slice none 0 0,.slice none 0 0] 34)) (((StD.zero.withTopo ps A n1 c1 ns B n2 c2).withLic lic).withDep dep) from by
  have EX : Ext w ((((w.alloc (.cells #[.slice A n1 c1,.slice B n2 c2] 26)).alloc (.cells #[.int .i64 lic.A,.int .i64 lic.B,.int .i64 lic.C] 29)).alloc (.cells #[.slice none 0 0,.slice none 0 0,.slice none 0 0,.int .i64 0,.int .i64 0,.int .i64 0,.int .i64 0,.int .i64 0,.slice none 0 0,.slice none 0 0,.slice none 0 0] 34)).alloc (.cells #[.slice A n1 c1,.slice B n2 c2,.slice none 0 0,.int .i64 lic.A,.int .i64 lic.B,.int .i64 lic.C,.int .i64 dep,.int .i64 0,.slice none 0 0,.slice none 0 0,.slice none 0 0] 34)) := ((((Ext.refl w).alloc _).alloc _).alloc _).alloc _
  refine ⟨?_, ?_,((((StD.zero_good w 0).topo h1 h2 r1 r2 k1 k2).lic lic).dep dep).ext EX,World.ownsRow_nil _ _ _ _,EX⟩
  ·have h := gbox (((w.alloc (.cells #[.slice A n1 c1,.slice B n2 c2] 26)).alloc (.cells #[.int .i64 lic.A,.int .i64 lic.B,.int .i64 lic.C] 29)).alloc (.cells #[.slice none 0 0,.slice none 0 0,.slice none 0 0,.int .i64 0,.int .i64 0,.int .i64 0,.int .i64 0,.int .i64 0,.slice none 0 0,.slice none 0 0,.slice none 0 0] 34)) [.slice A n1 c1,.slice B n2 c2,.slice none 0 0,.int .i64 lic.A,.int .i64 lic.B,.int .i64 lic.C,.int .i64 dep,.int .i64 0,.slice none 0 0,.slice none 0 0,.slice none 0 0] 34 11 rfl
   rw [show (((w.alloc (.cells #[.slice A n1 c1,.slice B n2 c2] 26)).alloc (.cells #[.int .i64 lic.A,.int .i64 lic.B,.int .i64 lic.C] 29)).alloc (.cells #[.slice none 0 0,.slice none 0 0,.slice none 0 0,.int .i64 0,.int .i64 0,.int .i64 0,.int .i64 0,.int .i64 0,.slice none 0 0,.slice none 0 0,.slice none 0 0] 34)).heap.size = w.heap.size + 1 + 1 + 1 by simp] at h
   exact owns_base h (by omega)
  ·have h := gbox ((w.alloc (.cells #[.slice A n1 c1,.slice B n2 c2] 26)).alloc (.cells #[.int .i64 lic.A,.int .i64 lic.B,.int .i64 lic.C] 29)) [.slice none 0 0,.slice none 0 0,.slice none 0 0,.int .i64 0,.int .i64 0,.int .i64 0,.int .i64 0,.int .i64 0,.slice none 0 0,.slice none 0 0,.slice none 0 0] 34 11 rfl
   rw [show ((w.alloc (.cells #[.slice A n1 c1,.slice B n2 c2] 26)).alloc (.cells #[.int .i64 lic.A,.int .i64 lic.B,.int .i64 lic.C] 29)).heap.size = w.heap.size + 1 + 1 by simp] at h
   exact owns_base (owns_ext h ((Ext.refl _).alloc _)) (by omega))
 clear r1 r2 k1 k2 h1 h2
 go_enter Tryz.func66,Tryz.ntmps66
 go_upto_region 3 with fail
 generalize ((((w.alloc (.cells #[.slice A n1 c1,.slice B n2 c2] 26)).alloc (.cells #[.int .i64 lic.A,.int .i64 lic.B,.int .i64 lic.C] 29)).alloc (.cells #[.slice none 0 0,.slice none 0 0,.slice none 0 0,.int .i64 0,.int .i64 0,.int .i64 0,.int .i64 0,.int .i64 0,.slice none 0 0,.slice none 0 0,.slice none 0 0] 34)).alloc (.cells #[.slice A n1 c1,.slice B n2 c2,.slice none 0 0,.int .i64 lic.A,.int .i64 lic.B,.int .i64 lic.C,.int .i64 dep,.int .i64 0,.slice none 0 0,.slice none 0 0,.slice none 0 0] 34)) = W at *
 go_loopw [16] (fun iv wr => ∃ (k : Nat) (d : StD),k ≤ n2 ∧ iv = .int .i64 k ∧ d.n3 ≤ k ∧ Hid (d.n1 = n1 ∧ d.n2 = n2 ∧ d.n6 = 0 ∧ d.n7 = 0 ∧ d.n8 = 0) ∧ Hid (NewI w wr d)) (fun iv _ => n2 - (intOf iv).toNat)
 case atStart => exact ⟨0,_,Nat.zero_le _,rfl,Nat.le_refl _,Hh ⟨rfl,rfl,rfl,rfl,rfl⟩,HN0⟩
 case round =>
  clear HN0
  obtain ⟨k,d,hk,rfl,hd3,HZ,HNI⟩ := hrel
  have hle := HNI.out.ext.le
  obtain ⟨⟨t0,t1,t2,t3,t4,t5,t6,t7,t8,t9,t10⟩,⟨f0,f1,f2,f3,f4,f5,f6,f7,f8,f9,f10⟩,tl⟩ := cells11 HNI.out.box
  by_cases hlt : k < n2
  ·go_upto_region 5 with (at_builtin;go_must (refine wpList_append_k (enc := encB) (ok := fun _ => True) (.tmp 19) (.tmp 20) _ w.heap.size 4 i0 _ 1 1 (.slice d.A3 d.n3 d.c3) d.n3 (d.up.flatMap encB) (some ⟨wr.heap.size,0,none⟩) 1 1 [true] (d.n3 + 1) ((d.up ++ [true]).flatMap encB) rfl List.flatMap_append.symm rfl rfl Tryz.underlying27 hi hI0 hI1 hI2 rfl (by omega) rfl (owns_ext HNI.out.uo ((Ext.refl _).alloc _)) rfl (by exact sl_one_at (enc := encB) wr _ rfl true 4 rfl trivial) (fun _ => rfl) encB_one (by unfold maxLen;omega) (by omega) (by simp;omega) ?_);intro A9 c9 w9 hr;have HR9 := Hh hr;clear hr;have HB9 := Hh (HR9.out.kp.own (owns_ext HNI.out.box ((Ext.refl wr).alloc (.cells (encB true).toArray 4))) (g_apart (owns_ext HNI.out.box ((Ext.refl wr).alloc (.cells (encB true).toArray 4))) (owns_ext HNI.out.uo ((Ext.refl wr).alloc (.cells (encB true).toArray 4))) (by decide)));clear t0 t1 t2 t3 t4 t5 t6 t7 t8 t9 t10 f0 f1 f2 f3 f4 f5 f6 f7 f8 f9 f10 tl;obtain ⟨⟨t0,t1,t2,t3,t4,t5,t6,t7,t8,t9,t10⟩,⟨f0,f1,f2,f3,f4,f5,f6,f7,f8,f9,f10⟩,tl⟩ := cells11 HB9.out)
   have HN9 := Hh ((HNI.out.mv ((Ext.refl wr).alloc (.cells (encB true).toArray 4))).push HR9.out)
   clear t0 t1 t2 t3 t4 t5 t6 t7 t8 t9 t10 f0 f1 f2 f3 f4 f5 f6 f7 f8 f9 f10 tl
   clear HB9 HR9 HNI
   go_wp2
   go_roundw
   case rel => exact ⟨k + 1,d.withUp (d.up ++ [true]) A9 (d.n3 + 1) c9,by omega,by go_num,(by show d.n3 + 1 ≤ k + 1;omega),HZ,HN9⟩
   case measure => simp [intOf];omega
  ·obtain rfl : k = n2 := by omega
   obtain ⟨s,hst,hln,hps,hns,hup,hqq,hnw⟩ := HNI.out.gd.state
   have hsl : stateLen s := by obtain ⟨e1,e2,e3,e6,e7,e8⟩ := hln;obtain ⟨z1,z2,z6,z7,z8⟩ := HZ.out;exact ⟨by omega,by omega,by omega,by omega,by omega,by omega⟩
   have HSO := Hh (sStateOk_c s _ _ hst hsl)
   have HCP := Hh (fun (u : World) (e : Ext wr u) => l06Copy_c s _ u (hst.ext e) hsl (by rw [hnw];exact HNI.out.gd.kn))
   have HLN := Hh (show s.Topo.Parents.length ≤ 1000 ∧ s.Topo.Nodes.length ≤ 1000 ∧ s.Up.length ≤ 1000 ∧ s.Queue.length = 0 ∧ s.Runs.length = 0 ∧ s.Ends.length = 0 from by obtain ⟨e1,e2,e3,e6,e7,e8⟩ := hln;obtain ⟨z1,z2,z6,z7,z8⟩ := HZ.out;exact ⟨by omega,by omega,by omega,by omega,by omega,by omega⟩)
   clear hst hln hps hns hup hqq hnw hsl
   generalize stateB s = ob at *
   go_wp2_with fail
   refine HSO.out.mono ?_
   rintro e w1 ⟨rfl,hb1⟩
   have HNJ := Hh (HNI.out.mv hb1)
   have HB1 := Hh hb1
   clear hb1 HSO HNI
   clear t0 t1 t2 t3 t4 t5 t6 t7 t8 t9 t10 f0 f1 f2 f3 f4 f5 f6 f7 f8 f9 f10 tl
   rcases ob with _ | _
   ·obtain ⟨⟨r0,r1,r2,r3,r4,r5,r6,r7,r8,r9,r10⟩,⟨rf0,rf1,rf2,rf3,rf4,rf5,rf6,rf7,rf8,rf9,rf10⟩,rl⟩ := cells11 HNJ.out.res
    have HEF := Hh (Ext.puts (g := w.heap.size + 1 + 1) [.slice none 0 0,.slice none 0 0,.slice none 0 0,.int .i64 0,.int .i64 0,.int .i64 0,.int .i64 0,.int .i64 0,.slice none 0 0,.slice none 0 0,.slice none 0 0] w1 0 HNJ.out.ext (by omega))
    go_wp2
    exact bodyPost_ret (v := .tuple #[.agg #[.slice none 0 0,.slice none 0 0,.slice none 0 0,.int .i64 0,.int .i64 0,.int .i64 0,.int .i64 0,.int .i64 0,.slice none 0 0,.slice none 0 0,.slice none 0 0],.bool false]) (by simp [results,Tryz.results66,go_sem, *]) rfl ⟨StD.zero,false,rfl,StD.zero_good _ _,StD.zero_sm,HEF.out⟩
   obtain ⟨⟨t0,t1,t2,t3,t4,t5,t6,t7,t8,t9,t10⟩,⟨f0,f1,f2,f3,f4,f5,f6,f7,f8,f9,f10⟩,tl⟩ := cells11 HNJ.out.box
   go_wp2_with fail
   refine (HCP.out _ HB1.out).mono ?_
   rintro e w2 ⟨d1,rfl,hd1,hn,hb2⟩
   have HRS := Hh (owns_ext HNJ.out.res hb2)
   have HE2 := Hh (HNJ.out.ext.trans hb2)
   have HG2 := Hh (hd1.base (lo' := w.heap.size) HNJ.out.ext.le)
   have HSM := Hh (show d1.sm from by obtain ⟨e1,e2,e3,e6,e7,e8⟩ := hn;obtain ⟨z1,z2,z3,z6,z7,z8⟩ := HLN.out;exact ⟨by omega,by omega,by omega,by omega,by omega,by omega⟩)
   have HGF := Hh (HG2.out.kept HRS.out (kept_puts (w.heap.size + 1 + 1) [.slice d1.A1 d1.n1 d1.c1,.slice d1.A2 d1.n2 d1.c2,.slice d1.A3 d1.n3 d1.c3,.int .i64 d1.lic.A,.int .i64 d1.lic.B,.int .i64 d1.lic.C,.int .i64 d1.dep,.int .i64 d1.now,.slice d1.A6 d1.n6 d1.c6,.slice d1.A7 d1.n7 d1.c7,.slice d1.A8 d1.n8 d1.c8] w2 0) (by simp [rowTypes]))
   have HEF := Hh (Ext.puts (g := w.heap.size + 1 + 1) [.slice d1.A1 d1.n1 d1.c1,.slice d1.A2 d1.n2 d1.c2,.slice d1.A3 d1.n3 d1.c3,.int .i64 d1.lic.A,.int .i64 d1.lic.B,.int .i64 d1.lic.C,.int .i64 d1.dep,.int .i64 d1.now,.slice d1.A6 d1.n6 d1.c6,.slice d1.A7 d1.n7 d1.c7,.slice d1.A8 d1.n8 d1.c8] w2 0 HE2.out (by omega))
   obtain ⟨⟨r0,r1,r2,r3,r4,r5,r6,r7,r8,r9,r10⟩,⟨rf0,rf1,rf2,rf3,rf4,rf5,rf6,rf7,rf8,rf9,rf10⟩,rl⟩ := cells11 HRS.out
   clear t0 t1 t2 t3 t4 t5 t6 t7 t8 t9 t10 f0 f1 f2 f3 f4 f5 f6 f7 f8 f9 f10 tl
   clear hd1 hn hb2 HNJ HB1 HCP HRS HE2 HG2
   go_wp2
   exact bodyPost_ret (v := .tuple #[.agg #[.slice d1.A1 d1.n1 d1.c1,.slice d1.A2 d1.n2 d1.c2,.slice d1.A3 d1.n3 d1.c3,.int .i64 d1.lic.A,.int .i64 d1.lic.B,.int .i64 d1.lic.C,.int .i64 d1.dep,.int .i64 d1.now,.slice d1.A6 d1.n6 d1.c6,.slice d1.A7 d1.n7 d1.c7,.slice d1.A8 d1.n8 d1.c8],.bool true]) (by simp [results,Tryz.results66,go_sem, *]) rfl ⟨d1,true,rfl,HGF.out,HSM.out,HEF.out⟩
theorem draw_frozen {w : World} {b : Nat} {cs : List Value} {e : TypeId} (h : w.heap[b]? = some (Obj.cells cs.toArray e)) (j : Nat) : w.frozen? ⟨b,j,none⟩ = false := by simp [World.frozen?,h]
def RetVecD (w : World) (g : Nat) : Ending → World → Prop := fun e w' => ∃ x : Vec,e = .returned (.agg #[.int .i64 x.A,.int .i64 x.B,.int .i64 x.C]) ∧ x.ok ∧ Turned g (g + 1) w w' ∧ Cur w' g
def RetJobD (w : World) (g : Nat) : Ending → World → Prop := fun e w' => ∃ x : Job,e = .returned (.agg #[.int .i64 x.Id,.int .i64 x.Prio,.int .i64 x.Nodes,.int .i64 x.Need.A,.int .i64 x.Need.B,.int .i64 x.Need.C,.int .i64 x.Lic.A,.int .i64 x.Lic.B,.int .i64 x.Lic.C,.int .i64 x.Wall,.int .i64 x.Level]) ∧ x.ok ∧ Turned g (g + 1) w w' ∧ Cur w' g
theorem l01Vec_c (g : Nat) (w : World) (hc : Cur w g) : Calls Tryz.prog 41 #[.pointer (some ⟨g,0,none⟩)] w (RetVecD w g) := by
 have hgw := hc.lt
 have HB := Hh (fun (n : Int) (hn : In64 n) (u : World) (hu : Cur u g) => l01Below_c g n u hu hn)
 have HR := Hh (fun (u : World) (hu : Cur u g) => l01Raw_c g u hu)
 have H9 : Hid (∀ n : Int,-1000000 ≤ n → n ≤ 1000000 → In64 n) := Hh (fun n h1 h2 => by unfold In64;omega)
 have HC0 := Hh (hc.ext ((Ext.refl w).alloc (.cells #[.int .i64 0,.int .i64 0,.int .i64 0] 29)))
 have HT0 := Hh (((Ext.refl w).alloc (.cells #[.int .i64 0,.int .i64 0,.int .i64 0] 29)).turned g (g + 1))
 have HY0 := Hh (heap_alloc_new w (.cells #[.int .i64 0,.int .i64 0,.int .i64 0] 29))
 clear hc
 go_enter Tryz.func41,Tryz.ntmps41
 go_wp2_with fail
 refine (HB.out 9 (H9.out _ (by omega) (by omega)) _ HC0.out).mono ?_
 rintro e w1 ⟨v1,rfl,⟨hv1a,hv1b⟩,ht1,hc1⟩
 have HT1 := Hh (HT0.out.trans ht1)
 have HC1 := Hh hc1
 have hs1 := HT1.out.le
 have HY1 := Hh (heapT ht1 HY0.out (by omega))
 clear ht1 hc1
 go_wp2_with fail
 refine (HB.out 17 (H9.out _ (by omega) (by omega)) _ HC1.out).mono ?_
 rintro e w2 ⟨v2,rfl,⟨hv2a,hv2b⟩,ht2,hc2⟩
 have HT2 := Hh (HT1.out.trans ht2)
 have HC2 := Hh hc2
 have hs2 := HT2.out.le
 have HY2 := Hh (heapT ht2 HY1.out (by omega))
 clear ht2 hc2
 go_wp2_with fail
 refine (HB.out 3 (H9.out _ (by omega) (by omega)) _ HC2.out).mono ?_
 rintro e w3 ⟨v3,rfl,⟨hv3a,hv3b⟩,ht3,hc3⟩
 have HT3 := Hh (HT2.out.trans ht3)
 have HC3 := Hh hc3
 have hs3 := HT3.out.le
 have HY3 := Hh (heapT ht3 HY2.out (by omega))
 clear ht3 hc3
 go_wp2_with fail
 refine (HB.out 14 (H9.out _ (by omega) (by omega)) _ (HC3.out.ext ((Ext.refl w3).alloc _))).mono ?_
 rintro e w4 ⟨v4,rfl,⟨hv4a,hv4b⟩,ht4,hc4⟩
 have HT4 := Hh ((HT3.out.ext ((Ext.refl w3).alloc _)).trans ht4)
 have HC4 := Hh hc4
 have hs4 := HT4.out.le
 have HY4 := Hh (heapT ht4 (heapE ((Ext.refl w3).alloc _) HY3.out) (by omega))
 have HX4 := Hh (heapT ht4 (heap_alloc_new w3 _) (by omega))
 clear ht4 hc4
 by_cases hv : v4 = 0
 ·subst hv
  go_wp2_with fail
  refine (HB.out 2 (H9.out _ (by omega) (by omega)) _ HC4.out).mono ?_
  rintro e w5 ⟨v5,rfl,⟨hv5a,hv5b⟩,ht5,hc5⟩
  have HT5 := Hh (HT4.out.trans ht5)
  have HC5 := Hh hc5
  have hs5 := HT5.out.le
  have HY5 := Hh (heapT ht5 HY4.out (by omega))
  have HX5 := Hh (heapT ht5 HX4.out (by omega))
  clear ht5 hc5
  have x0 := cell_block HX5.out 0 _ rfl
  have x1 := cell_block HX5.out 1 _ rfl
  have x2 := cell_block HX5.out 2 _ rfl
  have y0 := cell_block HY5.out 0 _ rfl
  have y1 := cell_block HY5.out 1 _ rfl
  have y2 := cell_block HY5.out 2 _ rfl
  have yf0 := draw_frozen HY5.out 0
  have yf1 := draw_frozen HY5.out 1
  have yf2 := draw_frozen HY5.out 2
  have xf1 := draw_frozen HX5.out 1
  have hlx := heap_lt HX5.out
  have hly := heap_lt HY5.out
  have hlm : w.heap.size < w3.heap.size := heap_lt HY3.out
  have hn1 : ¬ w.heap.size = w3.heap.size := by omega
  have hn2 : ¬ w3.heap.size = w.heap.size := by omega
  go_wp2
  refine bodyPost_ret (v := .agg #[.int .i64 v1,.int .i64 (1000000 - v5),.int .i64 v3]) (by simp [results,Tryz.results41,go_sem,y0,y1,y2]) rfl ⟨⟨v1,1000000 - v5,v3⟩,rfl,⟨in64_of (n := v1) (by omega) (by omega),in64_of (n := 1000000 - v5) (by omega) (by omega),in64_of (n := v3) (by omega) (by omega)⟩, ?_, ?_⟩
  ·repeat (first | with_reducible exact HT5.out | refine turned_own ?_ (by omega))
  ·repeat (first | with_reducible exact HC5.out | refine Cur.put ?_ (by omega))
 ·skip
  have x0 := cell_block HX4.out 0 _ rfl
  have x1 := cell_block HX4.out 1 _ rfl
  have x2 := cell_block HX4.out 2 _ rfl
  have y0 := cell_block HY4.out 0 _ rfl
  have y1 := cell_block HY4.out 1 _ rfl
  have y2 := cell_block HY4.out 2 _ rfl
  have yf0 := draw_frozen HY4.out 0
  have yf1 := draw_frozen HY4.out 1
  have yf2 := draw_frozen HY4.out 2
  have hlx := heap_lt HX4.out
  have hly := heap_lt HY4.out
  have hlm : w.heap.size < w3.heap.size := heap_lt HY3.out
  have hn1 : ¬ w.heap.size = w3.heap.size := by omega
  have hn2 : ¬ w3.heap.size = w.heap.size := by omega
  go_wp2
  refine bodyPost_ret (v := .agg #[.int .i64 v1,.int .i64 v2,.int .i64 v3]) (by simp [results,Tryz.results41,go_sem,y0,y1,y2]) rfl ⟨⟨v1,v2,v3⟩,rfl,⟨in64_of (n := v1) (by omega) (by omega),in64_of (n := v2) (by omega) (by omega),in64_of (n := v3) (by omega) (by omega)⟩, ?_, ?_⟩
  ·repeat (first | with_reducible exact HT4.out | refine turned_own ?_ (by omega))
  ·repeat (first | with_reducible exact HC4.out | refine Cur.put ?_ (by omega))
theorem l01Any_c (g : Nat) (w : World) (hc : Cur w g) : Calls Tryz.prog 22 #[.pointer (some ⟨g,0,none⟩)] w (RetVecD w g) := by
 have hgw := hc.lt
 have HB := Hh (fun (n : Int) (hn : In64 n) (u : World) (hu : Cur u g) => l01Below_c g n u hu hn)
 have HR := Hh (fun (u : World) (hu : Cur u g) => l01Raw_c g u hu)
 have H9 : Hid (∀ n : Int,-1000000 ≤ n → n ≤ 1000000 → In64 n) := Hh (fun n h1 h2 => by unfold In64;omega)
 have HC0 := Hh (hc.ext ((Ext.refl w).alloc (.cells #[.int .i64 0,.int .i64 0,.int .i64 0] 29)))
 have HT0 := Hh (((Ext.refl w).alloc (.cells #[.int .i64 0,.int .i64 0,.int .i64 0] 29)).turned g (g + 1))
 have HY0 := Hh (heap_alloc_new w (.cells #[.int .i64 0,.int .i64 0,.int .i64 0] 29))
 clear hc
 go_enter Tryz.func22,Tryz.ntmps22
 go_wp2_with fail
 refine (l01Vec_c g _ HC0.out).mono ?_
 rintro e w1 ⟨x,rfl,hx,ht1,hc1⟩
 have HT1 := Hh (HT0.out.trans ht1)
 have HC1 := Hh hc1
 have HY1 := Hh (heapT ht1 HY0.out (by omega))
 have HXO := Hh hx
 have hs1 := HT1.out.le
 clear ht1 hc1 hx
 go_wp2_with fail
 refine (HB.out 12 (H9.out _ (by omega) (by omega)) _ (HC1.out.ext ((Ext.refl w1).alloc _))).mono ?_
 rintro e w2 ⟨v2,rfl,⟨hv2a,hv2b⟩,ht2,hc2⟩
 have HT2 := Hh ((HT1.out.ext ((Ext.refl w1).alloc _)).trans ht2)
 have HC2 := Hh hc2
 have hs2 := HT2.out.le
 have HY2 := Hh (heapT ht2 (heapE ((Ext.refl w1).alloc _) HY1.out) (by omega))
 have HX2 := Hh (heapT ht2 (heap_alloc_new w1 _) (by omega))
 clear ht2 hc2
 rcases (show v2 = 0 ∨ v2 = 1 ∨ v2 = 2 ∨ 2 < v2 by omega) with rfl | rfl | rfl | hv
 ·skip
  go_wp2_with fail
  refine (HR.out _ HC2.out).mono ?_
  rintro e w3 ⟨v3,rfl,hv3,ht3,hc3⟩
  have HT3 := Hh (HT2.out.trans ht3)
  have HC3 := Hh hc3
  have hs3 := HT3.out.le
  have HY3 := Hh (heapT ht3 HY2.out (by omega))
  have HX3 := Hh (heapT ht3 HX2.out (by omega))
  clear ht3 hc3
  have HV3 := Hh hv3
  clear hv3
  have x0 := cell_block HX3.out 0 _ rfl
  have x1 := cell_block HX3.out 1 _ rfl
  have x2 := cell_block HX3.out 2 _ rfl
  have y0 := cell_block HY3.out 0 _ rfl
  have y1 := cell_block HY3.out 1 _ rfl
  have y2 := cell_block HY3.out 2 _ rfl
  have yf0 := draw_frozen HY3.out 0
  have yf1 := draw_frozen HY3.out 1
  have yf2 := draw_frozen HY3.out 2
  have xf0 := draw_frozen HX3.out 0
  have hlx := heap_lt HX3.out
  have hly := heap_lt HY3.out
  have hlm : w.heap.size < w1.heap.size := heap_lt HY1.out
  have hn1 : ¬ w.heap.size = w1.heap.size := by omega
  have hn2 : ¬ w1.heap.size = w.heap.size := by omega
  go_wp2
  refine bodyPost_ret (v := .agg #[.int .i64 v3,.int .i64 x.B,.int .i64 x.C]) (by simp [results,Tryz.results22,go_sem,y0,y1,y2]) rfl ⟨⟨v3,x.B,x.C⟩,rfl,⟨HV3.out,HXO.out.2.1,HXO.out.2.2⟩, ?_, ?_⟩
  ·repeat (first | with_reducible exact HT3.out | refine turned_own ?_ (by omega))
  ·repeat (first | with_reducible exact HC3.out | refine Cur.put ?_ (by omega))
 ·skip
  go_wp2_with fail
  refine (HR.out _ HC2.out).mono ?_
  rintro e w3 ⟨v3,rfl,hv3,ht3,hc3⟩
  have HT3 := Hh (HT2.out.trans ht3)
  have HC3 := Hh hc3
  have hs3 := HT3.out.le
  have HY3 := Hh (heapT ht3 HY2.out (by omega))
  have HX3 := Hh (heapT ht3 HX2.out (by omega))
  clear ht3 hc3
  have HV3 := Hh hv3
  clear hv3
  have x0 := cell_block HX3.out 0 _ rfl
  have x1 := cell_block HX3.out 1 _ rfl
  have x2 := cell_block HX3.out 2 _ rfl
  have y0 := cell_block HY3.out 0 _ rfl
  have y1 := cell_block HY3.out 1 _ rfl
  have y2 := cell_block HY3.out 2 _ rfl
  have yf0 := draw_frozen HY3.out 0
  have yf1 := draw_frozen HY3.out 1
  have yf2 := draw_frozen HY3.out 2
  have xf1 := draw_frozen HX3.out 1
  have hlx := heap_lt HX3.out
  have hly := heap_lt HY3.out
  have hlm : w.heap.size < w1.heap.size := heap_lt HY1.out
  have hn1 : ¬ w.heap.size = w1.heap.size := by omega
  have hn2 : ¬ w1.heap.size = w.heap.size := by omega
  go_wp2
  refine bodyPost_ret (v := .agg #[.int .i64 x.A,.int .i64 v3,.int .i64 x.C]) (by simp [results,Tryz.results22,go_sem,y0,y1,y2]) rfl ⟨⟨x.A,v3,x.C⟩,rfl,⟨HXO.out.1,HV3.out,HXO.out.2.2⟩, ?_, ?_⟩
  ·repeat (first | with_reducible exact HT3.out | refine turned_own ?_ (by omega))
  ·repeat (first | with_reducible exact HC3.out | refine Cur.put ?_ (by omega))
 ·skip
  go_wp2_with fail
  refine (HR.out _ HC2.out).mono ?_
  rintro e w3 ⟨v3,rfl,hv3,ht3,hc3⟩
  have HT3 := Hh (HT2.out.trans ht3)
  have HC3 := Hh hc3
  have hs3 := HT3.out.le
  have HY3 := Hh (heapT ht3 HY2.out (by omega))
  have HX3 := Hh (heapT ht3 HX2.out (by omega))
  clear ht3 hc3
  have HV3 := Hh hv3
  clear hv3
  have x0 := cell_block HX3.out 0 _ rfl
  have x1 := cell_block HX3.out 1 _ rfl
  have x2 := cell_block HX3.out 2 _ rfl
  have y0 := cell_block HY3.out 0 _ rfl
  have y1 := cell_block HY3.out 1 _ rfl
  have y2 := cell_block HY3.out 2 _ rfl
  have yf0 := draw_frozen HY3.out 0
  have yf1 := draw_frozen HY3.out 1
  have yf2 := draw_frozen HY3.out 2
  have xf2 := draw_frozen HX3.out 2
  have hlx := heap_lt HX3.out
  have hly := heap_lt HY3.out
  have hlm : w.heap.size < w1.heap.size := heap_lt HY1.out
  have hn1 : ¬ w.heap.size = w1.heap.size := by omega
  have hn2 : ¬ w1.heap.size = w.heap.size := by omega
  go_wp2
  refine bodyPost_ret (v := .agg #[.int .i64 x.A,.int .i64 x.B,.int .i64 v3]) (by simp [results,Tryz.results22,go_sem,y0,y1,y2]) rfl ⟨⟨x.A,x.B,v3⟩,rfl,⟨HXO.out.1,HXO.out.2.1,HV3.out⟩, ?_, ?_⟩
  ·repeat (first | with_reducible exact HT3.out | refine turned_own ?_ (by omega))
  ·repeat (first | with_reducible exact HC3.out | refine Cur.put ?_ (by omega))
 ·skip
  have x0 := cell_block HX2.out 0 _ rfl
  have x1 := cell_block HX2.out 1 _ rfl
  have x2 := cell_block HX2.out 2 _ rfl
  have y0 := cell_block HY2.out 0 _ rfl
  have y1 := cell_block HY2.out 1 _ rfl
  have y2 := cell_block HY2.out 2 _ rfl
  have yf0 := draw_frozen HY2.out 0
  have yf1 := draw_frozen HY2.out 1
  have yf2 := draw_frozen HY2.out 2
  have hlx := heap_lt HX2.out
  have hly := heap_lt HY2.out
  have hlm : w.heap.size < w1.heap.size := heap_lt HY1.out
  have hn1 : ¬ w.heap.size = w1.heap.size := by omega
  have hn2 : ¬ w1.heap.size = w.heap.size := by omega
  go_wp2
  refine bodyPost_ret (v := .agg #[.int .i64 x.A,.int .i64 x.B,.int .i64 x.C]) (by simp [results,Tryz.results22,go_sem,y0,y1,y2]) rfl ⟨⟨x.A,x.B,x.C⟩,rfl,⟨HXO.out.1,HXO.out.2.1,HXO.out.2.2⟩, ?_, ?_⟩
  ·repeat (first | with_reducible exact HT2.out | refine turned_own ?_ (by omega))
  ·repeat (first | with_reducible exact HC2.out | refine Cur.put ?_ (by omega))
end Go.Proofs.YtfanjhcdjbnnnaaGreat
