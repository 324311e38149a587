/- MvCopy, SQueue. -/
import Derived.Test.YtfanjhcdjbnnnaaGreatK15
import Derived.Test.YtfanjhcdjbnnnaaGreatK16
import Derived.Test.YtfanjhcdjbnnnaaGreatK11
namespace Go.Proofs.YtfanjhcdjbnnnaaGreat
open Go.RowKit
set_option linter.unusedVariables false
set_option maxHeartbeats 16000000
set_option maxRecDepth 10000
theorem CRun.info : (Tryz.prog.info? 54).map (fun i => (i.zero,i.size,i.bytes)) = some (some (.agg #[.int .i64 0,.int .i64 0,.int .i64 0,.int .i64 0,.int .i64 0,.int .i64 0,.int .i64 0,.int .i64 0,.int .i64 0,.int .i64 0,.int .i64 0,.int .i64 0,.slice none 0 0]),13,120) := by kernel_rfl
theorem CEnd.info : (Tryz.prog.info? 64).map (fun i => (i.zero,i.size,i.bytes)) = some (some (.agg #[.int .i64 0,.int .i64 0,.int .i64 0]),3,24) := by kernel_rfl
theorem End.one (x : End) : ∀ u ∈ x.enc,u.oneCell' = true := by
 intro u hu
 simp [End.enc] at hu
 rcases hu with rfl | rfl | rfl <;> rfl
theorem l06Copy_c (s : State) (v : Value) (w : World) (h : StateAt w s v) (hlen : stateLen s) (hnow : In64 s.Now) : Calls Tryz.prog 93 #[v] w (RetCopy w s) := by
 obtain ⟨⟨ps,ns⟩,up,lic,dep,now,qs,rs,es⟩ := s
 obtain ⟨A1,c1,A2,c2,A3,c3,A6,c6,A7,c7,A8,c8,rfl,h1,h2,h3,h6,h7,h8⟩ := h
 obtain ⟨hl1,hl2,hl3,hl6,hl7,hl8⟩ := hlen
 simp only [] at h1 h2 h3 h6 h7 h8 hl1 hl2 hl3 hl6 hl7 hl8 hnow
 obtain ⟨i0,hi,hI0,hI1,hI2⟩ := info_parts CBool.info
 obtain ⟨i2,hi2,hK0,hK1,hK2⟩ := info_parts CInt.info
 obtain ⟨i3,hi3,hL0,hL1,hL2⟩ := info_parts CNode.info
 obtain ⟨i6,hi6,hM0,hM1,hM2⟩ := info_parts CJob.info
 obtain ⟨i7,hi7,hN0,hN1,hN2⟩ := info_parts CRun.info
 obtain ⟨i8,hi8,hO0,hO1,hO2⟩ := info_parts CEnd.info
 have HP1 := Hh (fun (u : World) (e : Ext w u) => h1.ext (Flat.mono encInt In64) e)
 have HP2 := Hh (fun (u : World) (e : Ext w u) => h2.ext (Flat.mono Node.enc Node.ok) e)
 have HP3 := Hh (fun (u : World) (e : Ext w u) => h3.ext (Flat.mono encB (fun _ => True)) e)
 have HP6 := Hh (fun (u : World) (e : Ext w u) => h6.ext (Flat.mono Job.enc Job.ok) e)
 have HP7 := Hh (fun (u : World) (e : Ext w u) => h7.ext RRun.mono e)
 have HP8 := Hh (fun (u : World) (e : Ext w u) => h8.ext (Flat.mono End.enc End.ok) e)
 have HKK := Hh (show (∀ x ∈ ps,In64 x) ∧ (∀ x ∈ ns,x.ok) ∧ (∀ x ∈ qs,x.ok) ∧ ∀ x ∈ es,x.ok from ⟨h1.all,h2.all,h6.all,h8.all⟩)
 clear h1 h2 h3 h6 h7 h8
 have HLN := Hh (show ps.length = ps.length ∧ ns.length = ns.length ∧ up.length = up.length ∧ qs.length = qs.length ∧ rs.length = rs.length ∧ es.length = es.length from ⟨rfl,rfl,rfl,rfl,rfl,rfl⟩)
 show Calls _ _ _ _ (fun e w' => ∃ d : StD,e = .returned (.agg #[.slice d.A1 d.n1 d.c1,.slice d.A2 d.n2 d.c2,.slice d.A3 d.n3 d.c3,.int .i64 d.lic.A,.int .i64 d.lic.B,.int .i64 d.lic.C,.int .i64 d.dep,.int .i64 d.now,.slice d.A6 d.n6 d.c6,.slice d.A7 d.n7 d.c7,.slice d.A8 d.n8 d.c8]) ∧ d.good w' w.heap.size ∧ (d.n1 = ps.length ∧ d.n2 = ns.length ∧ d.n3 = up.length ∧ d.n6 = qs.length ∧ d.n7 = rs.length ∧ d.n8 = es.length) ∧ Ext w w')
 generalize hn1 : ps.length = n1 at *
 generalize hn2 : ns.length = n2 at *
 generalize hn3 : up.length = n3 at *
 generalize hn6 : qs.length = n6 at *
 generalize hn7 : rs.length = n7 at *
 generalize hn8 : es.length = n8 at *
 have HN := Hh (show n1 = ps.length ∧ n2 = ns.length ∧ n3 = up.length ∧ n6 = qs.length ∧ n7 = rs.length ∧ n8 = es.length from ⟨hn1.symm,hn2.symm,hn3.symm,hn6.symm,hn7.symm,hn8.symm⟩)
 clear hn1 hn2 hn3 hn6 hn7 hn8 HLN
 have HBX0 := Hh (show ((w.alloc (.cells #[.slice A1 n1 c1,.slice A2 n2 c2,.slice A3 n3 c3,.int .i64 lic.A,.int .i64 lic.B,.int .i64 lic.C,.int .i64 dep,.int .i64 now,.slice A6 n6 c6,.slice A7 n7 c7,.slice A8 n8 c8] 34)).alloc (.cells #[.slice none 0 0,.slice none 0 0,.slice none 0 0,.int .i64 0,.int .i64 0,.int .i64 0,.int .i64 0,.int .i64 0,.slice none 0 0,.slice none 0 0,.slice none 0 0] 34)).ownsRow w.heap.size 34 11 (.slice (some ⟨w.heap.size,0,none⟩) 1 1) 1 [.slice A1 n1 c1,.slice A2 n2 c2,.slice A3 n3 c3,.int .i64 lic.A,.int .i64 lic.B,.int .i64 lic.C,.int .i64 dep,.int .i64 now,.slice A6 n6 c6,.slice A7 n7 c7,.slice A8 n8 c8] from owns_ext (gbox w [.slice A1 n1 c1,.slice A2 n2 c2,.slice A3 n3 c3,.int .i64 lic.A,.int .i64 lic.B,.int .i64 lic.C,.int .i64 dep,.int .i64 now,.slice A6 n6 c6,.slice A7 n7 c7,.slice A8 n8 c8] 34 11 rfl) ((Ext.refl _).alloc _))
 have HRC0 := Hh (show ((w.alloc (.cells #[.slice A1 n1 c1,.slice A2 n2 c2,.slice A3 n3 c3,.int .i64 lic.A,.int .i64 lic.B,.int .i64 lic.C,.int .i64 dep,.int .i64 now,.slice A6 n6 c6,.slice A7 n7 c7,.slice A8 n8 c8] 34)).alloc (.cells #[.slice none 0 0,.slice none 0 0,.slice none 0 0,.int .i64 0,.int .i64 0,.int .i64 0,.int .i64 0,.int .i64 0,.slice none 0 0,.slice none 0 0,.slice none 0 0] 34)).ownsRow w.heap.size 34 11 (.slice (some ⟨w.heap.size + 1,0,none⟩) 1 1) 1 [.slice none 0 0,.slice none 0 0,.slice none 0 0,.int .i64 0,.int .i64 0,.int .i64 0,.int .i64 0,.int .i64 0,.slice none 0 0,.slice none 0 0,.slice none 0 0] from by
  have h := gbox (w.alloc (.cells #[.slice A1 n1 c1,.slice A2 n2 c2,.slice A3 n3 c3,.int .i64 lic.A,.int .i64 lic.B,.int .i64 lic.C,.int .i64 dep,.int .i64 now,.slice A6 n6 c6,.slice A7 n7 c7,.slice A8 n8 c8] 34)) [.slice none 0 0,.slice none 0 0,.slice none 0 0,.int .i64 0,.int .i64 0,.int .i64 0,.int .i64 0,.int .i64 0,.slice none 0 0,.slice none 0 0,.slice none 0 0] 34 11 rfl
  rw [show (w.alloc (.cells #[.slice A1 n1 c1,.slice A2 n2 c2,.slice A3 n3 c3,.int .i64 lic.A,.int .i64 lic.B,.int .i64 lic.C,.int .i64 dep,.int .i64 now,.slice A6 n6 c6,.slice A7 n7 c7,.slice A8 n8 c8] 34)).heap.size = w.heap.size + 1 by simp] at h
  exact owns_base h (by omega))
 go_enter Tryz.func93,Tryz.ntmps93
 go_upto_region 1 with fail
 refine wp_region_grow_tab 12 [(0,gLit),(4,gRow0 (w.heap.size + 1 + 1) 3 1 n1 (ps.flatMap encInt)),(5,gLit),(9,gRow0 (w.heap.size + 1 + 1) 85 4 n2 (ns.flatMap Node.enc))] (by kernel_rfl) (by kernel_rfl) (by simp only [List.forall_mem_cons];exact ⟨gLit_ok,gRow0_ok _ _ _ _ _,gLit_ok,gRow0_ok _ _ _ _ _,fun p hp => by cases hp⟩) ?_
 simp only [List.take,List.drop]
 have HLO := Hh (fun (u : World) (hu : Ext ((w.alloc (.cells #[.slice A1 n1 c1,.slice A2 n2 c2,.slice A3 n3 c3,.int .i64 lic.A,.int .i64 lic.B,.int .i64 lic.C,.int .i64 dep,.int .i64 now,.slice A6 n6 c6,.slice A7 n7 c7,.slice A8 n8 c8] 34)).alloc (.cells #[.slice none 0 0,.slice none 0 0,.slice none 0 0,.int .i64 0,.int .i64 0,.int .i64 0,.int .i64 0,.int .i64 0,.slice none 0 0,.slice none 0 0,.slice none 0 0] 34)) u) => show (w.heap.size + 1 + 1) ≤ u.heap.size from by have := hu.le;simpa using this)
 have EXY : Ext w ((w.alloc (.cells #[.slice A1 n1 c1,.slice A2 n2 c2,.slice A3 n3 c3,.int .i64 lic.A,.int .i64 lic.B,.int .i64 lic.C,.int .i64 dep,.int .i64 now,.slice A6 n6 c6,.slice A7 n7 c7,.slice A8 n8 c8] 34)).alloc (.cells #[.slice none 0 0,.slice none 0 0,.slice none 0 0,.int .i64 0,.int .i64 0,.int .i64 0,.int .i64 0,.int .i64 0,.slice none 0 0,.slice none 0 0,.slice none 0 0] 34)) := ((Ext.refl w).alloc _).alloc _
 have HXY := Hh EXY
 clear EXY
 skip
 refine grow_make _ _ (by rfl) (by rfl) (fun u hu => ?_) ?_
 ·go_simp
  exact ⟨(Ext.refl u).alloc _,⟨_,rfl⟩,trivial⟩
 rintro v0 ⟨q1,rfl⟩ Φ0 hΦ0
 simp only [Act.put,List.setIfInBounds_toArray,List.set_cons_succ,List.set_cons_zero]
 refine grow_constE (by rfl) (by rfl) ?_
 apply Exists.intro
 refine ⟨fun u hu => ?_, ?_⟩
 ·(obtain ⟨hcu,hfu,hzu⟩ := hu.rules;go_simp;exact ⟨rfl,rfl⟩)
 intro Φ1 hΦ1
 simp only [Act.put,List.setIfInBounds_toArray,List.set_cons_succ,List.set_cons_zero]
 refine grow_constE (by rfl) (by rfl) ?_
 apply Exists.intro
 refine ⟨fun u hu => ?_, ?_⟩
 ·(obtain ⟨hcu,hfu,hzu⟩ := hu.rules;go_simp;exact ⟨rfl,rfl⟩)
 intro Φ2 hΦ2
 simp only [Act.put,List.setIfInBounds_toArray,List.set_cons_succ,List.set_cons_zero]
 refine grow_constE (by rfl) (by rfl) ?_
 apply Exists.intro
 refine ⟨fun u hu => ?_, ?_⟩
 ·(obtain ⟨hcu,hfu,hzu⟩ := hu.rules;go_simp;exact ⟨rfl,rfl⟩)
 intro Φ3 hΦ3
 simp only [Act.put,List.setIfInBounds_toArray,List.set_cons_succ,List.set_cons_zero]
 refine grow_make _ _ (by rfl) (by rfl) (fun u hu => ?_) ?_
 ·refine grow_append0 (enc := encInt) (ok := In64) _ _ _ (by rfl) 3 i2 _ 1 8 Tryz.underlying23 hi2 hK0 hK1 hK2 rfl (by omega) q1 A1 n1 c1 ps (by rfl) (by rfl) (HP1.out u (HXY.out.trans hu)) (fun _ => rfl) (by unfold maxLen;omega) (by omega) ?_
  intro A' c' w' hw' ho'
  exact ⟨⟨A',c',rfl⟩,fun A c e => by cases e;exact ho'.base (HLO.out u hu)⟩
 rintro v4 ⟨B1,d1,rfl⟩ Φ4 hΦ4
 simp only [Act.put,List.setIfInBounds_toArray,List.set_cons_succ,List.set_cons_zero]
 refine grow_make _ _ (by rfl) (by rfl) (fun u hu => ?_) ?_
 ·go_simp
  exact ⟨(Ext.refl u).alloc _,⟨_,rfl⟩,trivial⟩
 rintro v5 ⟨q2,rfl⟩ Φ5 hΦ5
 simp only [Act.put,List.setIfInBounds_toArray,List.set_cons_succ,List.set_cons_zero]
 refine grow_constE (by rfl) (by rfl) ?_
 apply Exists.intro
 refine ⟨fun u hu => ?_, ?_⟩
 ·(obtain ⟨hcu,hfu,hzu⟩ := hu.rules;go_simp;exact ⟨rfl,rfl⟩)
 intro Φ6 hΦ6
 simp only [Act.put,List.setIfInBounds_toArray,List.set_cons_succ,List.set_cons_zero]
 refine grow_constE (by rfl) (by rfl) ?_
 apply Exists.intro
 refine ⟨fun u hu => ?_, ?_⟩
 ·(obtain ⟨hcu,hfu,hzu⟩ := hu.rules;go_simp;exact ⟨rfl,rfl⟩)
 intro Φ7 hΦ7
 simp only [Act.put,List.setIfInBounds_toArray,List.set_cons_succ,List.set_cons_zero]
 refine grow_constE (by rfl) (by rfl) ?_
 apply Exists.intro
 refine ⟨fun u hu => ?_, ?_⟩
 ·(obtain ⟨hcu,hfu,hzu⟩ := hu.rules;go_simp;exact ⟨rfl,rfl⟩)
 intro Φ8 hΦ8
 simp only [Act.put,List.setIfInBounds_toArray,List.set_cons_succ,List.set_cons_zero]
 refine grow_make _ _ (by rfl) (by rfl) (fun u hu => ?_) ?_
 ·refine grow_append0 (enc := Node.enc) (ok := Node.ok) _ _ _ (by rfl) 85 i3 _ 4 32 Tryz.underlying24 hi3 hL0 hL1 hL2 rfl (by omega) q2 A2 n2 c2 ns (by rfl) (by rfl) (HP2.out u (HXY.out.trans hu)) Node.size (by unfold maxLen;omega) (by omega) ?_
  intro A' c' w' hw' ho'
  exact ⟨⟨A',c',rfl⟩,fun A c e => by cases e;exact ho'.base (HLO.out u hu)⟩
 rintro v9 ⟨B2,d2,rfl⟩ Φ9 hΦ9
 simp only [Act.put,List.setIfInBounds_toArray,List.set_cons_succ,List.set_cons_zero]
 refine grow_constE (by rfl) (by rfl) ?_
 apply Exists.intro
 refine ⟨fun u hu => ?_, ?_⟩
 ·(obtain ⟨hcu,hfu,hzu⟩ := hu.rules;go_simp;exact ⟨rfl,rfl⟩)
 intro Φ10 hΦ10
 simp only [Act.put,List.setIfInBounds_toArray,List.set_cons_succ,List.set_cons_zero]
 refine grow_constE (by rfl) (by rfl) ?_
 apply Exists.intro
 refine ⟨fun u hu => ?_, ?_⟩
 ·(obtain ⟨hcu,hfu,hzu⟩ := hu.rules;go_simp;exact ⟨rfl,rfl⟩)
 intro Φ11 hΦ11
 simp only [Act.put,List.setIfInBounds_toArray,List.set_cons_succ,List.set_cons_zero]
 refine grow_nil ?_
 intro wz hz hΦ
 have p11 := hΦ11 wz hΦ
 have p10 := hΦ10 wz p11
 have p9 := hΦ9 wz p10
 have p8 := hΦ8 wz p9.1
 have p7 := hΦ7 wz p8
 have p6 := hΦ6 wz p7
 have p5 := hΦ5 wz p6
 have p4 := hΦ4 wz p5.1
 have HG1 := Hh (p4.2 B1 d1 rfl)
 have HG2 := Hh (p9.2 B2 d2 rfl)
 have HZ := Hh hz
 have HXZ := Hh (HXY.out.trans hz)
 clear hΦ p11 p10 p9 p8 p7 p6 p5 p4 hΦ0 hΦ1 hΦ2 hΦ3 hΦ4 hΦ5 hΦ6 hΦ7 hΦ8 hΦ9 hΦ10 hΦ11 Φ0 Φ1 Φ2 Φ3 Φ4 Φ5 Φ6 Φ7 Φ8 Φ9 Φ10 Φ11 hz
 have HBZ := Hh (owns_ext HBX0.out HZ.out)
 have HRZ := Hh (owns_ext HRC0.out HZ.out)
 clear HBX0 HRC0
 obtain ⟨⟨t0,t1,t2,t3,t4,t5,t6,t7,t8,t9,t10⟩,⟨tf0,tf1,tf2,tf3,tf4,tf5,tf6,tf7,tf8,tf9,tf10⟩,tl⟩ := cells11 HBZ.out
 go_upto_region 2 with fail
 clear t0 t1 t2 t3 t4 t5 t6 t7 t8 t9 t10 tf0 tf1 tf2 tf3 tf4 tf5 tf6 tf7 tf8 tf9 tf10 tl
 have HB1 := Hh ((HBZ.out.stored 0 (.slice B1 n1 d1)).1.stored 1 (.slice B2 n2 d2)).1
 have HR1 := Hh (g_far (g_far HRZ.out (p := 0) (u := .slice B1 n1 d1) (g := w.heap.size) (by simp [Value.ownBlock])) (p := 1) (u := .slice B2 n2 d2) (g := w.heap.size) (by simp [Value.ownBlock]))
 have HE1 := Hh ((HXZ.out.setCell (p := ⟨w.heap.size,0,none⟩) (Nat.le_refl _) (.slice B1 n1 d1)).setCell (p := ⟨w.heap.size,1,none⟩) (Nat.le_refl _) (.slice B2 n2 d2))
 have HD1 := Hh ((((StD.zero_good wz (w.heap.size + 1 + 1)).topo HN.out.1 HN.out.2.1 HG1.out HG2.out HKK.out.1 HKK.out.2.1).low (g := w.heap.size) (p := 0) (u := .slice B1 n1 d1) (by omega)).low (g := w.heap.size) (p := 1) (u := .slice B2 n2 d2) (by omega))
 have HS1 := Hh (show (w.heap.size + 1 + 1) ≤ ((wz.setCell ⟨w.heap.size,0,none⟩ (.slice B1 n1 d1)).setCell ⟨w.heap.size,1,none⟩ (.slice B2 n2 d2)).heap.size from by have := HLO.out wz HZ.out;simpa [World.setCell] using this)
 clear HG1 HG2 HZ HXZ HBZ HRZ HLO HXY
 generalize ((wz.setCell ⟨w.heap.size,0,none⟩ (.slice B1 n1 d1)).setCell ⟨w.heap.size,1,none⟩ (.slice B2 n2 d2)) = u1 at *
 obtain ⟨⟨t0,t1,t2,t3,t4,t5,t6,t7,t8,t9,t10⟩,⟨tf0,tf1,tf2,tf3,tf4,tf5,tf6,tf7,tf8,tf9,tf10⟩,tl⟩ := cells11 HB1.out
 have hs1 := HS1.out
 go_upto_region 3 with (at_builtin;go_must (refine wpList_append_k (enc := encB) (ok := fun _ => True) (.tmp 18) (.tmp 20) _ u1.heap.size 4 i0 _ 1 1 (.slice (some ⟨u1.heap.size,0,none⟩) 0 0) 0 [] A3 n3 c3 up n3 (up.flatMap encB) (Nat.zero_add _) rfl rfl rfl Tryz.underlying27 hi hI0 hI1 hI2 rfl (by omega) rfl (owns_empty u1 4 1) rfl (HP3.out _ (HE1.out.alloc _)) (fun _ => rfl) encB_one (by unfold maxLen;omega) (by omega) (by simp) ?_);intro B3 d3 v2 hr;have HXV := Hh (hr.fresh_ext (u := u1) ((Ext.refl _).alloc _) (fun q hq => by injection hq with hq;rw [← hq];exact Nat.le_refl _));have HRV := Hh hr.row;clear hr;have HBV := Hh (owns_ext HB1.out HXV.out);clear t0 t1 t2 t3 t4 t5 t6 t7 t8 t9 t10 tf0 tf1 tf2 tf3 tf4 tf5 tf6 tf7 tf8 tf9 tf10 tl;obtain ⟨⟨t0,t1,t2,t3,t4,t5,t6,t7,t8,t9,t10⟩,⟨tf0,tf1,tf2,tf3,tf4,tf5,tf6,tf7,tf8,tf9,tf10⟩,tl⟩ := cells11 HBV.out)
 clear t0 t1 t2 t3 t4 t5 t6 t7 t8 t9 t10 tf0 tf1 tf2 tf3 tf4 tf5 tf6 tf7 tf8 tf9 tf10 tl
 have HB2 := Hh (HBV.out.stored 2 (.slice B3 n3 d3)).1
 have HR2 := Hh (g_far (owns_ext HR1.out HXV.out) (p := 2) (u := (.slice B3 n3 d3)) (g := w.heap.size) (by simp [Value.ownBlock]))
 have HE2 := Hh ((HE1.out.trans HXV.out).setCell (p := ⟨w.heap.size,2,none⟩) (Nat.le_refl _) (.slice B3 n3 d3))
 have HD2 := Hh (((HD1.out.ext HXV.out).ups HN.out.2.2.1 (owns_base HRV.out HS1.out)).low (g := w.heap.size) (p := 2) (u := (.slice B3 n3 d3)) (by omega))
 have HS2 := Hh (show (w.heap.size + 1 + 1) ≤ (v2.setCell ⟨w.heap.size,2,none⟩ (.slice B3 n3 d3)).heap.size from by have := HXV.out.le;simp [World.setCell];omega)
 clear HXV HRV HBV HB1 HR1 HE1 HD1 HS1 hs1
 generalize (v2.setCell ⟨w.heap.size,2,none⟩ (.slice B3 n3 d3)) = u2 at *
 obtain ⟨⟨t0,t1,t2,t3,t4,t5,t6,t7,t8,t9,t10⟩,⟨tf0,tf1,tf2,tf3,tf4,tf5,tf6,tf7,tf8,tf9,tf10⟩,tl⟩ := cells11 HB2.out
 have hs2 := HS2.out
 go_upto_region 4 with (at_builtin;go_must (refine wpList_append_k (enc := Job.enc) (ok := Job.ok) (.tmp 23) (.tmp 25) _ u2.heap.size 52 i6 _ 11 88 (.slice (some ⟨u2.heap.size,0,none⟩) 0 0) 0 [] A6 n6 c6 qs n6 (qs.flatMap Job.enc) (Nat.zero_add _) rfl rfl rfl Tryz.underlying30 hi6 hM0 hM1 hM2 rfl (by omega) rfl (owns_empty u2 52 11) rfl (HP6.out _ (HE2.out.alloc _)) Job.size Job.one (by unfold maxLen;omega) (by omega) (by simp) ?_);intro B6 d6 v3 hr;have HXV := Hh (hr.fresh_ext (u := u2) ((Ext.refl _).alloc _) (fun q hq => by injection hq with hq;rw [← hq];exact Nat.le_refl _));have HRV := Hh hr.row;clear hr;have HBV := Hh (owns_ext HB2.out HXV.out);clear t0 t1 t2 t3 t4 t5 t6 t7 t8 t9 t10 tf0 tf1 tf2 tf3 tf4 tf5 tf6 tf7 tf8 tf9 tf10 tl;obtain ⟨⟨t0,t1,t2,t3,t4,t5,t6,t7,t8,t9,t10⟩,⟨tf0,tf1,tf2,tf3,tf4,tf5,tf6,tf7,tf8,tf9,tf10⟩,tl⟩ := cells11 HBV.out)
 clear t0 t1 t2 t3 t4 t5 t6 t7 t8 t9 t10 tf0 tf1 tf2 tf3 tf4 tf5 tf6 tf7 tf8 tf9 tf10 tl
 have HB3 := Hh (HBV.out.stored 8 (.slice B6 n6 d6)).1
 have HR3 := Hh (g_far (owns_ext HR2.out HXV.out) (p := 8) (u := (.slice B6 n6 d6)) (g := w.heap.size) (by simp [Value.ownBlock]))
 have HE3 := Hh ((HE2.out.trans HXV.out).setCell (p := ⟨w.heap.size,8,none⟩) (Nat.le_refl _) (.slice B6 n6 d6))
 have HD3 := Hh (((HD2.out.ext HXV.out).queue HN.out.2.2.2.1 (owns_base HRV.out HS2.out) HKK.out.2.2.1).low (g := w.heap.size) (p := 8) (u := (.slice B6 n6 d6)) (by omega))
 have HS3 := Hh (show (w.heap.size + 1 + 1) ≤ (v3.setCell ⟨w.heap.size,8,none⟩ (.slice B6 n6 d6)).heap.size from by have := HXV.out.le;simp [World.setCell];omega)
 clear HXV HRV HBV HB2 HR2 HE2 HD2 HS2 hs2
 generalize (v3.setCell ⟨w.heap.size,8,none⟩ (.slice B6 n6 d6)) = u3 at *
 obtain ⟨⟨t0,t1,t2,t3,t4,t5,t6,t7,t8,t9,t10⟩,⟨tf0,tf1,tf2,tf3,tf4,tf5,tf6,tf7,tf8,tf9,tf10⟩,tl⟩ := cells11 HB3.out
 have hs3 := HS3.out
 have HL0 := Hh (owns_empty u3 54 13)
 go_wp2
 clear t0 t1 t2 t3 t4 t5 t6 t7 t8 t9 t10 tf0 tf1 tf2 tf3 tf4 tf5 tf6 tf7 tf8 tf9 tf10 tl
 go_loopw [3,32] (fun l iv wr => ∃ (k : Nat) (B7 : Option Addr) (d7 : Nat) (rr : List RawRun),k ≤ n7 ∧ l = .slice B7 k d7 ∧ iv = .int .i64 k ∧ Hid (k = rr.length) ∧ Hid (wr.ownsRow u3.heap.size 54 13 (.slice B7 k d7) k (rr.flatMap RawRun.enc)) ∧ Hid (∀ x ∈ rr,x.ok ∧ RawRun.mem wr u3.heap.size x) ∧ Ext u3 wr) (fun _ iv _ => n7 - (intOf iv).toNat)
 case atStart => exact ⟨0,_,0,[],Nat.zero_le _,rfl,rfl,Hh rfl,HL0,Hh (fun x hx => by cases hx),(Ext.refl _).alloc _⟩
 case round =>
  clear HL0
  obtain ⟨k,B7,d7,rr,hk,rfl,rfl,HLK,HO,HOK,hb⟩ := hrel
  by_cases hlt : k < n7
  ·obtain ⟨bq,oq,x,cs,hA7,hbw,hx,_,hc,Ar,cr,rfl,hs,hcr,hnl,hat64,hjok⟩ := (HP7.out wr (HE3.out.trans hb)).at_ hlt
   subst hA7
   have g0 := hc 0 _ rfl
   have g1 := hc 1 _ rfl
   have g2 := hc 2 _ rfl
   have g3 := hc 3 _ rfl
   have g4 := hc 4 _ rfl
   have g5 := hc 5 _ rfl
   have g6 := hc 6 _ rfl
   have g7 := hc 7 _ rfl
   have g8 := hc 8 _ rfl
   have g9 := hc 9 _ rfl
   have g10 := hc 10 _ rfl
   have g11 := hc 11 _ rfl
   have g12 := hc 12 _ rfl
   simp only [Nat.add_zero] at g0
   have HJK := Hh (show x.Job.ok ∧ In64 x.At ∧ x.Nodes.length ≤ 1048576 ∧ ∀ y ∈ x.Nodes,In64 y from ⟨hjok,hat64,hnl,hs.all⟩)
   have HSX := Hh (fun (u : World) (e : Ext wr u) => hs.ext (Flat.mono encInt In64) e)
   have hz := hb.le
   clear hx hc hs hcr hnl hat64 hjok
   have hxl := HJK.out.2.2.1
   have HXB := Hh (gbox wr [.int .i64 x.Job.Id,.int .i64 x.Job.Prio,.int .i64 x.Job.Nodes,.int .i64 x.Job.Need.A,.int .i64 x.Job.Need.B,.int .i64 x.Job.Need.C,.int .i64 x.Job.Lic.A,.int .i64 x.Job.Lic.B,.int .i64 x.Job.Lic.C,.int .i64 x.Job.Wall,.int .i64 x.Job.Level,.int .i64 x.At,.slice Ar x.Nodes.length cr] 54 13 rfl)
   go_upto_region 9 with (at_builtin;go_must (refine wpList_append_k (enc := encInt) (ok := In64) (.tmp 36) (.tmp 38) _ (wr.heap.size + 1) 3 i2 _ 1 8 (.slice (some ⟨wr.heap.size + 1,0,none⟩) 0 0) 0 [] Ar x.Nodes.length cr x.Nodes x.Nodes.length (x.Nodes.flatMap encInt) (Nat.zero_add _) rfl rfl rfl Tryz.underlying23 hi2 hK0 hK1 hK2 rfl (by omega) rfl (by have h := owns_empty (wr.alloc (.cells #[.int .i64 x.Job.Id,.int .i64 x.Job.Prio,.int .i64 x.Job.Nodes,.int .i64 x.Job.Need.A,.int .i64 x.Job.Need.B,.int .i64 x.Job.Need.C,.int .i64 x.Job.Lic.A,.int .i64 x.Job.Lic.B,.int .i64 x.Job.Lic.C,.int .i64 x.Job.Wall,.int .i64 x.Job.Level,.int .i64 x.At,.slice Ar x.Nodes.length cr] 54)) 3 1;rw [show (wr.alloc (.cells #[.int .i64 x.Job.Id,.int .i64 x.Job.Prio,.int .i64 x.Job.Nodes,.int .i64 x.Job.Need.A,.int .i64 x.Job.Need.B,.int .i64 x.Job.Need.C,.int .i64 x.Job.Lic.A,.int .i64 x.Job.Lic.B,.int .i64 x.Job.Lic.C,.int .i64 x.Job.Wall,.int .i64 x.Job.Level,.int .i64 x.At,.slice Ar x.Nodes.length cr] 54)).heap.size = wr.heap.size + 1 by simp] at h;exact h) rfl (HSX.out _ (((Ext.refl _).alloc _).alloc _)) (fun _ => rfl) cInt_one (by unfold maxLen;omega) (by omega) (by simp) ?_);intro Bn dn v5 hr;have HXV := Hh (hr.fresh_ext (u := (wr.alloc (.cells #[.int .i64 x.Job.Id,.int .i64 x.Job.Prio,.int .i64 x.Job.Nodes,.int .i64 x.Job.Need.A,.int .i64 x.Job.Need.B,.int .i64 x.Job.Need.C,.int .i64 x.Job.Lic.A,.int .i64 x.Job.Lic.B,.int .i64 x.Job.Lic.C,.int .i64 x.Job.Wall,.int .i64 x.Job.Level,.int .i64 x.At,.slice Ar x.Nodes.length cr] 54))) ((Ext.refl _).alloc _) (fun q hq => by injection hq with hq;rw [← hq];simp));have HRV := Hh hr.row;clear hr;have HXW := Hh (owns_ext HXB.out HXV.out);obtain ⟨⟨z0,z1,z2,z3,z4,z5,z6,z7,z8,z9,z10,z11,z12⟩,zf,zl⟩ := cells13 HXW.out)
   clear z0 z1 z2 z3 z4 z5 z6 z7 z8 z9 z10 z11 z12 zf zl
   have HXN := Hh (HXW.out.stored 12 (.slice Bn x.Nodes.length dn)).1
   have HEN := Hh (show Ext wr (v5.setCell ⟨wr.heap.size,12,none⟩ (.slice Bn x.Nodes.length dn)) from ((((Ext.refl wr).alloc _).trans HXV.out).setCell (p := ⟨wr.heap.size,12,none⟩) (Nat.le_refl _) _))
   have HRN := Hh (g_far HRV.out (p := 12) (u := .slice Bn x.Nodes.length dn) (g := wr.heap.size) (fun e => by have := (HRV.out.lt _ e).1;omega))
   clear HXV HRV HXW HXB
   generalize (v5.setCell ⟨wr.heap.size,12,none⟩ (.slice Bn x.Nodes.length dn)) = v6 at *
   obtain ⟨⟨z0,z1,z2,z3,z4,z5,z6,z7,z8,z9,z10,z11,z12⟩,zf,zl⟩ := cells13 HXN.out
   have HXK := Hh (show RawRun.ok ⟨x.Job,x.At,Bn,x.Nodes.length,dn⟩ from ⟨HJK.out.1,HJK.out.2.1,HJK.out.2.2.1,g_cap HRN.out⟩)
   have HON := Hh (owns_ext HO.out HEN.out)
   have hzn := HEN.out.le
   go_upto_region 10 with (at_builtin;go_must (refine wpList_append_k (enc := RawRun.enc) (ok := RawRun.ok) (.tmp 41) (.tmp 43) _ u3.heap.size 54 i7 _ 13 120 (.slice B7 k d7) k (rr.flatMap RawRun.enc) (some ⟨v6.heap.size,0,none⟩) 1 1 [(⟨x.Job,x.At,Bn,x.Nodes.length,dn⟩ : RawRun)] (k + 1) ((rr ++ [(⟨x.Job,x.At,Bn,x.Nodes.length,dn⟩ : RawRun)]).flatMap RawRun.enc) rfl List.flatMap_append.symm rfl rfl Tryz.underlying31 hi7 hN0 hN1 hN2 rfl (by omega) rfl (owns_ext HON.out ((Ext.refl _).alloc _)) rfl (by exact sl_one_at (enc := RawRun.enc) v6 _ rfl (⟨x.Job,x.At,Bn,x.Nodes.length,dn⟩ : RawRun) 54 rfl HXK.out) RawRun.size RawRun.one (by unfold maxLen;omega) (by omega) (by simp;omega) ?_);intro Bp dp v7 hr;have HRP := Hh hr;clear hr)
   have HKP := Hh HRP.out.kp
   have HOB := Hh (owns_ext HON.out ((Ext.refl v6).alloc (.cells (RawRun.enc (⟨x.Job,x.At,Bn,x.Nodes.length,dn⟩ : RawRun)).toArray 54)))
   have HE7 := Hh (show Ext u3 v7 from HKP.out.ext ((hb.trans HEN.out).alloc _) (fun q hq => (HOB.out.lt q hq).1))
   have HM7 := Hh (show ∀ y ∈ rr ++ [(⟨x.Job,x.At,Bn,x.Nodes.length,dn⟩ : RawRun)],y.ok ∧ RawRun.mem v7 u3.heap.size y from fun y hy => by
    rcases List.mem_append.1 hy with hy | hy
    ·obtain ⟨hy1,ys,hy2⟩ := HOK.out y hy
     exact ⟨hy1,ys,((hy2.ext HEN.out).ext ((Ext.refl v6).alloc _)).kept HOB.out HKP.out (by decide)⟩
    ·rw [List.mem_singleton.1 hy]
     have hq : RowI v6 u3.heap.size Bn x.Nodes.length dn x.Nodes := ⟨owns_sl encInt_size HRN.out HJK.out.2.2.2,owns_base HRN.out (by omega)⟩
     exact ⟨HXK.out,x.Nodes,(hq.ext ((Ext.refl v6).alloc _)).kept HOB.out HKP.out (by decide)⟩)
   have HRW := Hh HRP.out.row
   have HLK2 := Hh (show k + 1 = (rr ++ [(⟨x.Job,x.At,Bn,x.Nodes.length,dn⟩ : RawRun)]).length by rw [List.length_append,← HLK.out];rfl)
   clear HRP HKP HOB HON HXN HRN HEN z0 z1 z2 z3 z4 z5 z6 z7 z8 z9 z10 z11 z12 zf zl HO HOK HLK HSX hb hzn hz
   go_wp2
   go_roundw
   case rel => exact ⟨k + 1,Bp,dp,rr ++ [⟨x.Job,x.At,Bn,x.Nodes.length,dn⟩],by omega,rfl,by go_num,HLK2,HRW,HM7,HE7.out⟩
   case measure => simp [intOf];omega
  ·obtain rfl : k = n7 := by omega
   have HB4 := Hh (owns_ext HB3.out hb)
   have HR4 := Hh (owns_ext HR3.out hb)
   have HE4 := Hh (HE3.out.trans hb)
   have HS4 := Hh (show (w.heap.size + 1 + 1) ≤ wr.heap.size from Nat.le_trans HS3.out hb.le)
   have HD4 := Hh ((HD3.out.ext hb).runs (A := B7) (c := d7) HLK.out (owns_base HO.out HS3.out) (fun x hx => by obtain ⟨h1,ys,h2⟩ := HOK.out x hx;exact ⟨h1,ys,h2.base HS3.out⟩))
   clear HB3 HR3 HE3 HD3 HS3 hb HLK HO HOK hs3
   obtain ⟨⟨t0,t1,t2,t3,t4,t5,t6,t7,t8,t9,t10⟩,⟨tf0,tf1,tf2,tf3,tf4,tf5,tf6,tf7,tf8,tf9,tf10⟩,tl⟩ := cells11 HB4.out
   go_upto_region 12 with fail
   clear t0 t1 t2 t3 t4 t5 t6 t7 t8 t9 t10 tf0 tf1 tf2 tf3 tf4 tf5 tf6 tf7 tf8 tf9 tf10 tl
   have HB5 := Hh (HB4.out.stored 9 (.slice B7 k d7)).1
   have HR5 := Hh (g_far HR4.out (p := 9) (u := .slice B7 k d7) (g := w.heap.size) (by simp [Value.ownBlock]))
   have HE5 := Hh (HE4.out.setCell (p := ⟨w.heap.size,9,none⟩) (Nat.le_refl _) (.slice B7 k d7))
   have HD5 := Hh (HD4.out.low (g := w.heap.size) (p := 9) (u := .slice B7 k d7) (by omega))
   have HS5 := Hh (show (w.heap.size + 1 + 1) ≤ (wr.setCell ⟨w.heap.size,9,none⟩ (.slice B7 k d7)).heap.size from by have := HS4.out;simpa [World.setCell] using this)
   clear HB4 HR4 HE4 HD4 HS4
   generalize (wr.setCell ⟨w.heap.size,9,none⟩ (.slice B7 k d7)) = u5 at *
   obtain ⟨⟨t0,t1,t2,t3,t4,t5,t6,t7,t8,t9,t10⟩,⟨tf0,tf1,tf2,tf3,tf4,tf5,tf6,tf7,tf8,tf9,tf10⟩,tl⟩ := cells11 HB5.out
   have hs5 := HS5.out
   go_upto_region 13 with (at_builtin;go_must (refine wpList_append_k (enc := End.enc) (ok := End.ok) (.tmp 48) (.tmp 50) _ u5.heap.size 64 i8 _ 3 24 (.slice (some ⟨u5.heap.size,0,none⟩) 0 0) 0 [] A8 n8 c8 es n8 (es.flatMap End.enc) (Nat.zero_add _) rfl rfl rfl Tryz.underlying32 hi8 hO0 hO1 hO2 rfl (by omega) rfl (owns_empty u5 64 3) rfl (HP8.out _ (HE5.out.alloc _)) End.size End.one (by unfold maxLen;omega) (by omega) (by simp) ?_);intro B8 d8 v6 hr;have HXV := Hh (hr.fresh_ext (u := u5) ((Ext.refl _).alloc _) (fun q hq => by injection hq with hq;rw [← hq];exact Nat.le_refl _));have HRV := Hh hr.row;clear hr;have HBV := Hh (owns_ext HB5.out HXV.out);clear t0 t1 t2 t3 t4 t5 t6 t7 t8 t9 t10 tf0 tf1 tf2 tf3 tf4 tf5 tf6 tf7 tf8 tf9 tf10 tl;obtain ⟨⟨t0,t1,t2,t3,t4,t5,t6,t7,t8,t9,t10⟩,⟨tf0,tf1,tf2,tf3,tf4,tf5,tf6,tf7,tf8,tf9,tf10⟩,tl⟩ := cells11 HBV.out)
   clear t0 t1 t2 t3 t4 t5 t6 t7 t8 t9 t10 tf0 tf1 tf2 tf3 tf4 tf5 tf6 tf7 tf8 tf9 tf10 tl
   have HB6 := Hh (HBV.out.stored 10 (.slice B8 n8 d8)).1
   have HR6 := Hh (g_far (owns_ext HR5.out HXV.out) (p := 10) (u := (.slice B8 n8 d8)) (g := w.heap.size) (by simp [Value.ownBlock]))
   have HE6 := Hh ((HE5.out.trans HXV.out).setCell (p := ⟨w.heap.size,10,none⟩) (Nat.le_refl _) (.slice B8 n8 d8))
   have HD6 := Hh (((HD5.out.ext HXV.out).ends HN.out.2.2.2.2.2 (owns_base HRV.out HS5.out) HKK.out.2.2.2).low (g := w.heap.size) (p := 10) (u := (.slice B8 n8 d8)) (by omega))
   have HS6 := Hh (show (w.heap.size + 1 + 1) ≤ (v6.setCell ⟨w.heap.size,10,none⟩ (.slice B8 n8 d8)).heap.size from by have := HXV.out.le;simp [World.setCell];omega)
   clear HXV HRV HBV HB5 HR5 HE5 HD5 HS5 hs5
   generalize (v6.setCell ⟨w.heap.size,10,none⟩ (.slice B8 n8 d8)) = u6 at *
   obtain ⟨⟨t0,t1,t2,t3,t4,t5,t6,t7,t8,t9,t10⟩,⟨tf0,tf1,tf2,tf3,tf4,tf5,tf6,tf7,tf8,tf9,tf10⟩,tl⟩ := cells11 HB6.out
   obtain ⟨⟨r0,r1,r2,r3,r4,r5,r6,r7,r8,r9,r10⟩,⟨rf0,rf1,rf2,rf3,rf4,rf5,rf6,rf7,rf8,rf9,rf10⟩,rl⟩ := cells11 HR6.out
   have HEF := Hh (Ext.puts [.slice B1 n1 d1,.slice B2 n2 d2,.slice B3 n3 d3,.int .i64 lic.A,.int .i64 lic.B,.int .i64 lic.C,.int .i64 dep,.int .i64 now,.slice B6 n6 d6,.slice B7 k d7,.slice B8 n8 d8] u6 0 HE6.out (show w.heap.size ≤ w.heap.size + 1 by omega))
   have HDF := Hh (StD.good.puts (show w.heap.size + 1 < (w.heap.size + 1 + 1) by omega) [.slice B1 n1 d1,.slice B2 n2 d2,.slice B3 n3 d3,.int .i64 lic.A,.int .i64 lic.B,.int .i64 lic.C,.int .i64 dep,.int .i64 now,.slice B6 n6 d6,.slice B7 k d7,.slice B8 n8 d8] u6 0 HD6.out)
   clear HB6 HR6 HE6 HD6
   go_wp2
   exact bodyPost_ret (v := .agg #[.slice B1 n1 d1,.slice B2 n2 d2,.slice B3 n3 d3,.int .i64 lic.A,.int .i64 lic.B,.int .i64 lic.C,.int .i64 dep,.int .i64 now,.slice B6 n6 d6,.slice B7 k d7,.slice B8 n8 d8]) (by simp [results,Tryz.results93,go_sem, *]) rfl ⟨((((((StD.zero.withTopo ps B1 n1 d1 ns B2 n2 d2).withUp up B3 n3 d3).withQ qs B6 n6 d6).withR rr B7 k d7).withE es B8 n8 d8).withLic lic |>.withDep dep |>.withNow now),rfl,(((HDF.out.lic lic).dep dep).now hnow).base (by omega),⟨rfl,rfl,rfl,rfl,rfl,rfl⟩,HEF.out⟩
theorem any_drop {α : Type} {l : List α} {p : α → Bool} {k : Nat} {x : α} (hx : l[k]? = some x) : (l.drop k).any p = (p x || (l.drop (k + 1)).any p) := by rw [drop_cons hx,List.any_cons]
theorem sQueueOk_c (xs : List Job) (A : Option Addr) (n c : Nat) (w : World) (h : SlAt RJob 11 w A n xs) (hl : n ≤ maxLen) : Calls Tryz.prog 34 #[.slice A n c] w (Ret w (.bool (queueB xs))) := by
 unfold maxLen at hl
 have HN := Hh h.len
 have HS := Hh (fun (u : World) (e : Ext w u) => h.ext (Flat.mono _ _) e)
 have HQ := Hh (show queueB xs = (queueGo [] xs && decide (n ≤ 60)) by unfold queueB;rw [h.len])
 clear h
 generalize queueB xs = R at *
 generalize hg0 : queueGo [] xs = q0 at *
 by_cases h60 : n ≤ 60
 rotate_left
 ·have HF := Hh (show R = false by rw [HQ.out,decide_eq_false h60];simp)
  go_enter Tryz.func34,Tryz.ntmps34
  go_wp2
  exact ret_bool rfl rfl rfl (by rw [HF.out]) (Ext.refl _)
 have HR := Hh (show R = q0 by rw [HQ.out,decide_eq_true h60];simp)
 go_enter Tryz.func34,Tryz.ntmps34
 go_wp2
 go_loopw [11] (fun iv wr => ∃ k : Nat,k ≤ n ∧ iv = .int .i64 k ∧ Hid (q0 = queueGo (xs.take k) (xs.drop k)) ∧ Ext w wr) (fun iv _ => n - (intOf iv).toNat)
 case atStart => exact ⟨0,Nat.zero_le _,rfl,Hh hg0.symm,Ext.refl _⟩
 case round =>
  clear hg0
  obtain ⟨k,hk,rfl,HE,hb⟩ := hrel
  by_cases hlt : k < n
  ·obtain ⟨b,o,x,cs,rfl,hbw,hx,_,hc,rfl,_⟩ := (HS.out wr hb).at_ hlt
   have g0 := hc 0 _ rfl
   have g1 := hc 1 _ rfl
   have g2 := hc 2 _ rfl
   have g3 := hc 3 _ rfl
   have g4 := hc 4 _ rfl
   have g5 := hc 5 _ rfl
   have g6 := hc 6 _ rfl
   have g7 := hc 7 _ rfl
   have g8 := hc 8 _ rfl
   have g9 := hc 9 _ rfl
   have g10 := hc 10 _ rfl
   simp only [Nat.add_zero] at g0
   have HST := Hh (queue_step hx)
   clear hc hx
   have HJ := Hh (fun u : World => sJobOk_c x u)
   rcases (Bool.eq_false_or_eq_true (jobB x)).symm with h1 | h1
   all_goals rw [h1] at HJ HST
   ·go_wp2_with fail
    refine (HJ.out _).mono ?_
    rintro e w1 ⟨rfl,hb1⟩
    go_wp2
    refine ret_bool rfl rfl rfl ?_ ((hb.alloc _).trans hb1)
    rw [HR.out,HE.out,HST.out];rfl
   ·go_wp2_with fail
    refine (HJ.out _).mono ?_
    rintro e w1 ⟨rfl,hb1⟩
    have HXW := Hh (fun (u : World) (e : Ext (wr.alloc (.cells #[.int .i64 x.Id,.int .i64 x.Prio,.int .i64 x.Nodes,.int .i64 x.Need.A,.int .i64 x.Need.B,.int .i64 x.Need.C,.int .i64 x.Lic.A,.int .i64 x.Lic.B,.int .i64 x.Lic.C,.int .i64 x.Wall,.int .i64 x.Level] 52)) u) => (hb.alloc _).trans e)
    have HJ0 := Hh (fun (u : World) (e : Ext (wr.alloc (.cells #[.int .i64 x.Id,.int .i64 x.Prio,.int .i64 x.Nodes,.int .i64 x.Need.A,.int .i64 x.Need.B,.int .i64 x.Need.C,.int .i64 x.Lic.A,.int .i64 x.Lic.B,.int .i64 x.Lic.C,.int .i64 x.Wall,.int .i64 x.Level] 52)) u) => e.cell (cell_box_at wr wr.heap.size rfl [.int .i64 x.Id,.int .i64 x.Prio,.int .i64 x.Nodes,.int .i64 x.Need.A,.int .i64 x.Need.B,.int .i64 x.Need.C,.int .i64 x.Lic.A,.int .i64 x.Lic.B,.int .i64 x.Lic.C,.int .i64 x.Wall,.int .i64 x.Level] 52 0 _ rfl))
    clear g0 g1 g2 g3 g4 g5 g6 g7 g8 g9 g10
    go_wp2
    go_loopw [5] (fun tv wq => ∃ t : Nat,t ≤ k ∧ tv = .int .i64 t ∧ Hid ((xs.take k).any (fun y => y.Id == x.Id) = ((xs.take k).drop t).any (fun y => y.Id == x.Id)) ∧ Ext (wr.alloc (.cells #[.int .i64 x.Id,.int .i64 x.Prio,.int .i64 x.Nodes,.int .i64 x.Need.A,.int .i64 x.Need.B,.int .i64 x.Need.C,.int .i64 x.Lic.A,.int .i64 x.Lic.B,.int .i64 x.Lic.C,.int .i64 x.Wall,.int .i64 x.Level] 52)) wq) (fun tv _ => k - (intOf tv).toNat)
    case atStart => exact ⟨0,Nat.zero_le _,rfl,Hh rfl,hb1⟩
    case round =>
     obtain ⟨t,ht,rfl,HU,hbq⟩ := hrel
     have z0 := HJ0.out _ hbq
     have hz0 := lt_of_cell z0
     by_cases htk : t < k
     ·obtain ⟨b2,o2,y,cs2,e2,hbw2,hy,_,hc2,rfl,_⟩ := (HS.out wr (HXW.out _ hbq)).at_ (show t < n by omega)
      injection e2 with e2
      injection e2 with e2 e3
      subst e2 e3
      have y0 := hc2 0 _ rfl
      have y1 := hc2 1 _ rfl
      have y2 := hc2 2 _ rfl
      have y3 := hc2 3 _ rfl
      have y4 := hc2 4 _ rfl
      have y5 := hc2 5 _ rfl
      have y6 := hc2 6 _ rfl
      have y7 := hc2 7 _ rfl
      have y8 := hc2 8 _ rfl
      have y9 := hc2 9 _ rfl
      have y10 := hc2 10 _ rfl
      simp only [Nat.add_zero] at y0
      have HSU := Hh (any_drop (p := fun y : Job => y.Id == x.Id) (show (xs.take k)[t]? = some y by rw [List.getElem?_take,if_pos htk];exact hy))
      clear hy hc2 y1 y2 y3 y4 y5 y6 y7 y8 y9 y10
      rcases (Bool.eq_false_or_eq_true (y.Id == x.Id)).symm with h2 | h2
      ·have HS2 := Hh h2
       go_wp2
       go_quiet (fail)
       go_wp2
       go_roundw
       case rel => exact ⟨t + 1,by omega,by go_num,Hh (by rw [HU.out,HSU.out,HS2.out];rfl),Ext.trans hbq ((Ext.refl _).drewN _)⟩
       case measure => simp [intOf];omega
      ·have HF := Hh (show R = false by rw [HR.out,HE.out,HST.out,HU.out,HSU.out,h2];rfl)
       go_wp2
       go_quiet (fail)
       go_wp2
       exact ret_bool rfl rfl rfl (by rw [HF.out]) (Ext.trans (HXW.out _ hbq) ((Ext.refl _).drewN _))
     ·have HO := Hh (show q0 = queueGo (xs.take (k + 1)) (xs.drop (k + 1)) by rw [HE.out,HST.out,HU.out,List.drop_eq_nil_of_le (by rw [List.length_take];omega)];rfl)
      go_wp2
      go_roundw
      case rel => exact ⟨k + 1,by omega,by go_num,HO,HXW.out _ hbq⟩
      case measure => simp [intOf];omega
  ·have HZ := Hh (show q0 = true by rw [HE.out,List.drop_eq_nil_of_le (by have := HN.out;omega)];rfl)
   go_wp2
   exact ret_bool rfl rfl rfl (by rw [HR.out,HZ.out]) hb
end Go.Proofs.YtfanjhcdjbnnnaaGreat
