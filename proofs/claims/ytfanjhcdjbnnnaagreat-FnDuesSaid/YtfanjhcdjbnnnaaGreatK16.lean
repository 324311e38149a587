/- SCopy, MvFind, MvOut. -/
import Derived.Test.YtfanjhcdjbnnnaaGreatK11
import Derived.Test.YtfanjhcdjbnnnaaGreatK15
import Derived.Test.YtfanjhcdjbnnnaaGreatK12
import Derived.Test.YtfanjhcdjbnnnaaGreatK06
namespace Go.Proofs.YtfanjhcdjbnnnaaGreat
open Go.RowKit
set_option linter.unusedVariables false
set_option maxHeartbeats 16000000
set_option maxRecDepth 10000
def RetRoomS (w : World) (ps : List Int) (ns : List Node) (up : List Bool) (r : List (List Pt) × List Pt) : Ending → World → Prop := fun e w' => ∃ A1 c1 A2 c2 A3 c3 A4 c4 A5 c5,e = .returned (.agg #[.slice A1 ps.length c1,.slice A2 ns.length c2,.slice A3 up.length c3,.slice A4 r.1.length c4,.slice A5 r.2.length c5]) ∧ RoomS w' w.heap.size ps ns up r A1 c1 A2 c2 A3 c3 A4 c4 A5 c5 ∧ Ext w w'
theorem own0.far5 {w : World} {lo lo' g : Nat} {e : TypeId} {sz : Nat} {A : Option Addr} {c n : Nat} {L : List Value} {u0 u1 u2 u3 u4 : Value} (h : own0 w lo e sz A c n L) (hne : e ≠ 73) (hbox : w.ownsRow lo' 73 5 (.slice (some ⟨g,0,none⟩) 1 1) 1 [u0,u1,u2,u3,u4]) (a0 a1 a2 a3 a4 : Value) : own0 (((((w.setCell ⟨g,0,none⟩ a0).setCell ⟨g,1,none⟩ a1).setCell ⟨g,2,none⟩ a2).setCell ⟨g,3,none⟩ a3).setCell ⟨g,4,none⟩ a4) lo e sz A c n L := by
 have b1 := (hbox.stored 0 a0).1
 have b2 := (b1.stored 1 a1).1
 have b3 := (b2.stored 2 a2).1
 have b4 := (b3.stored 3 a3).1
 exact ((((h.far hbox hne).far b1 hne).far b2 hne).far b3 hne).far b4 hne
theorem row_far5 {w : World} {lo lo' g : Nat} {e : TypeId} {sz n : Nat} {v : Value} {L : List Value} {u0 u1 u2 u3 u4 : Value} (h : w.ownsRow lo e sz v n L) (hne : e ≠ 73) (hbox : w.ownsRow lo' 73 5 (.slice (some ⟨g,0,none⟩) 1 1) 1 [u0,u1,u2,u3,u4]) (a0 a1 a2 a3 a4 : Value) : (((((w.setCell ⟨g,0,none⟩ a0).setCell ⟨g,1,none⟩ a1).setCell ⟨g,2,none⟩ a2).setCell ⟨g,3,none⟩ a3).setCell ⟨g,4,none⟩ a4).ownsRow lo e sz v n L := by
 have b1 := (hbox.stored 0 a0).1
 have b2 := (b1.stored 1 a1).1
 have b3 := (b2.stored 2 a2).1
 have b4 := (b3.stored 3 a3).1
 exact g_far (g_far (g_far (g_far (g_far h (fun q => g_apart h hbox hne _ q rfl)) (fun q => g_apart (g_far h (fun q => g_apart h hbox hne _ q rfl)) b1 hne _ q rfl)) (fun q => g_apart (g_far (g_far h (fun q => g_apart h hbox hne _ q rfl)) (fun q => g_apart (g_far h (fun q => g_apart h hbox hne _ q rfl)) b1 hne _ q rfl)) b2 hne _ q rfl)) (fun q => by have := h.lt _ q;exact g_apart (g_far (g_far (g_far h (fun q => g_apart h hbox hne _ q rfl)) (fun q => g_apart (g_far h (fun q => g_apart h hbox hne _ q rfl)) b1 hne _ q rfl)) (fun q => g_apart (g_far (g_far h (fun q => g_apart h hbox hne _ q rfl)) (fun q => g_apart (g_far h (fun q => g_apart h hbox hne _ q rfl)) b1 hne _ q rfl)) b2 hne _ q rfl)) b3 hne _ q rfl)) (fun q => g_apart h hbox hne _ q rfl)
theorem box_fill5 {w : World} {lo' g : Nat} {u0 u1 u2 u3 u4 : Value} (hbox : w.ownsRow lo' 73 5 (.slice (some ⟨g,0,none⟩) 1 1) 1 [u0,u1,u2,u3,u4]) (a0 a1 a2 a3 a4 : Value) : (((((w.setCell ⟨g,0,none⟩ a0).setCell ⟨g,1,none⟩ a1).setCell ⟨g,2,none⟩ a2).setCell ⟨g,3,none⟩ a3).setCell ⟨g,4,none⟩ a4).ownsRow lo' 73 5 (.slice (some ⟨g,0,none⟩) 1 1) 1 [a0,a1,a2,a3,a4] :=
 (((((hbox.stored 0 a0).1.stored 1 a1).1.stored 2 a2).1.stored 3 a3).1.stored 4 a4).1
theorem l04Copy_c (ps : List Int) (ns : List Node) (up : List Bool) (pl : List (List Pt)) (lic : List Pt) (v : Value) (w : World) (h : RoomAt w ps ns up (pl,lic) v) (hps : ps.length ≤ 24) (hns : ns.length ≤ 24) (hup : up.length ≤ 24) (hpl : pl.length ≤ 24) (hpi : ∀ p ∈ pl,p.length ≤ 200) (hli : lic.length ≤ 200) : Calls Tryz.prog 90 #[v] w (RetRoomS w ps ns up (pl,lic)) := by
 obtain ⟨A1,c1,A2,c2,A3,c3,A4,c4,A5,c5,rfl,h1,h2,h3,h4,h5⟩ := h
 simp only [] at h4 h5 ⊢
 obtain ⟨i0,hi,hI0,hI1,hI2⟩ := info_parts CBool.info
 obtain ⟨i1,hi1,hJ0,hJ1,hJ2⟩ := info_parts CProf.info
 obtain ⟨i2,hi2,hK0,hK1,hK2⟩ := info_parts CInt.info
 obtain ⟨i3,hi3,hL0,hL1,hL2⟩ := info_parts CNode.info
 have HP1 := Hh (fun (u : World) (e : Ext w u) => h1.ext (Flat.mono encInt In64) e)
 have HP2 := Hh (fun (u : World) (e : Ext w u) => h2.ext (Flat.mono Node.enc Node.ok) e)
 have HU := Hh (fun (u : World) (e : Ext w u) => h3.ext (Flat.mono encB (fun _ => True)) e)
 have HL := Hh (fun (u : World) (e : Ext w u) => l04Prof_c lic A5 lic.length c5 u (h5.ext (Flat.mono _ _) e) (by omega))
 have H4 := Hh (fun (u : World) (e : Ext w u) => h4.ext RPf.mono e)
 have HK := Hh (show (∀ x ∈ ps,In64 x) ∧ (∀ x ∈ ns,x.ok) ∧ ∀ x ∈ lic,x.ok from ⟨h1.all,h2.all,h5.all⟩)
 have HPI := Hh hpi
 clear h1 h2 h3 h4 h5 hpi
 generalize hpm : pl.length = pm at *
 have HPM := Hh hpm
 clear hpm
 go_enter Tryz.func90,Tryz.ntmps90
 go_upto_region 1 with fail
 refine wp_region_grow_tab 9 [(0,gLit),(3,gRow0 (w.heap.size + 1 + 1) 4 1 up.length (up.flatMap encB)),(6,gProf (w.heap.size + 1 + 1) lic),(8,gBox (w.heap.size + 1 + 1) 73 5 [.slice none 0 0,.slice none 0 0,.slice none 0 0,.slice none 0 0,.slice none 0 0])] (by kernel_rfl) (by kernel_rfl) (by simp only [List.forall_mem_cons];exact ⟨gLit_ok,gRow0_ok _ _ _ _ _,gProf_ok _ _,gBox_ok _ _ _ _,fun p hp => by cases hp⟩) ?_
 simp only [List.take,List.drop]
 have HLO := Hh (fun (u : World) (hu : Ext ((w.alloc (.cells #[.slice A1 ps.length c1,.slice A2 ns.length c2,.slice A3 up.length c3,.slice A4 pm c4,.slice A5 lic.length c5] 73)).alloc (.cells #[.slice none 0 0,.slice none 0 0,.slice none 0 0,.slice none 0 0,.slice none 0 0] 73)) u) => show (w.heap.size + 1 + 1) ≤ u.heap.size from by have := hu.le;simpa using this)
 refine grow_make _ _ (by rfl) (by rfl) (fun u hu => ?_) ?_
 ·go_simp
  exact ⟨(Ext.refl u).alloc _,⟨_,rfl⟩,trivial⟩
 rintro v0 ⟨q0,rfl⟩ Φ0 hΦ0
 simp only [Act.put,List.setIfInBounds_toArray,List.set_cons_succ,List.set_cons_zero]
 refine grow_constE (by rfl) (by rfl) ?_
 apply Exists.intro
 refine ⟨fun u hu => ?_, ?_⟩
 ·(obtain ⟨hcu,hfu,hzu⟩ := hu.rules;go_simp;exact ⟨rfl,rfl⟩)
 intro Φ1 hΦ1
 simp only [Act.put,List.setIfInBounds_toArray,List.set_cons_succ,List.set_cons_zero]
 refine grow_constE (by rfl) (by rfl) ?_
 apply Exists.intro
 refine ⟨fun u hu => ?_, ?_⟩
 ·(obtain ⟨hcu,hfu,hzu⟩ := hu.rules;go_simp;exact ⟨rfl,rfl⟩)
 intro Φ2 hΦ2
 simp only [Act.put,List.setIfInBounds_toArray,List.set_cons_succ,List.set_cons_zero]
 refine grow_make _ _ (by rfl) (by rfl) (fun u hu => ?_) ?_
 ·refine grow_append0 (enc := encB) (ok := fun _ => True) _ _ _ (by rfl) 4 i0 _ 1 1 Tryz.underlying27 hi hI0 hI1 hI2 rfl (by omega) q0 A3 up.length c3 up (by rfl) (by rfl) (HU.out u ((((Ext.refl w).alloc _).alloc _).trans hu)) (fun _ => rfl) (by unfold maxLen;omega) (by omega) ?_
  intro A' c' w' hw' ho'
  exact ⟨⟨A',c',rfl⟩,fun A c e => by cases e;exact ho'.base (HLO.out u hu)⟩
 rintro v3 ⟨A8,c8,rfl⟩ Φ3 hΦ3
 simp only [Act.put,List.setIfInBounds_toArray,List.set_cons_succ,List.set_cons_zero]
 refine grow_constE (by rfl) (by rfl) ?_
 apply Exists.intro
 refine ⟨fun u hu => ?_, ?_⟩
 ·(obtain ⟨hcu,hfu,hzu⟩ := hu.rules;go_simp;exact ⟨rfl,rfl⟩)
 intro Φ4 hΦ4
 simp only [Act.put,List.setIfInBounds_toArray,List.set_cons_succ,List.set_cons_zero]
 refine grow_constE (by rfl) (by rfl) ?_
 apply Exists.intro
 refine ⟨fun u hu => ?_, ?_⟩
 ·(obtain ⟨hcu,hfu,hzu⟩ := hu.rules;go_simp;exact ⟨rfl,rfl⟩)
 intro Φ5 hΦ5
 simp only [Act.put,List.setIfInBounds_toArray,List.set_cons_succ,List.set_cons_zero]
 refine grow_make _ _ (by rfl) (by rfl) (fun u hu => ?_) ?_
 ·go_simp
  refine ⟨Ext.refl _,(HL.out u ((((Ext.refl w).alloc _).alloc _).trans hu)).mono ?_⟩
  rintro e w2 ⟨A9,c9,rfl,ho2,hb2⟩
  exact ⟨_,rfl,hb2,⟨A9,c9,rfl⟩,fun A c e => by cases e;exact owns_base ho2 (HLO.out u hu)⟩
 rintro v6 ⟨A9,c9,rfl⟩ Φ6 hΦ6
 simp only [Act.put,List.setIfInBounds_toArray,List.set_cons_succ,List.set_cons_zero]
 refine grow_constE (by rfl) (by rfl) ?_
 apply Exists.intro
 refine ⟨fun u hu => ?_, ?_⟩
 ·(obtain ⟨hcu,hfu,hzu⟩ := hu.rules;go_simp;exact ⟨rfl,rfl⟩)
 intro Φ7 hΦ7
 simp only [Act.put,List.setIfInBounds_toArray,List.set_cons_succ,List.set_cons_zero]
 refine grow_make _ _ (by rfl) (by rfl) (fun u hu => ?_) ?_
 ·go_simp
  exact ⟨(Ext.refl u).alloc _,⟨u.heap.size,HLO.out u hu,rfl⟩,fun b e => by cases e;exact owns_base (gbox u [.slice none 0 0,.slice none 0 0,.slice none 0 0,.slice none 0 0,.slice none 0 0] 73 5 rfl) (HLO.out u hu)⟩
 rintro v8 ⟨b,hb,rfl⟩ Φ8 hΦ8
 simp only [Act.put,List.setIfInBounds_toArray,List.set_cons_succ,List.set_cons_zero]
 refine grow_nil ?_
 intro wx hx hΦ
 have p8 := hΦ8 wx hΦ
 have p7 := hΦ7 wx p8.1
 have p6 := hΦ6 wx p7
 have p5 := hΦ5 wx p6.1
 have p4 := hΦ4 wx p5
 have p3 := hΦ3 wx p4
 have hBX := p8.2 b rfl
 have hbb := (hBX.lt b rfl).1
 have HF1 := Hh (box_fill5 hBX (.slice none 0 0) (.slice none 0 0) (.slice A8 up.length c8) (.slice none 0 0) (.slice A9 lic.length c9))
 have HF2 := Hh ((p3.2 A8 c8 rfl).far5 (by decide) hBX (.slice none 0 0) (.slice none 0 0) (.slice A8 up.length c8) (.slice none 0 0) (.slice A9 lic.length c9))
 have HL9 := Hh (show (((((wx.setCell ⟨b,0,none⟩ (.slice none 0 0)).setCell ⟨b,1,none⟩ (.slice none 0 0)).setCell ⟨b,2,none⟩ (.slice A8 up.length c8)).setCell ⟨b,3,none⟩ (.slice none 0 0)).setCell ⟨b,4,none⟩ (.slice A9 lic.length c9)).ownsRow (w.heap.size + 1 + 1) 133 4 (.slice A9 lic.length c9) lic.length (lic.flatMap Pt.enc) from row_far5 (p6.2 A9 c9 rfl) (by decide) hBX (.slice none 0 0) (.slice none 0 0) (.slice A8 up.length c8) (.slice none 0 0) (.slice A9 lic.length c9))
 have HF4 := Hh (hx.five (w0 := ((w.alloc (.cells #[.slice A1 ps.length c1,.slice A2 ns.length c2,.slice A3 up.length c3,.slice A4 pm c4,.slice A5 lic.length c5] 73)).alloc (.cells #[.slice none 0 0,.slice none 0 0,.slice none 0 0,.slice none 0 0,.slice none 0 0] 73))) (b := b) (by simp;omega) (.slice none 0 0) (.slice none 0 0) (.slice A8 up.length c8) (.slice none 0 0) (.slice A9 lic.length c9))
 obtain ⟨t0,t1,t2,t3,t4,tf0,tf1,tf2,tf3,tf4,tl⟩ := gcells5 hBX
 clear hΦ p8 p7 p6 p5 p4 p3 hΦ0 hΦ1 hΦ2 hΦ3 hΦ4 hΦ5 hΦ6 hΦ7 hΦ8 Φ0 Φ1 Φ2 Φ3 Φ4 Φ5 Φ6 Φ7 Φ8 hBX
 go_upto_region 2 with fail
 generalize hwy : (((((wx.setCell ⟨b,0,none⟩ (.slice none 0 0)).setCell ⟨b,1,none⟩ (.slice none 0 0)).setCell ⟨b,2,none⟩ (.slice A8 up.length c8)).setCell ⟨b,3,none⟩ (.slice none 0 0)).setCell ⟨b,4,none⟩ (.slice A9 lic.length c9)) = wy at *
 clear hwy t0 t1 t2 t3 t4 tf0 tf1 tf2 tf3 tf4 tl hx
 obtain ⟨y0,y1,y2,y3,y4⟩ := bc5 w (w.heap.size) (.slice A1 ps.length c1) (.slice A2 ns.length c2) (.slice A3 up.length c3) (.slice A4 pm c4) (.slice A5 lic.length c5) 73 ((((Ext.refl _).alloc _).trans HF4.out)) (by simp)
 obtain ⟨yf0,yf1,yf2,yf3,yf4⟩ := bf5 w (w.heap.size) (.slice A1 ps.length c1) (.slice A2 ns.length c2) (.slice A3 up.length c3) (.slice A4 pm c4) (.slice A5 lic.length c5) 73 ((((Ext.refl _).alloc _).trans HF4.out)) (by simp)
 have hyl := lt_of_cell y0
 have hyb : w.heap.size ≠ b := by omega
 obtain ⟨t0,t1,t2,t3,t4,tf0,tf1,tf2,tf3,tf4,tl⟩ := gcells5 HF1.out
 refine wp_region_grow_tab 12 [(0,gLit),(4,gRow0 (w.heap.size + 1 + 1) 3 1 ps.length (ps.flatMap encInt)),(5,gLit),(9,gRow0 (w.heap.size + 1 + 1) 85 4 ns.length (ns.flatMap Node.enc))] (by kernel_rfl) (by kernel_rfl) (by simp only [List.forall_mem_cons];exact ⟨gLit_ok,gRow0_ok _ _ _ _ _,gLit_ok,gRow0_ok _ _ _ _ _,fun p hp => by cases hp⟩) ?_
 simp only [List.take,List.drop]
 have HLO2 := Hh (fun (u : World) (hu : Ext wy u) => show (w.heap.size + 1 + 1) ≤ u.heap.size from HLO.out u (HF4.out.trans hu))
 have HXY := Hh (show Ext w wy from (((Ext.refl w).alloc _).alloc _).trans HF4.out)
 refine grow_make _ _ (by rfl) (by rfl) (fun u hu => ?_) ?_
 ·go_simp
  exact ⟨(Ext.refl u).alloc _,⟨_,rfl⟩,trivial⟩
 rintro v0 ⟨q1,rfl⟩ Φ0 hΦ0
 simp only [Act.put,List.setIfInBounds_toArray,List.set_cons_succ,List.set_cons_zero]
 refine grow_constE (by rfl) (by rfl) ?_
 apply Exists.intro
 refine ⟨fun u hu => ?_, ?_⟩
 ·(obtain ⟨hcu,hfu,hzu⟩ := hu.rules;go_simp;exact ⟨rfl,rfl⟩)
 intro Φ1 hΦ1
 simp only [Act.put,List.setIfInBounds_toArray,List.set_cons_succ,List.set_cons_zero]
 refine grow_constE (by rfl) (by rfl) ?_
 apply Exists.intro
 refine ⟨fun u hu => ?_, ?_⟩
 ·(obtain ⟨hcu,hfu,hzu⟩ := hu.rules;go_simp;exact ⟨rfl,rfl⟩)
 intro Φ2 hΦ2
 simp only [Act.put,List.setIfInBounds_toArray,List.set_cons_succ,List.set_cons_zero]
 refine grow_constE (by rfl) (by rfl) ?_
 apply Exists.intro
 refine ⟨fun u hu => ?_, ?_⟩
 ·(obtain ⟨hcu,hfu,hzu⟩ := hu.rules;go_simp;exact ⟨rfl,rfl⟩)
 intro Φ3 hΦ3
 simp only [Act.put,List.setIfInBounds_toArray,List.set_cons_succ,List.set_cons_zero]
 refine grow_make _ _ (by rfl) (by rfl) (fun u hu => ?_) ?_
 ·refine grow_append0 (enc := encInt) (ok := In64) _ _ _ (by rfl) 3 i2 _ 1 8 Tryz.underlying23 hi2 hK0 hK1 hK2 rfl (by omega) q1 A1 ps.length c1 ps (by rfl) (by rfl) (HP1.out u (HXY.out.trans hu)) (fun _ => rfl) (by unfold maxLen;omega) (by omega) ?_
  intro A' c' w' hw' ho'
  exact ⟨⟨A',c',rfl⟩,fun A c e => by cases e;exact ho'.base (HLO2.out u hu)⟩
 rintro v4 ⟨A6,c6,rfl⟩ Φ4 hΦ4
 simp only [Act.put,List.setIfInBounds_toArray,List.set_cons_succ,List.set_cons_zero]
 refine grow_make _ _ (by rfl) (by rfl) (fun u hu => ?_) ?_
 ·go_simp
  exact ⟨(Ext.refl u).alloc _,⟨_,rfl⟩,trivial⟩
 rintro v5 ⟨q2,rfl⟩ Φ5 hΦ5
 simp only [Act.put,List.setIfInBounds_toArray,List.set_cons_succ,List.set_cons_zero]
 refine grow_constE (by rfl) (by rfl) ?_
 apply Exists.intro
 refine ⟨fun u hu => ?_, ?_⟩
 ·(obtain ⟨hcu,hfu,hzu⟩ := hu.rules;go_simp;exact ⟨rfl,rfl⟩)
 intro Φ6 hΦ6
 simp only [Act.put,List.setIfInBounds_toArray,List.set_cons_succ,List.set_cons_zero]
 refine grow_constE (by rfl) (by rfl) ?_
 apply Exists.intro
 refine ⟨fun u hu => ?_, ?_⟩
 ·(obtain ⟨hcu,hfu,hzu⟩ := hu.rules;go_simp;exact ⟨rfl,rfl⟩)
 intro Φ7 hΦ7
 simp only [Act.put,List.setIfInBounds_toArray,List.set_cons_succ,List.set_cons_zero]
 refine grow_constE (by rfl) (by rfl) ?_
 apply Exists.intro
 refine ⟨fun u hu => ?_, ?_⟩
 ·(obtain ⟨hcu,hfu,hzu⟩ := hu.rules;go_simp;exact ⟨rfl,rfl⟩)
 intro Φ8 hΦ8
 simp only [Act.put,List.setIfInBounds_toArray,List.set_cons_succ,List.set_cons_zero]
 refine grow_make _ _ (by rfl) (by rfl) (fun u hu => ?_) ?_
 ·refine grow_append0 (enc := Node.enc) (ok := Node.ok) _ _ _ (by rfl) 85 i3 _ 4 32 Tryz.underlying24 hi3 hL0 hL1 hL2 rfl (by omega) q2 A2 ns.length c2 ns (by rfl) (by rfl) (HP2.out u (HXY.out.trans hu)) Node.size (by unfold maxLen;omega) (by omega) ?_
  intro A' c' w' hw' ho'
  exact ⟨⟨A',c',rfl⟩,fun A c e => by cases e;exact ho'.base (HLO2.out u hu)⟩
 rintro v9 ⟨A7,c7,rfl⟩ Φ9 hΦ9
 simp only [Act.put,List.setIfInBounds_toArray,List.set_cons_succ,List.set_cons_zero]
 refine grow_constE (by rfl) (by rfl) ?_
 apply Exists.intro
 refine ⟨fun u hu => ?_, ?_⟩
 ·(obtain ⟨hcu,hfu,hzu⟩ := hu.rules;go_simp;exact ⟨rfl,rfl⟩)
 intro Φ10 hΦ10
 simp only [Act.put,List.setIfInBounds_toArray,List.set_cons_succ,List.set_cons_zero]
 refine grow_constE (by rfl) (by rfl) ?_
 apply Exists.intro
 refine ⟨fun u hu => ?_, ?_⟩
 ·(obtain ⟨hcu,hfu,hzu⟩ := hu.rules;go_simp;exact ⟨rfl,rfl⟩)
 intro Φ11 hΦ11
 simp only [Act.put,List.setIfInBounds_toArray,List.set_cons_succ,List.set_cons_zero]
 refine grow_nil ?_
 intro wz hz hΦ
 have p11 := hΦ11 wz hΦ
 have p10 := hΦ10 wz p11
 have p9 := hΦ9 wz p10
 have p8 := hΦ8 wz p9.1
 have p7 := hΦ7 wz p8
 have p6 := hΦ6 wz p7
 have p5 := hΦ5 wz p6
 have p4 := hΦ4 wz p5.1
 have HBX := Hh (owns_ext HF1.out hz)
 have HLC := Hh (show wz.ownsRow (w.heap.size + 1 + 1) 133 4 (.slice A9 lic.length c9) lic.length (lic.flatMap Pt.enc) from owns_ext HL9.out hz)
 have HR0 := Hh (show RoomS wz (w.heap.size + 1 + 1) ps ns up ([],lic) A6 c6 A7 c7 A8 c8 none 0 A9 c9 from ⟨p4.2 A6 c6 rfl,p9.2 A7 c7 rfl,HF2.out.ext hz,PO.nil _ _,HLC.out,HK.out.1,HK.out.2.1,HK.out.2.2⟩)
 have HFA := Hh ((HR0.out.far HBX.out (p := 0) (u := .slice A6 ps.length c6)).far (HBX.out.stored 0 (.slice A6 ps.length c6)).1 (p := 1) (u := .slice A7 ns.length c7))
 have HFB := Hh ((HBX.out.stored 0 (.slice A6 ps.length c6)).1.stored 1 (.slice A7 ns.length c7)).1
 have HFC := Hh (show Ext ((w.alloc (.cells #[.slice A1 ps.length c1,.slice A2 ns.length c2,.slice A3 up.length c3,.slice A4 pm c4,.slice A5 lic.length c5] 73)).alloc (.cells #[.slice none 0 0,.slice none 0 0,.slice none 0 0,.slice none 0 0,.slice none 0 0] 73)) ((wz.setCell ⟨b,0,none⟩ (.slice A6 ps.length c6)).setCell ⟨b,1,none⟩ (.slice A7 ns.length c7)) from ((HF4.out.trans hz).setCell (by simp;omega) _).setCell (by simp;omega) _)
 clear t0 t1 t2 t3 t4 tf0 tf1 tf2 tf3 tf4 tl y0 y1 y2 y3 y4 yf0 yf1 yf2 yf3 yf4 hyl
 have HZ := Hh hz
 obtain ⟨y0,y1,y2,y3,y4⟩ := bc5 w (w.heap.size) (.slice A1 ps.length c1) (.slice A2 ns.length c2) (.slice A3 up.length c3) (.slice A4 pm c4) (.slice A5 lic.length c5) 73 (((((Ext.refl _).alloc _).trans HF4.out).trans HZ.out)) (by simp)
 obtain ⟨yf0,yf1,yf2,yf3,yf4⟩ := bf5 w (w.heap.size) (.slice A1 ps.length c1) (.slice A2 ns.length c2) (.slice A3 up.length c3) (.slice A4 pm c4) (.slice A5 lic.length c5) 73 (((((Ext.refl _).alloc _).trans HF4.out).trans HZ.out)) (by simp)
 have hyl := lt_of_cell y0
 obtain ⟨t0,t1,t2,t3,t4,tf0,tf1,tf2,tf3,tf4,tl⟩ := gcells5 HBX.out
 clear hΦ p11 p10 p9 p8 p7 p6 p5 p4 hΦ0 hΦ1 hΦ2 hΦ3 hΦ4 hΦ5 hΦ6 hΦ7 hΦ8 hΦ9 hΦ10 hΦ11 Φ0 Φ1 Φ2 Φ3 Φ4 Φ5 Φ6 Φ7 Φ8 Φ9 Φ10 Φ11 hz
 go_wp2
 go_loopw [29] (fun iv wr => ∃ (k : Nat) (A10 : Option Addr) (c10 : Nat),k ≤ pm ∧ iv = .int .i64 k ∧ Hid (RoomS wr (w.heap.size + 1 + 1) ps ns up (pl.take k,lic) A6 c6 A7 c7 A8 c8 A10 c10 A9 c9) ∧ Hid (wr.ownsRow (w.heap.size + 1 + 1) 73 5 (.slice (some ⟨b,0,none⟩) 1 1) 1 [.slice A6 ps.length c6,.slice A7 ns.length c7,.slice A8 up.length c8,.slice A10 k c10,.slice A9 lic.length c9]) ∧ Ext ((w.alloc (.cells #[.slice A1 ps.length c1,.slice A2 ns.length c2,.slice A3 up.length c3,.slice A4 pm c4,.slice A5 lic.length c5] 73)).alloc (.cells #[.slice none 0 0,.slice none 0 0,.slice none 0 0,.slice none 0 0,.slice none 0 0] 73)) wr) (fun iv _ => pm - (intOf iv).toNat)
 case atStart => exact ⟨0,none,0,Nat.zero_le _,rfl,HFA,HFB,HFC.out⟩
 case round =>
  clear t0 t1 t2 t3 t4 tf0 tf1 tf2 tf3 tf4 tl HBX HFA HFB HFC HF1 HF2 HF4 HL9 HLC HR0 y0 y1 y2 y3 y4 yf0 yf1 yf2 yf3 yf4 hyl
  obtain ⟨k,A10,c10,hk,rfl,HRO,HBX,hb⟩ := hrel
  by_cases hlt : k < pm
  ·obtain ⟨bq,oq,x,cs,rfl,hbw,hx2,_,hc,Aq,cq,rfl,hs⟩ := (H4.out wr ((((Ext.refl w).alloc _).alloc _).trans hb)).at_ hlt
   have g0 := hc 0 _ rfl
   simp only [Nat.mul_one,Nat.add_zero] at g0
   have HX := Hh hx2
   have HXL := Hh (HPI.out x (List.mem_of_getElem? hx2))
   have hxl := HXL.out
   have HXK := Hh hs.all
   have HCP := Hh (fun (u : World) (e : Ext wr u) => l04Prof_c x Aq x.length cq u (hs.ext (Flat.mono _ _) e) (by omega))
   obtain ⟨hpl1,L,hL,hLi⟩ := HRO.out.pro
   have HTK := Hh (show (pl.take k).length = k by rw [List.length_take,HPM.out];omega)
   have HLL := Hh (show wr.ownsRow (w.heap.size + 1 + 1) 71 1 (.slice A10 k c10) k L by rw [← HTK.out];exact hL)
   have HLI := Hh hLi
   have t3 := (gcells5 HBX.out).2.2.2.1
   have tl := (HBX.out.lt b rfl).2
   have hbb2 := (HBX.out.lt b rfl).1
   clear hx2 hc hs hpl1 hL hLi
   go_wp2
   go_region_law (first | (go_simp;go_at_call 107;(with_reducible refine (HCP.out _ (by repeat (first | exact Ext.refl _ | apply Ext.alloc | apply Ext.drew))).mono ?_);rintro e w4 ⟨A11,c11,rfl,ho4,hb4⟩;have HE4 := Hh (show Ext wr w4 from Ext.trans (by repeat (first | exact Ext.refl _ | apply Ext.alloc | apply Ext.drew)) hb4);have HO4 := Hh (owns_base ho4 (show (w.heap.size + 1 + 1) ≤ _ from (by simp;omega)));have x4 := HE4.out.cell t3;have hl4 := Nat.lt_of_lt_of_le tl HE4.out.le;clear ho4 hb4) | (refine step_append_r (enc := encS) (ok := fun _ => True) (by rfl) _ _ _ (by rfl) (w.heap.size + 1 + 1) 71 i1 _ 1 24 Tryz.underlying68 hi1 hJ0 hJ1 hJ2 rfl (by omega) (.slice A10 k c10) k L _ 1 1 [(A11,x.length,c11)] (k + 1) rfl (by rfl) (by rfl) (owns_ext HLL.out (HE4.out.alloc _)) (by exact sl_one_r (enc := encS) w4 (A11,x.length,c11) 71 rfl trivial) (fun _ => rfl) encS_one (by unfold maxLen;omega) (by omega) (by simp;omega) ?_;intro A12 c12 w5 hr5;have HB5 := Hh (hr5.other (owns_ext HBX.out (HE4.out.alloc (.cells (encS (A11,x.length,c11)).toArray 71))) (g_apart HBX.out HLL.out (by decide)));have x5 := (gcells5 HB5.out).2.2.2.1;have xf5 := HB5.out.frozenAt 3;have hl5 := (HB5.out.lt b rfl).2))
   all_goals
    have HR5 := Hh hr5
    have HRN := Hh ((HRO.out.ext (HE4.out.alloc (.cells (encS (A11,x.length,c11)).toArray 71))).push HTK.out (owns_ext HLL.out (HE4.out.alloc _)) (fun j p hj => by obtain ⟨Ap,cp,e1,e2,e3⟩ := HLI.out j p hj;exact ⟨Ap,cp,e1,owns_ext e2 (HE4.out.alloc _),e3⟩) HR5.out (by simp [encS]) (owns_ext HO4.out ((Ext.refl w4).alloc _)) HXK.out)
    have HXT := Hh (ext_turned (hb.trans (HE4.out.alloc (.cells (encS (A11,x.length,c11)).toArray 71))) (HR5.out.turned (lo := (w.heap.size + 1 + 1)) (fun q hq => (HLL.out.lt q hq).1)) (by simp))
    clear hr5 x4 t3 tl
    go_wp2
    go_roundw
    case rel => exact ⟨k + 1,A12,c12,by omega,by go_num,Hh (by rw [take_succ HX.out];exact HRN.out.far HB5.out),Hh (HB5.out.stored 3 _).1,HXT.out.setCell (by simp;omega) _⟩
    case measure => simp [intOf];omega
  ·obtain rfl : k = pm := by omega
   have HPT := Hh (show pl.take k = pl by rw [List.take_of_length_le (by have := HPM.out;omega)])
   rw [HPT.out] at HRO
   obtain ⟨t0,t1,t2,t3,t4,tf0,tf1,tf2,tf3,tf4,tl⟩ := gcells5 HBX.out
   obtain ⟨q0,q1,q2,q3,q4⟩ := bc5 (w.alloc (.cells #[.slice A1 ps.length c1,.slice A2 ns.length c2,.slice A3 up.length c3,.slice A4 k c4,.slice A5 lic.length c5] 73)) (w.heap.size + 1) (.slice none 0 0) (.slice none 0 0) (.slice none 0 0) (.slice none 0 0) (.slice none 0 0) 73 ((hb)) (by simp)
   obtain ⟨qf0,qf1,qf2,qf3,qf4⟩ := bf5 (w.alloc (.cells #[.slice A1 ps.length c1,.slice A2 ns.length c2,.slice A3 up.length c3,.slice A4 k c4,.slice A5 lic.length c5] 73)) (w.heap.size + 1) (.slice none 0 0) (.slice none 0 0) (.slice none 0 0) (.slice none 0 0) (.slice none 0 0) 73 ((hb)) (by simp)
   have hql := lt_of_cell q0
   have hqb : w.heap.size + 1 ≠ b := by omega
   have HRB := Hh (((((HRO.out.low (b := w.heap.size + 1) (p := 0) (u := .slice A6 ps.length c6) (by omega)).low (b := w.heap.size + 1) (p := 1) (u := .slice A7 ns.length c7) (by omega)).low (b := w.heap.size + 1) (p := 2) (u := .slice A8 up.length c8) (by omega)).low (b := w.heap.size + 1) (p := 3) (u := .slice A10 k c10) (by omega)).low (b := w.heap.size + 1) (p := 4) (u := .slice A9 lic.length c9) (by omega))
   have hxx : Ext w wr := (((Ext.refl w).alloc _).alloc _).trans hb
   clear HRO hb
   go_wp2
   exact bodyPost_ret (v := .agg #[.slice A6 ps.length c6,.slice A7 ns.length c7,.slice A8 up.length c8,.slice A10 k c10,.slice A9 lic.length c9]) (by simp [results,Tryz.results90,go_sem, *]) rfl ⟨A6,c6,A7,c7,A8,c8,A10,c10,A9,c9,by rw [HPM.out],HRB.out.base (by omega),Ext.go⟩
def RetFind (w : World) (xs : List Job) : Ending → World → Prop := fun e w' => ∃ (j : Job) (b : Bool),e = .returned (.tuple #[.agg #[.int .i64 j.Id,.int .i64 j.Prio,.int .i64 j.Nodes,.int .i64 j.Need.A,.int .i64 j.Need.B,.int .i64 j.Need.C,.int .i64 j.Lic.A,.int .i64 j.Lic.B,.int .i64 j.Lic.C,.int .i64 j.Wall,.int .i64 j.Level],.bool b]) ∧ j.ok ∧ (b = true → j ∈ xs) ∧ Ext w w'
theorem l05Find_c (xs : List Job) (id : Int) (A : Option Addr) (n c : Nat) (w : World) (h : SlAt RJob 11 w A n xs) (hn : n ≤ 1048576) : Calls Tryz.prog 94 #[.slice A n c,.int .i64 id] w (RetFind w xs) := by
 have H := Hh (fun (u : World) (e : Ext w u) => h.ext (Flat.mono Job.enc Job.ok) e)
 clear h
 go_enter Tryz.func94,Tryz.ntmps94
 obtain ⟨z0,z1,z2,z3,z4,z5,z6,z7,z8,z9,z10⟩ := bc11 w (w.heap.size) (.int .i64 0) (.int .i64 0) (.int .i64 0) (.int .i64 0) (.int .i64 0) (.int .i64 0) (.int .i64 0) (.int .i64 0) (.int .i64 0) (.int .i64 0) (.int .i64 0) 52 ((Ext.refl _)) (by simp)
 obtain ⟨zf0,zf1,zf2,zf3,zf4,zf5,zf6,zf7,zf8,zf9,zf10⟩ := bf11 w (w.heap.size) (.int .i64 0) (.int .i64 0) (.int .i64 0) (.int .i64 0) (.int .i64 0) (.int .i64 0) (.int .i64 0) (.int .i64 0) (.int .i64 0) (.int .i64 0) (.int .i64 0) 52 ((Ext.refl _)) (by simp)
 have HZ := Hh (fun (u : World) (e : Ext (w.alloc (.cells #[.int .i64 0,.int .i64 0,.int .i64 0,.int .i64 0,.int .i64 0,.int .i64 0,.int .i64 0,.int .i64 0,.int .i64 0,.int .i64 0,.int .i64 0] 52)) u) => show (u.cell? ⟨w.heap.size,0,none⟩ = some (.int .i64 0) ∧ u.cell? ⟨w.heap.size,1,none⟩ = some (.int .i64 0) ∧ u.cell? ⟨w.heap.size,2,none⟩ = some (.int .i64 0) ∧ u.cell? ⟨w.heap.size,3,none⟩ = some (.int .i64 0) ∧ u.cell? ⟨w.heap.size,4,none⟩ = some (.int .i64 0) ∧ u.cell? ⟨w.heap.size,5,none⟩ = some (.int .i64 0) ∧ u.cell? ⟨w.heap.size,6,none⟩ = some (.int .i64 0) ∧ u.cell? ⟨w.heap.size,7,none⟩ = some (.int .i64 0) ∧ u.cell? ⟨w.heap.size,8,none⟩ = some (.int .i64 0) ∧ u.cell? ⟨w.heap.size,9,none⟩ = some (.int .i64 0) ∧ u.cell? ⟨w.heap.size,10,none⟩ = some (.int .i64 0)) ∧ u.frozen? ⟨w.heap.size,0,none⟩ = false ∧ u.frozen? ⟨w.heap.size,1,none⟩ = false ∧ u.frozen? ⟨w.heap.size,2,none⟩ = false ∧ u.frozen? ⟨w.heap.size,3,none⟩ = false ∧ u.frozen? ⟨w.heap.size,4,none⟩ = false ∧ u.frozen? ⟨w.heap.size,5,none⟩ = false ∧ u.frozen? ⟨w.heap.size,6,none⟩ = false ∧ u.frozen? ⟨w.heap.size,7,none⟩ = false ∧ u.frozen? ⟨w.heap.size,8,none⟩ = false ∧ u.frozen? ⟨w.heap.size,9,none⟩ = false ∧ u.frozen? ⟨w.heap.size,10,none⟩ = false from ⟨⟨e.cell z0,e.cell z1,e.cell z2,e.cell z3,e.cell z4,e.cell z5,e.cell z6,e.cell z7,e.cell z8,e.cell z9,e.cell z10⟩,(e.frozenEq (a := ⟨w.heap.size,0,none⟩) (lt_of_cell z0)).trans zf0,(e.frozenEq (a := ⟨w.heap.size,1,none⟩) (lt_of_cell z1)).trans zf1,(e.frozenEq (a := ⟨w.heap.size,2,none⟩) (lt_of_cell z2)).trans zf2,(e.frozenEq (a := ⟨w.heap.size,3,none⟩) (lt_of_cell z3)).trans zf3,(e.frozenEq (a := ⟨w.heap.size,4,none⟩) (lt_of_cell z4)).trans zf4,(e.frozenEq (a := ⟨w.heap.size,5,none⟩) (lt_of_cell z5)).trans zf5,(e.frozenEq (a := ⟨w.heap.size,6,none⟩) (lt_of_cell z6)).trans zf6,(e.frozenEq (a := ⟨w.heap.size,7,none⟩) (lt_of_cell z7)).trans zf7,(e.frozenEq (a := ⟨w.heap.size,8,none⟩) (lt_of_cell z8)).trans zf8,(e.frozenEq (a := ⟨w.heap.size,9,none⟩) (lt_of_cell z9)).trans zf9,(e.frozenEq (a := ⟨w.heap.size,10,none⟩) (lt_of_cell z10)).trans zf10⟩)
 clear z0 zf0 z1 zf1 z2 zf2 z3 zf3 z4 zf4 z5 zf5 z6 zf6 z7 zf7 z8 zf8 z9 zf9 z10 zf10
 go_wp2
 have EW : Ext w (w.alloc (.cells #[.int .i64 0,.int .i64 0,.int .i64 0,.int .i64 0,.int .i64 0,.int .i64 0,.int .i64 0,.int .i64 0,.int .i64 0,.int .i64 0,.int .i64 0] 52)) := (Ext.refl w).alloc _
 generalize (w.alloc (.cells #[.int .i64 0,.int .i64 0,.int .i64 0,.int .i64 0,.int .i64 0,.int .i64 0,.int .i64 0,.int .i64 0,.int .i64 0,.int .i64 0,.int .i64 0] 52)) = W at *
 go_loopw [10] (fun iv wr => ∃ k : Nat,k ≤ n ∧ iv = .int .i64 k ∧ Ext W wr) (fun iv _ => n - (intOf iv).toNat)
 case atStart => exact ⟨0,Nat.zero_le _,rfl,Ext.refl _⟩
 case round =>
  obtain ⟨k,hk,rfl,hb⟩ := hrel
  obtain ⟨⟨z0,z1,z2,z3,z4,z5,z6,z7,z8,z9,z10⟩,zf0,zf1,zf2,zf3,zf4,zf5,zf6,zf7,zf8,zf9,zf10⟩ := HZ.out wr hb
  have hzl := lt_of_cell z0
  by_cases hlt : k < n
  ·obtain ⟨bo,oo,x,cs,rfl,hbw,hx,_,hc,rfl,hok⟩ := (H.out wr (EW.trans hb)).at_ hlt
   have g0 := hc 0 _ rfl
   have g1 := hc 1 _ rfl
   have g2 := hc 2 _ rfl
   have g3 := hc 3 _ rfl
   have g4 := hc 4 _ rfl
   have g5 := hc 5 _ rfl
   have g6 := hc 6 _ rfl
   have g7 := hc 7 _ rfl
   have g8 := hc 8 _ rfl
   have g9 := hc 9 _ rfl
   have g10 := hc 10 _ rfl
   simp only [Nat.add_zero] at g0
   have HX := Hh (List.mem_of_getElem? hx)
   have HK := Hh hok
   have HBW := Hh (EW.trans hb)
   clear hc hx hok
   by_cases he : x.Id = id
   ·have hd : decide (x.Id = id) = true := decide_eq_true he
    have hd2 : (x.Id == id) = true := by rw [beq_iff_eq];exact he
    subst he
    go_wp2
    exact bodyPost_ret (v := .tuple #[.agg #[.int .i64 x.Id,.int .i64 x.Prio,.int .i64 x.Nodes,.int .i64 x.Need.A,.int .i64 x.Need.B,.int .i64 x.Need.C,.int .i64 x.Lic.A,.int .i64 x.Lic.B,.int .i64 x.Lic.C,.int .i64 x.Wall,.int .i64 x.Level],.bool true]) (by simp [results,Tryz.results94,go_sem, *]) rfl ⟨x,true,rfl,HK.out,(fun _ => HX.out),by repeat (first | with_reducible exact HBW.out | with_reducible refine Ext.alloc ?_ _ | (with_reducible refine Ext.setCell ?_ (Nat.le_refl _) _))⟩
   ·have hd : decide (x.Id = id) = false := decide_eq_false he
    have hd2 : (x.Id == id) = false := by rw [beq_eq_false_iff_ne];exact he
    clear he
    go_wp2
    go_roundw
    case rel => exact ⟨k + 1,by omega,by go_num,hb.alloc _⟩
    case measure => simp [intOf];omega
  ·have HBW := Hh (EW.trans hb)
   have H0 := Hh (show (⟨0,0,0,⟨0,0,0⟩,⟨0,0,0⟩,0,0⟩ : Job).ok from by unfold Job.ok In64;simp)
   go_wp2
   exact bodyPost_ret (v := .tuple #[.agg #[.int .i64 0,.int .i64 0,.int .i64 0,.int .i64 0,.int .i64 0,.int .i64 0,.int .i64 0,.int .i64 0,.int .i64 0,.int .i64 0,.int .i64 0],.bool false]) (by simp [results,Tryz.results94,go_sem, *]) rfl ⟨⟨0,0,0,⟨0,0,0⟩,⟨0,0,0⟩,0,0⟩,false,rfl,H0.out,(fun h => by cases h),by repeat (first | with_reducible exact HBW.out | (with_reducible refine Ext.setCell ?_ (Nat.le_refl _) _))⟩
def RetJobO (w : World) (m : Nat) (xs : List Job) : Ending → World → Prop := fun e w' => ∃ (A : Option Addr) (n c : Nat) (l : List Job),e = .returned (.slice A n c) ∧ n = l.length ∧ w'.ownsRow w.heap.size 52 11 (.slice A n c) n (l.flatMap Job.enc) ∧ (∀ x ∈ l,x ∈ xs) ∧ n ≤ m ∧ Ext w w'
theorem Job.one (x : Job) : ∀ u ∈ x.enc,u.oneCell' = true := by
 intro u hu
 simp [Job.enc] at hu
 rcases hu with rfl | rfl | rfl | rfl | rfl | rfl | rfl | rfl | rfl | rfl | rfl <;> rfl
def beforeB (a b : Job) : Bool := decide (b.Prio < a.Prio) || (decide (a.Prio = b.Prio) && decide (a.Id < b.Id))
theorem l05Before_c (a b : Job) (w : World) : Calls Tryz.prog 139 #[.agg #[.int .i64 a.Id,.int .i64 a.Prio,.int .i64 a.Nodes,.int .i64 a.Need.A,.int .i64 a.Need.B,.int .i64 a.Need.C,.int .i64 a.Lic.A,.int .i64 a.Lic.B,.int .i64 a.Lic.C,.int .i64 a.Wall,.int .i64 a.Level],.agg #[.int .i64 b.Id,.int .i64 b.Prio,.int .i64 b.Nodes,.int .i64 b.Need.A,.int .i64 b.Need.B,.int .i64 b.Need.C,.int .i64 b.Lic.A,.int .i64 b.Lic.B,.int .i64 b.Lic.C,.int .i64 b.Wall,.int .i64 b.Level]] w (Ret w (.bool (beforeB a b))) := by
 have HF := Hh (show beforeB a b = (decide (b.Prio < a.Prio) || (decide (a.Prio = b.Prio) && decide (a.Id < b.Id))) from rfl)
 generalize beforeB a b = r at *
 go_enter Tryz.func139,Tryz.ntmps139
 go_wp2
 all_goals
  refine ret_bool rfl rfl rfl ?_ (((Ext.refl w).alloc _).alloc _)
  rw [HF.out]
  first | rfl | (rw [Bool.eq_iff_iff];simp;omega) | (simp;omega) | (simp [*])
theorem l06Out_c (xs : List Job) (id : Int) (A : Option Addr) (n c : Nat) (w : World) (h : SlAt RJob 11 w A n xs) (hn : n ≤ 1048576) : Calls Tryz.prog 97 #[.slice A n c,.int .i64 id] w (RetJobO w n xs) := by
 obtain ⟨i1,hi1,hJ0,hJ1,hJ2⟩ := info_parts CJob.info
 have H := Hh (fun (u : World) (e : Ext w u) => h.ext (Flat.mono Job.enc Job.ok) e)
 have HO0 := Hh (owns_empty w 52 11)
 clear h
 go_enter Tryz.func97,Tryz.ntmps97
 go_wp2
 go_loopw [5,11] (fun l iv wr => ∃ (k a : Nat) (A9 : Option Addr) (c9 : Nat) (acc : List Job),k ≤ n ∧ iv = .int .i64 k ∧ l = .slice A9 a c9 ∧ a ≤ k ∧ Hid (a = acc.length) ∧ Hid (wr.ownsRow w.heap.size 52 11 (.slice A9 a c9) a (acc.flatMap Job.enc)) ∧ Hid (∀ x ∈ acc,x ∈ xs) ∧ Ext w wr) (fun _ iv _ => n - (intOf iv).toNat)
 case atStart => exact ⟨0,0,_,0,[],Nat.zero_le _,rfl,rfl,Nat.le_refl _,Hh rfl,HO0,Hh (fun x hx => by cases hx),(Ext.refl _).alloc _⟩
 case round =>
  clear HO0
  obtain ⟨k,a,A9,c9,acc,hk,rfl,rfl,hak,HL,HOW,HM,hb⟩ := hrel
  by_cases hlt : k < n
  ·obtain ⟨bo,oo,x,cs,rfl,hbw,hx,_,hc,rfl,hok⟩ := (H.out wr hb).at_ hlt
   have g0 := hc 0 _ rfl
   have g1 := hc 1 _ rfl
   have g2 := hc 2 _ rfl
   have g3 := hc 3 _ rfl
   have g4 := hc 4 _ rfl
   have g5 := hc 5 _ rfl
   have g6 := hc 6 _ rfl
   have g7 := hc 7 _ rfl
   have g8 := hc 8 _ rfl
   have g9 := hc 9 _ rfl
   have g10 := hc 10 _ rfl
   simp only [Nat.add_zero] at g0
   have HX := Hh (List.mem_of_getElem? hx)
   have HK := Hh hok
   have hle := hb.le
   clear hc hx hok
   by_cases he : x.Id = id
   ·have hd : decide (x.Id = id) = true := decide_eq_true he
    have hd2 : (x.Id == id) = true := by rw [beq_iff_eq];exact he
    have hd3 : (x.Id != id) = false := by simp [he]
    clear he
    go_wp2
    go_roundw
    case rel => exact ⟨k + 1,a,A9,c9,acc,by omega,by go_num,rfl,by omega,HL,Hh (owns_ext HOW.out ((Ext.refl _).alloc _)),HM,hb.alloc _⟩
    case measure => simp [intOf];omega
   ·have hd : decide (x.Id = id) = false := decide_eq_false he
    have hd2 : (x.Id == id) = false := by rw [beq_eq_false_iff_ne];exact he
    have hd3 : (x.Id != id) = true := by simp [he]
    clear he
    go_wp2_with (at_builtin;go_must (refine wpList_append_r (enc := Job.enc) (ok := Job.ok) (.tmp 19) (.tmp 21) _ w.heap.size 52 i1 _ 11 88 (.slice A9 a c9) a _ (some ⟨wr.heap.size + 1,0,none⟩) 1 1 [x] rfl rfl Tryz.underlying30 hi1 hJ0 hJ1 hJ2 rfl (by omega) rfl (owns_ext HOW.out ((Ext.refl _).alloc _ |>.alloc _)) rfl (by exact sl_one_at (enc := Job.enc) (wr.alloc (.cells #[.int .i64 x.Id,.int .i64 x.Prio,.int .i64 x.Nodes,.int .i64 x.Need.A,.int .i64 x.Need.B,.int .i64 x.Need.C,.int .i64 x.Lic.A,.int .i64 x.Lic.B,.int .i64 x.Lic.C,.int .i64 x.Wall,.int .i64 x.Level] 52)) (wr.heap.size + 1) (by simp) x 52 rfl HK.out) Job.size Job.one (by unfold maxLen;omega) (by omega) (by simp;omega) ?_);intro A5 c5 w5 hr5;(have HR5 := Hh hr5);clear hr5)
    have HX5 := Hh (ext_turned (hb.alloc (.cells #[.int .i64 x.Id,.int .i64 x.Prio,.int .i64 x.Nodes,.int .i64 x.Need.A,.int .i64 x.Need.B,.int .i64 x.Need.C,.int .i64 x.Lic.A,.int .i64 x.Lic.B,.int .i64 x.Lic.C,.int .i64 x.Wall,.int .i64 x.Level] 52) |>.alloc (.cells #[.int .i64 x.Id,.int .i64 x.Prio,.int .i64 x.Nodes,.int .i64 x.Need.A,.int .i64 x.Need.B,.int .i64 x.Need.C,.int .i64 x.Lic.A,.int .i64 x.Lic.B,.int .i64 x.Lic.C,.int .i64 x.Wall,.int .i64 x.Level] 52)) (HR5.out.turned (lo := w.heap.size) (fun q hq => (HOW.out.lt q hq).1)) (Nat.le_refl _))
    go_wp2
    go_roundw
    case rel => exact ⟨k + 1,a + 1,A5,c5,acc ++ [x],by omega,by go_num,rfl,by omega,Hh (by rw [List.length_append,← HL.out];rfl),Hh (by rw [List.flatMap_append];exact HR5.out.row),Hh (fun z hz => by rcases List.mem_append.1 hz with hz | hz;exact HM.out z hz;(rw [List.mem_singleton.1 hz];exact HX.out)),HX5.out⟩
    case measure => simp [intOf];omega
  ·obtain rfl : k = n := by omega
   go_wp2
   exact bodyPost_ret (by simp [results,Tryz.results97,go_sem, *]) rfl ⟨A9,a,c9,acc,rfl,HL.out,HOW.out,HM.out,hak,hb⟩
end Go.Proofs.YtfanjhcdjbnnnaaGreat
