/- Contract: a room copied, the other way. Written by genscopy.py. -/
import Derived.Test.YtfcffcgdbmkfgaaGreatMMoved
import Derived.Test.YtfcffcgdbmkfgaaGreatSRoom1
import Derived.Test.YtfcffcgdbmkfgaaGreatRoomOf
namespace Go.Proofs.YtfcffcgdbmkfgaaGreat
open Go.RowKit
set_option linter.unusedVariables false
def RetRoomS (w : World) (ps : List Int) (ns : List Node) (up : List Bool) (r : List (List Pt) × List Pt) : Ending → World → Prop := fun e w' => ∃ A1 c1 A2 c2 A3 c3 A4 c4 A5 c5, e = .returned (.agg #[.slice A1 ps.length c1, .slice A2 ns.length c2, .slice A3 up.length c3, .slice A4 r.1.length c4, .slice A5 r.2.length c5]) ∧ RoomS w' w.heap.size ps ns up r A1 c1 A2 c2 A3 c3 A4 c4 A5 c5 ∧ Ext w w'
theorem own0.far5 {w : World} {lo lo' g : Nat} {e : TypeId} {sz : Nat} {A : Option Addr} {c n : Nat} {L : List Value} {u0 u1 u2 u3 u4 : Value} (h : own0 w lo e sz A c n L) (hne : e ≠ 98) (hbox : w.ownsRow lo' 98 5 (.slice (some ⟨g, 0, none⟩) 1 1) 1 [u0, u1, u2, u3, u4]) (a0 a1 a2 a3 a4 : Value) : own0 (((((w.setCell ⟨g, 0, none⟩ a0).setCell ⟨g, 1, none⟩ a1).setCell ⟨g, 2, none⟩ a2).setCell ⟨g, 3, none⟩ a3).setCell ⟨g, 4, none⟩ a4) lo e sz A c n L := by
  have b1 := (hbox.stored 0 a0).1
  have b2 := (b1.stored 1 a1).1
  have b3 := (b2.stored 2 a2).1
  have b4 := (b3.stored 3 a3).1
  exact ((((h.far hbox hne).far b1 hne).far b2 hne).far b3 hne).far b4 hne
theorem row_far5 {w : World} {lo lo' g : Nat} {e : TypeId} {sz n : Nat} {v : Value} {L : List Value} {u0 u1 u2 u3 u4 : Value} (h : w.ownsRow lo e sz v n L) (hne : e ≠ 98) (hbox : w.ownsRow lo' 98 5 (.slice (some ⟨g, 0, none⟩) 1 1) 1 [u0, u1, u2, u3, u4]) (a0 a1 a2 a3 a4 : Value) : (((((w.setCell ⟨g, 0, none⟩ a0).setCell ⟨g, 1, none⟩ a1).setCell ⟨g, 2, none⟩ a2).setCell ⟨g, 3, none⟩ a3).setCell ⟨g, 4, none⟩ a4).ownsRow lo e sz v n L := by
  have b1 := (hbox.stored 0 a0).1
  have b2 := (b1.stored 1 a1).1
  have b3 := (b2.stored 2 a2).1
  have b4 := (b3.stored 3 a3).1
  exact g_far (g_far (g_far (g_far (g_far h (fun q => g_apart h hbox hne _ q rfl)) (fun q => g_apart (g_far h (fun q => g_apart h hbox hne _ q rfl)) b1 hne _ q rfl)) (fun q => g_apart (g_far (g_far h (fun q => g_apart h hbox hne _ q rfl)) (fun q => g_apart (g_far h (fun q => g_apart h hbox hne _ q rfl)) b1 hne _ q rfl)) b2 hne _ q rfl)) (fun q => by have := h.lt _ q; exact g_apart (g_far (g_far (g_far h (fun q => g_apart h hbox hne _ q rfl)) (fun q => g_apart (g_far h (fun q => g_apart h hbox hne _ q rfl)) b1 hne _ q rfl)) (fun q => g_apart (g_far (g_far h (fun q => g_apart h hbox hne _ q rfl)) (fun q => g_apart (g_far h (fun q => g_apart h hbox hne _ q rfl)) b1 hne _ q rfl)) b2 hne _ q rfl)) b3 hne _ q rfl)) (fun q => g_apart h hbox hne _ q rfl)
theorem box_fill5 {w : World} {lo' g : Nat} {u0 u1 u2 u3 u4 : Value} (hbox : w.ownsRow lo' 98 5 (.slice (some ⟨g, 0, none⟩) 1 1) 1 [u0, u1, u2, u3, u4]) (a0 a1 a2 a3 a4 : Value) : (((((w.setCell ⟨g, 0, none⟩ a0).setCell ⟨g, 1, none⟩ a1).setCell ⟨g, 2, none⟩ a2).setCell ⟨g, 3, none⟩ a3).setCell ⟨g, 4, none⟩ a4).ownsRow lo' 98 5 (.slice (some ⟨g, 0, none⟩) 1 1) 1 [a0, a1, a2, a3, a4] :=
  (((((hbox.stored 0 a0).1.stored 1 a1).1.stored 2 a2).1.stored 3 a3).1.stored 4 a4).1
set_option maxHeartbeats 16000000 in
set_option maxRecDepth 10000 in
theorem l04Copy_c (ps : List Int) (ns : List Node) (up : List Bool) (pl : List (List Pt)) (lic : List Pt) (v : Value) (w : World) (h : RoomAt w ps ns up (pl, lic) v) (hps : ps.length ≤ 24) (hns : ns.length ≤ 24) (hup : up.length ≤ 24) (hpl : pl.length ≤ 24) (hpi : ∀ p ∈ pl, p.length ≤ 200) (hli : lic.length ≤ 200) : Calls Tryz.prog 102 #[v] w (RetRoomS w ps ns up (pl, lic)) := by
  obtain ⟨A1, c1, A2, c2, A3, c3, A4, c4, A5, c5, rfl, h1, h2, h3, h4, h5⟩ := h
  simp only [] at h4 h5 ⊢
  obtain ⟨i0, hi, hI0, hI1, hI2⟩ := info_parts CBool.info
  obtain ⟨i1, hi1, hJ0, hJ1, hJ2⟩ := info_parts CProf.info
  obtain ⟨i2, hi2, hK0, hK1, hK2⟩ := info_parts CInt.info
  obtain ⟨i3, hi3, hL0, hL1, hL2⟩ := info_parts CNode.info
  have HP1 := Lib.hid (fun (u : World) (e : Ext w u) => h1.ext (Flat.mono encInt In64) e)
  have HP2 := Lib.hid (fun (u : World) (e : Ext w u) => h2.ext (Flat.mono Node.enc Node.ok) e)
  have HU := Lib.hid (fun (u : World) (e : Ext w u) => h3.ext (Flat.mono encB (fun _ => True)) e)
  have HL := Lib.hid (fun (u : World) (e : Ext w u) => l04Prof_c lic A5 lic.length c5 u (h5.ext (Flat.mono _ _) e) (by omega))
  have H4 := Lib.hid (fun (u : World) (e : Ext w u) => h4.ext RPf.mono e)
  have HK := Lib.hid (show (∀ x ∈ ps, In64 x) ∧ (∀ x ∈ ns, x.ok) ∧ ∀ x ∈ lic, x.ok from ⟨h1.all, h2.all, h5.all⟩)
  have HPI := Lib.hid hpi
  clear h1 h2 h3 h4 h5 hpi
  generalize hpm : pl.length = pm at *
  have HPM := Lib.hid hpm
  clear hpm
  go_enter Tryz.func102, Tryz.ntmps102
  go_upto_region 1 with fail
  refine wp_region_grow_tab 9 [(0, gLit), (3, gRow0 (w.heap.size + 1 + 1) 4 1 up.length (up.flatMap encB)), (6, gProf (w.heap.size + 1 + 1) lic), (8, gBox (w.heap.size + 1 + 1) 98 5 [.slice none 0 0, .slice none 0 0, .slice none 0 0, .slice none 0 0, .slice none 0 0])] (by kernel_rfl) (by kernel_rfl) (by simp only [List.forall_mem_cons]; exact ⟨gLit_ok, gRow0_ok _ _ _ _ _, gProf_ok _ _, gBox_ok _ _ _ _, fun p hp => by cases hp⟩) ?_
  simp only [List.take, List.drop]
  have HLO := Lib.hid (fun (u : World) (hu : Ext ((w.alloc (.cells #[.slice A1 ps.length c1, .slice A2 ns.length c2, .slice A3 up.length c3, .slice A4 pm c4, .slice A5 lic.length c5] 98)).alloc (.cells #[.slice none 0 0, .slice none 0 0, .slice none 0 0, .slice none 0 0, .slice none 0 0] 98)) u) => show (w.heap.size + 1 + 1) ≤ u.heap.size from by have := hu.le; simpa using this)
  refine grow_make _ _ (by rfl) (by rfl) (fun u hu => ?_) ?_
  · go_simp
    exact ⟨(Ext.refl u).alloc _, ⟨_, rfl⟩, trivial⟩
  rintro v0 ⟨q0, rfl⟩ Φ0 hΦ0
  simp only [Act.put, List.setIfInBounds_toArray, List.set_cons_succ, List.set_cons_zero]
  refine grow_constE (by rfl) (by rfl) ?_
  apply Exists.intro
  refine ⟨fun u hu => ?_, ?_⟩
  · (obtain ⟨hcu, hfu, hzu⟩ := hu.rules; go_simp; exact ⟨rfl, rfl⟩)
  intro Φ1 hΦ1
  simp only [Act.put, List.setIfInBounds_toArray, List.set_cons_succ, List.set_cons_zero]
  refine grow_constE (by rfl) (by rfl) ?_
  apply Exists.intro
  refine ⟨fun u hu => ?_, ?_⟩
  · (obtain ⟨hcu, hfu, hzu⟩ := hu.rules; go_simp; exact ⟨rfl, rfl⟩)
  intro Φ2 hΦ2
  simp only [Act.put, List.setIfInBounds_toArray, List.set_cons_succ, List.set_cons_zero]
  refine grow_make _ _ (by rfl) (by rfl) (fun u hu => ?_) ?_
  · refine grow_append0 (enc := encB) (ok := fun _ => True) _ _ _ (by rfl) 4 i0 _ 1 1 Tryz.underlying26 hi hI0 hI1 hI2 rfl (by omega) q0 A3 up.length c3 up (by rfl) (by rfl) (HU.out u ((((Ext.refl w).alloc _).alloc _).trans hu)) (fun _ => rfl) (by unfold maxLen; omega) (by omega) ?_
    intro A' c' w' hw' ho'
    exact ⟨⟨A', c', rfl⟩, fun A c e => by cases e; exact ho'.base (HLO.out u hu)⟩
  rintro v3 ⟨A8, c8, rfl⟩ Φ3 hΦ3
  simp only [Act.put, List.setIfInBounds_toArray, List.set_cons_succ, List.set_cons_zero]
  refine grow_constE (by rfl) (by rfl) ?_
  apply Exists.intro
  refine ⟨fun u hu => ?_, ?_⟩
  · (obtain ⟨hcu, hfu, hzu⟩ := hu.rules; go_simp; exact ⟨rfl, rfl⟩)
  intro Φ4 hΦ4
  simp only [Act.put, List.setIfInBounds_toArray, List.set_cons_succ, List.set_cons_zero]
  refine grow_constE (by rfl) (by rfl) ?_
  apply Exists.intro
  refine ⟨fun u hu => ?_, ?_⟩
  · (obtain ⟨hcu, hfu, hzu⟩ := hu.rules; go_simp; exact ⟨rfl, rfl⟩)
  intro Φ5 hΦ5
  simp only [Act.put, List.setIfInBounds_toArray, List.set_cons_succ, List.set_cons_zero]
  refine grow_make _ _ (by rfl) (by rfl) (fun u hu => ?_) ?_
  · go_simp
    refine ⟨Ext.refl _, (HL.out u ((((Ext.refl w).alloc _).alloc _).trans hu)).mono ?_⟩
    rintro e w2 ⟨A9, c9, rfl, ho2, hb2⟩
    exact ⟨_, rfl, hb2, ⟨A9, c9, rfl⟩, fun A c e => by cases e; exact owns_base ho2 (HLO.out u hu)⟩
  rintro v6 ⟨A9, c9, rfl⟩ Φ6 hΦ6
  simp only [Act.put, List.setIfInBounds_toArray, List.set_cons_succ, List.set_cons_zero]
  refine grow_constE (by rfl) (by rfl) ?_
  apply Exists.intro
  refine ⟨fun u hu => ?_, ?_⟩
  · (obtain ⟨hcu, hfu, hzu⟩ := hu.rules; go_simp; exact ⟨rfl, rfl⟩)
  intro Φ7 hΦ7
  simp only [Act.put, List.setIfInBounds_toArray, List.set_cons_succ, List.set_cons_zero]
  refine grow_make _ _ (by rfl) (by rfl) (fun u hu => ?_) ?_
  · go_simp
    exact ⟨(Ext.refl u).alloc _, ⟨u.heap.size, HLO.out u hu, rfl⟩, fun b e => by cases e; exact owns_base (gbox u [.slice none 0 0, .slice none 0 0, .slice none 0 0, .slice none 0 0, .slice none 0 0] 98 5 rfl) (HLO.out u hu)⟩
  rintro v8 ⟨b, hb, rfl⟩ Φ8 hΦ8
  simp only [Act.put, List.setIfInBounds_toArray, List.set_cons_succ, List.set_cons_zero]
  refine grow_nil ?_
  intro wx hx hΦ
  have p8 := hΦ8 wx hΦ
  have p7 := hΦ7 wx p8.1
  have p6 := hΦ6 wx p7
  have p5 := hΦ5 wx p6.1
  have p4 := hΦ4 wx p5
  have p3 := hΦ3 wx p4
  have hBX := p8.2 b rfl
  have hbb := (hBX.lt b rfl).1
  have HF1 := Lib.hid (box_fill5 hBX (.slice none 0 0) (.slice none 0 0) (.slice A8 up.length c8) (.slice none 0 0) (.slice A9 lic.length c9))
  have HF2 := Lib.hid ((p3.2 A8 c8 rfl).far5 (by decide) hBX (.slice none 0 0) (.slice none 0 0) (.slice A8 up.length c8) (.slice none 0 0) (.slice A9 lic.length c9))
  have HL9 := Lib.hid (show (((((wx.setCell ⟨b, 0, none⟩ (.slice none 0 0)).setCell ⟨b, 1, none⟩ (.slice none 0 0)).setCell ⟨b, 2, none⟩ (.slice A8 up.length c8)).setCell ⟨b, 3, none⟩ (.slice none 0 0)).setCell ⟨b, 4, none⟩ (.slice A9 lic.length c9)).ownsRow (w.heap.size + 1 + 1) 150 4 (.slice A9 lic.length c9) lic.length (lic.flatMap Pt.enc) from row_far5 (p6.2 A9 c9 rfl) (by decide) hBX (.slice none 0 0) (.slice none 0 0) (.slice A8 up.length c8) (.slice none 0 0) (.slice A9 lic.length c9))
  have HF4 := Lib.hid (hx.five (w0 := ((w.alloc (.cells #[.slice A1 ps.length c1, .slice A2 ns.length c2, .slice A3 up.length c3, .slice A4 pm c4, .slice A5 lic.length c5] 98)).alloc (.cells #[.slice none 0 0, .slice none 0 0, .slice none 0 0, .slice none 0 0, .slice none 0 0] 98))) (b := b) (by simp; omega) (.slice none 0 0) (.slice none 0 0) (.slice A8 up.length c8) (.slice none 0 0) (.slice A9 lic.length c9))
  obtain ⟨t0, t1, t2, t3, t4, tf0, tf1, tf2, tf3, tf4, tl⟩ := gcells5 hBX
  clear hΦ p8 p7 p6 p5 p4 p3 hΦ0 hΦ1 hΦ2 hΦ3 hΦ4 hΦ5 hΦ6 hΦ7 hΦ8 Φ0 Φ1 Φ2 Φ3 Φ4 Φ5 Φ6 Φ7 Φ8 hBX
  go_upto_region 2 with fail
  generalize hwy : (((((wx.setCell ⟨b, 0, none⟩ (.slice none 0 0)).setCell ⟨b, 1, none⟩ (.slice none 0 0)).setCell ⟨b, 2, none⟩ (.slice A8 up.length c8)).setCell ⟨b, 3, none⟩ (.slice none 0 0)).setCell ⟨b, 4, none⟩ (.slice A9 lic.length c9)) = wy at *
  clear hwy t0 t1 t2 t3 t4 tf0 tf1 tf2 tf3 tf4 tl hx
  have y0 := (((Ext.refl _).alloc _).trans HF4.out).cell (cell_box_at w (w.heap.size) (by simp) [.slice A1 ps.length c1, .slice A2 ns.length c2, .slice A3 up.length c3, .slice A4 pm c4, .slice A5 lic.length c5] 98 0 _ rfl)
  have y1 := (((Ext.refl _).alloc _).trans HF4.out).cell (cell_box_at w (w.heap.size) (by simp) [.slice A1 ps.length c1, .slice A2 ns.length c2, .slice A3 up.length c3, .slice A4 pm c4, .slice A5 lic.length c5] 98 1 _ rfl)
  have y2 := (((Ext.refl _).alloc _).trans HF4.out).cell (cell_box_at w (w.heap.size) (by simp) [.slice A1 ps.length c1, .slice A2 ns.length c2, .slice A3 up.length c3, .slice A4 pm c4, .slice A5 lic.length c5] 98 2 _ rfl)
  have y3 := (((Ext.refl _).alloc _).trans HF4.out).cell (cell_box_at w (w.heap.size) (by simp) [.slice A1 ps.length c1, .slice A2 ns.length c2, .slice A3 up.length c3, .slice A4 pm c4, .slice A5 lic.length c5] 98 3 _ rfl)
  have y4 := (((Ext.refl _).alloc _).trans HF4.out).cell (cell_box_at w (w.heap.size) (by simp) [.slice A1 ps.length c1, .slice A2 ns.length c2, .slice A3 up.length c3, .slice A4 pm c4, .slice A5 lic.length c5] 98 4 _ rfl)
  have yf0 := ((((Ext.refl _).alloc _).trans HF4.out).frozenEq (a := ⟨w.heap.size, 0, none⟩) (by simp)).trans (frozen_box_at w (w.heap.size) (by simp) #[.slice A1 ps.length c1, .slice A2 ns.length c2, .slice A3 up.length c3, .slice A4 pm c4, .slice A5 lic.length c5] 98 0)
  have yf1 := ((((Ext.refl _).alloc _).trans HF4.out).frozenEq (a := ⟨w.heap.size, 1, none⟩) (by simp)).trans (frozen_box_at w (w.heap.size) (by simp) #[.slice A1 ps.length c1, .slice A2 ns.length c2, .slice A3 up.length c3, .slice A4 pm c4, .slice A5 lic.length c5] 98 1)
  have yf2 := ((((Ext.refl _).alloc _).trans HF4.out).frozenEq (a := ⟨w.heap.size, 2, none⟩) (by simp)).trans (frozen_box_at w (w.heap.size) (by simp) #[.slice A1 ps.length c1, .slice A2 ns.length c2, .slice A3 up.length c3, .slice A4 pm c4, .slice A5 lic.length c5] 98 2)
  have yf3 := ((((Ext.refl _).alloc _).trans HF4.out).frozenEq (a := ⟨w.heap.size, 3, none⟩) (by simp)).trans (frozen_box_at w (w.heap.size) (by simp) #[.slice A1 ps.length c1, .slice A2 ns.length c2, .slice A3 up.length c3, .slice A4 pm c4, .slice A5 lic.length c5] 98 3)
  have yf4 := ((((Ext.refl _).alloc _).trans HF4.out).frozenEq (a := ⟨w.heap.size, 4, none⟩) (by simp)).trans (frozen_box_at w (w.heap.size) (by simp) #[.slice A1 ps.length c1, .slice A2 ns.length c2, .slice A3 up.length c3, .slice A4 pm c4, .slice A5 lic.length c5] 98 4)
  have hyl := lt_of_cell y0
  have hyb : w.heap.size ≠ b := by omega
  obtain ⟨t0, t1, t2, t3, t4, tf0, tf1, tf2, tf3, tf4, tl⟩ := gcells5 HF1.out
  refine wp_region_grow_tab 12 [(0, gLit), (4, gRow0 (w.heap.size + 1 + 1) 3 1 ps.length (ps.flatMap encInt)), (5, gLit), (9, gRow0 (w.heap.size + 1 + 1) 84 4 ns.length (ns.flatMap Node.enc))] (by kernel_rfl) (by kernel_rfl) (by simp only [List.forall_mem_cons]; exact ⟨gLit_ok, gRow0_ok _ _ _ _ _, gLit_ok, gRow0_ok _ _ _ _ _, fun p hp => by cases hp⟩) ?_
  simp only [List.take, List.drop]
  have HLO2 := Lib.hid (fun (u : World) (hu : Ext wy u) => show (w.heap.size + 1 + 1) ≤ u.heap.size from HLO.out u (HF4.out.trans hu))
  have HXY := Lib.hid (show Ext w wy from (((Ext.refl w).alloc _).alloc _).trans HF4.out)
  refine grow_make _ _ (by rfl) (by rfl) (fun u hu => ?_) ?_
  · go_simp
    exact ⟨(Ext.refl u).alloc _, ⟨_, rfl⟩, trivial⟩
  rintro v0 ⟨q1, rfl⟩ Φ0 hΦ0
  simp only [Act.put, List.setIfInBounds_toArray, List.set_cons_succ, List.set_cons_zero]
  refine grow_constE (by rfl) (by rfl) ?_
  apply Exists.intro
  refine ⟨fun u hu => ?_, ?_⟩
  · (obtain ⟨hcu, hfu, hzu⟩ := hu.rules; go_simp; exact ⟨rfl, rfl⟩)
  intro Φ1 hΦ1
  simp only [Act.put, List.setIfInBounds_toArray, List.set_cons_succ, List.set_cons_zero]
  refine grow_constE (by rfl) (by rfl) ?_
  apply Exists.intro
  refine ⟨fun u hu => ?_, ?_⟩
  · (obtain ⟨hcu, hfu, hzu⟩ := hu.rules; go_simp; exact ⟨rfl, rfl⟩)
  intro Φ2 hΦ2
  simp only [Act.put, List.setIfInBounds_toArray, List.set_cons_succ, List.set_cons_zero]
  refine grow_constE (by rfl) (by rfl) ?_
  apply Exists.intro
  refine ⟨fun u hu => ?_, ?_⟩
  · (obtain ⟨hcu, hfu, hzu⟩ := hu.rules; go_simp; exact ⟨rfl, rfl⟩)
  intro Φ3 hΦ3
  simp only [Act.put, List.setIfInBounds_toArray, List.set_cons_succ, List.set_cons_zero]
  refine grow_make _ _ (by rfl) (by rfl) (fun u hu => ?_) ?_
  · refine grow_append0 (enc := encInt) (ok := In64) _ _ _ (by rfl) 3 i2 _ 1 8 Tryz.underlying22 hi2 hK0 hK1 hK2 rfl (by omega) q1 A1 ps.length c1 ps (by rfl) (by rfl) (HP1.out u (HXY.out.trans hu)) (fun _ => rfl) (by unfold maxLen; omega) (by omega) ?_
    intro A' c' w' hw' ho'
    exact ⟨⟨A', c', rfl⟩, fun A c e => by cases e; exact ho'.base (HLO2.out u hu)⟩
  rintro v4 ⟨A6, c6, rfl⟩ Φ4 hΦ4
  simp only [Act.put, List.setIfInBounds_toArray, List.set_cons_succ, List.set_cons_zero]
  refine grow_make _ _ (by rfl) (by rfl) (fun u hu => ?_) ?_
  · go_simp
    exact ⟨(Ext.refl u).alloc _, ⟨_, rfl⟩, trivial⟩
  rintro v5 ⟨q2, rfl⟩ Φ5 hΦ5
  simp only [Act.put, List.setIfInBounds_toArray, List.set_cons_succ, List.set_cons_zero]
  refine grow_constE (by rfl) (by rfl) ?_
  apply Exists.intro
  refine ⟨fun u hu => ?_, ?_⟩
  · (obtain ⟨hcu, hfu, hzu⟩ := hu.rules; go_simp; exact ⟨rfl, rfl⟩)
  intro Φ6 hΦ6
  simp only [Act.put, List.setIfInBounds_toArray, List.set_cons_succ, List.set_cons_zero]
  refine grow_constE (by rfl) (by rfl) ?_
  apply Exists.intro
  refine ⟨fun u hu => ?_, ?_⟩
  · (obtain ⟨hcu, hfu, hzu⟩ := hu.rules; go_simp; exact ⟨rfl, rfl⟩)
  intro Φ7 hΦ7
  simp only [Act.put, List.setIfInBounds_toArray, List.set_cons_succ, List.set_cons_zero]
  refine grow_constE (by rfl) (by rfl) ?_
  apply Exists.intro
  refine ⟨fun u hu => ?_, ?_⟩
  · (obtain ⟨hcu, hfu, hzu⟩ := hu.rules; go_simp; exact ⟨rfl, rfl⟩)
  intro Φ8 hΦ8
  simp only [Act.put, List.setIfInBounds_toArray, List.set_cons_succ, List.set_cons_zero]
  refine grow_make _ _ (by rfl) (by rfl) (fun u hu => ?_) ?_
  · refine grow_append0 (enc := Node.enc) (ok := Node.ok) _ _ _ (by rfl) 84 i3 _ 4 32 Tryz.underlying36 hi3 hL0 hL1 hL2 rfl (by omega) q2 A2 ns.length c2 ns (by rfl) (by rfl) (HP2.out u (HXY.out.trans hu)) Node.size (by unfold maxLen; omega) (by omega) ?_
    intro A' c' w' hw' ho'
    exact ⟨⟨A', c', rfl⟩, fun A c e => by cases e; exact ho'.base (HLO2.out u hu)⟩
  rintro v9 ⟨A7, c7, rfl⟩ Φ9 hΦ9
  simp only [Act.put, List.setIfInBounds_toArray, List.set_cons_succ, List.set_cons_zero]
  refine grow_constE (by rfl) (by rfl) ?_
  apply Exists.intro
  refine ⟨fun u hu => ?_, ?_⟩
  · (obtain ⟨hcu, hfu, hzu⟩ := hu.rules; go_simp; exact ⟨rfl, rfl⟩)
  intro Φ10 hΦ10
  simp only [Act.put, List.setIfInBounds_toArray, List.set_cons_succ, List.set_cons_zero]
  refine grow_constE (by rfl) (by rfl) ?_
  apply Exists.intro
  refine ⟨fun u hu => ?_, ?_⟩
  · (obtain ⟨hcu, hfu, hzu⟩ := hu.rules; go_simp; exact ⟨rfl, rfl⟩)
  intro Φ11 hΦ11
  simp only [Act.put, List.setIfInBounds_toArray, List.set_cons_succ, List.set_cons_zero]
  refine grow_nil ?_
  intro wz hz hΦ
  have p11 := hΦ11 wz hΦ
  have p10 := hΦ10 wz p11
  have p9 := hΦ9 wz p10
  have p8 := hΦ8 wz p9.1
  have p7 := hΦ7 wz p8
  have p6 := hΦ6 wz p7
  have p5 := hΦ5 wz p6
  have p4 := hΦ4 wz p5.1
  have HBX := Lib.hid (owns_ext HF1.out hz)
  have HLC := Lib.hid (show wz.ownsRow (w.heap.size + 1 + 1) 150 4 (.slice A9 lic.length c9) lic.length (lic.flatMap Pt.enc) from owns_ext HL9.out hz)
  have HR0 := Lib.hid (show RoomS wz (w.heap.size + 1 + 1) ps ns up ([], lic) A6 c6 A7 c7 A8 c8 none 0 A9 c9 from ⟨p4.2 A6 c6 rfl, p9.2 A7 c7 rfl, HF2.out.ext hz, PO.nil _ _, HLC.out, HK.out.1, HK.out.2.1, HK.out.2.2⟩)
  have HFA := Lib.hid ((HR0.out.far HBX.out (p := 0) (u := .slice A6 ps.length c6)).far (HBX.out.stored 0 (.slice A6 ps.length c6)).1 (p := 1) (u := .slice A7 ns.length c7))
  have HFB := Lib.hid ((HBX.out.stored 0 (.slice A6 ps.length c6)).1.stored 1 (.slice A7 ns.length c7)).1
  have HFC := Lib.hid (show Ext ((w.alloc (.cells #[.slice A1 ps.length c1, .slice A2 ns.length c2, .slice A3 up.length c3, .slice A4 pm c4, .slice A5 lic.length c5] 98)).alloc (.cells #[.slice none 0 0, .slice none 0 0, .slice none 0 0, .slice none 0 0, .slice none 0 0] 98)) ((wz.setCell ⟨b, 0, none⟩ (.slice A6 ps.length c6)).setCell ⟨b, 1, none⟩ (.slice A7 ns.length c7)) from ((HF4.out.trans hz).setCell (by simp; omega) _).setCell (by simp; omega) _)
  clear t0 t1 t2 t3 t4 tf0 tf1 tf2 tf3 tf4 tl y0 y1 y2 y3 y4 yf0 yf1 yf2 yf3 yf4 hyl
  have HZ := Lib.hid hz
  have y0 := ((((Ext.refl _).alloc _).trans HF4.out).trans HZ.out).cell (cell_box_at w (w.heap.size) (by simp) [.slice A1 ps.length c1, .slice A2 ns.length c2, .slice A3 up.length c3, .slice A4 pm c4, .slice A5 lic.length c5] 98 0 _ rfl)
  have y1 := ((((Ext.refl _).alloc _).trans HF4.out).trans HZ.out).cell (cell_box_at w (w.heap.size) (by simp) [.slice A1 ps.length c1, .slice A2 ns.length c2, .slice A3 up.length c3, .slice A4 pm c4, .slice A5 lic.length c5] 98 1 _ rfl)
  have y2 := ((((Ext.refl _).alloc _).trans HF4.out).trans HZ.out).cell (cell_box_at w (w.heap.size) (by simp) [.slice A1 ps.length c1, .slice A2 ns.length c2, .slice A3 up.length c3, .slice A4 pm c4, .slice A5 lic.length c5] 98 2 _ rfl)
  have y3 := ((((Ext.refl _).alloc _).trans HF4.out).trans HZ.out).cell (cell_box_at w (w.heap.size) (by simp) [.slice A1 ps.length c1, .slice A2 ns.length c2, .slice A3 up.length c3, .slice A4 pm c4, .slice A5 lic.length c5] 98 3 _ rfl)
  have y4 := ((((Ext.refl _).alloc _).trans HF4.out).trans HZ.out).cell (cell_box_at w (w.heap.size) (by simp) [.slice A1 ps.length c1, .slice A2 ns.length c2, .slice A3 up.length c3, .slice A4 pm c4, .slice A5 lic.length c5] 98 4 _ rfl)
  have yf0 := (((((Ext.refl _).alloc _).trans HF4.out).trans HZ.out).frozenEq (a := ⟨w.heap.size, 0, none⟩) (by simp)).trans (frozen_box_at w (w.heap.size) (by simp) #[.slice A1 ps.length c1, .slice A2 ns.length c2, .slice A3 up.length c3, .slice A4 pm c4, .slice A5 lic.length c5] 98 0)
  have yf1 := (((((Ext.refl _).alloc _).trans HF4.out).trans HZ.out).frozenEq (a := ⟨w.heap.size, 1, none⟩) (by simp)).trans (frozen_box_at w (w.heap.size) (by simp) #[.slice A1 ps.length c1, .slice A2 ns.length c2, .slice A3 up.length c3, .slice A4 pm c4, .slice A5 lic.length c5] 98 1)
  have yf2 := (((((Ext.refl _).alloc _).trans HF4.out).trans HZ.out).frozenEq (a := ⟨w.heap.size, 2, none⟩) (by simp)).trans (frozen_box_at w (w.heap.size) (by simp) #[.slice A1 ps.length c1, .slice A2 ns.length c2, .slice A3 up.length c3, .slice A4 pm c4, .slice A5 lic.length c5] 98 2)
  have yf3 := (((((Ext.refl _).alloc _).trans HF4.out).trans HZ.out).frozenEq (a := ⟨w.heap.size, 3, none⟩) (by simp)).trans (frozen_box_at w (w.heap.size) (by simp) #[.slice A1 ps.length c1, .slice A2 ns.length c2, .slice A3 up.length c3, .slice A4 pm c4, .slice A5 lic.length c5] 98 3)
  have yf4 := (((((Ext.refl _).alloc _).trans HF4.out).trans HZ.out).frozenEq (a := ⟨w.heap.size, 4, none⟩) (by simp)).trans (frozen_box_at w (w.heap.size) (by simp) #[.slice A1 ps.length c1, .slice A2 ns.length c2, .slice A3 up.length c3, .slice A4 pm c4, .slice A5 lic.length c5] 98 4)
  have hyl := lt_of_cell y0
  obtain ⟨t0, t1, t2, t3, t4, tf0, tf1, tf2, tf3, tf4, tl⟩ := gcells5 HBX.out
  clear hΦ p11 p10 p9 p8 p7 p6 p5 p4 hΦ0 hΦ1 hΦ2 hΦ3 hΦ4 hΦ5 hΦ6 hΦ7 hΦ8 hΦ9 hΦ10 hΦ11 Φ0 Φ1 Φ2 Φ3 Φ4 Φ5 Φ6 Φ7 Φ8 Φ9 Φ10 Φ11 hz
  go_wp2
  go_loopw [29] (fun iv wr => ∃ (k : Nat) (A10 : Option Addr) (c10 : Nat), k ≤ pm ∧ iv = .int .i64 k ∧ Hid (RoomS wr (w.heap.size + 1 + 1) ps ns up (pl.take k, lic) A6 c6 A7 c7 A8 c8 A10 c10 A9 c9) ∧ Hid (wr.ownsRow (w.heap.size + 1 + 1) 98 5 (.slice (some ⟨b, 0, none⟩) 1 1) 1 [.slice A6 ps.length c6, .slice A7 ns.length c7, .slice A8 up.length c8, .slice A10 k c10, .slice A9 lic.length c9]) ∧ Ext ((w.alloc (.cells #[.slice A1 ps.length c1, .slice A2 ns.length c2, .slice A3 up.length c3, .slice A4 pm c4, .slice A5 lic.length c5] 98)).alloc (.cells #[.slice none 0 0, .slice none 0 0, .slice none 0 0, .slice none 0 0, .slice none 0 0] 98)) wr) (fun iv _ => pm - (intOf iv).toNat)
  case atStart => exact ⟨0, none, 0, Nat.zero_le _, rfl, HFA, HFB, HFC.out⟩
  case round =>
    clear t0 t1 t2 t3 t4 tf0 tf1 tf2 tf3 tf4 tl HBX HFA HFB HFC HF1 HF2 HF4 HL9 HLC HR0 y0 y1 y2 y3 y4 yf0 yf1 yf2 yf3 yf4 hyl
    obtain ⟨k, A10, c10, hk, rfl, HRO, HBX, hb⟩ := hrel
    by_cases hlt : k < pm
    · obtain ⟨bq, oq, x, cs, rfl, hbw, hx2, _, hc, Aq, cq, rfl, hs⟩ := (H4.out wr ((((Ext.refl w).alloc _).alloc _).trans hb)).at_ hlt
      have g0 := hc 0 _ rfl
      simp only [Nat.mul_one, Nat.add_zero] at g0
      have HX := Lib.hid hx2
      have HXL := Lib.hid (HPI.out x (List.mem_of_getElem? hx2))
      have hxl := HXL.out
      have HXK := Lib.hid hs.all
      have HCP := Lib.hid (fun (u : World) (e : Ext wr u) => l04Prof_c x Aq x.length cq u (hs.ext (Flat.mono _ _) e) (by omega))
      obtain ⟨hpl1, L, hL, hLi⟩ := HRO.out.pro
      have HTK := Lib.hid (show (pl.take k).length = k by rw [List.length_take, HPM.out]; omega)
      have HLL := Lib.hid (show wr.ownsRow (w.heap.size + 1 + 1) 96 1 (.slice A10 k c10) k L by rw [← HTK.out]; exact hL)
      have HLI := Lib.hid hLi
      have t3 := (gcells5 HBX.out).2.2.2.1
      have tl := (HBX.out.lt b rfl).2
      have hbb2 := (HBX.out.lt b rfl).1
      clear hx2 hc hs hpl1 hL hLi
      go_wp2
      go_region_law (first | (go_simp; go_at_call 119; (with_reducible refine (HCP.out _ (by repeat (first | exact Ext.refl _ | apply Ext.alloc | apply Ext.drew))).mono ?_); rintro e w4 ⟨A11, c11, rfl, ho4, hb4⟩; have HE4 := Lib.hid (show Ext wr w4 from Ext.trans (by repeat (first | exact Ext.refl _ | apply Ext.alloc | apply Ext.drew)) hb4); have HO4 := Lib.hid (owns_base ho4 (show (w.heap.size + 1 + 1) ≤ _ from (by simp; omega))); have x4 := HE4.out.cell t3; have hl4 := Nat.lt_of_lt_of_le tl HE4.out.le; clear ho4 hb4) | (refine step_append_r (enc := encS) (ok := fun _ => True) (by rfl) _ _ _ (by rfl) (w.heap.size + 1 + 1) 96 i1 _ 1 24 Tryz.underlying93 hi1 hJ0 hJ1 hJ2 rfl (by omega) (.slice A10 k c10) k L _ 1 1 [(A11, x.length, c11)] (k + 1) rfl (by rfl) (by rfl) (owns_ext HLL.out (HE4.out.alloc _)) (by exact sl_one_r (enc := encS) w4 (A11, x.length, c11) 96 rfl trivial) (fun _ => rfl) encS_one (by unfold maxLen; omega) (by omega) (by simp; omega) ?_; intro A12 c12 w5 hr5; have HB5 := Lib.hid (hr5.other (owns_ext HBX.out (HE4.out.alloc (.cells (encS (A11, x.length, c11)).toArray 96))) (g_apart HBX.out HLL.out (by decide))); have x5 := (gcells5 HB5.out).2.2.2.1; have xf5 := HB5.out.frozenAt 3; have hl5 := (HB5.out.lt b rfl).2))
      all_goals
        have HR5 := Lib.hid hr5
        have HRN := Lib.hid ((HRO.out.ext (HE4.out.alloc (.cells (encS (A11, x.length, c11)).toArray 96))).push HTK.out (owns_ext HLL.out (HE4.out.alloc _)) (fun j p hj => by obtain ⟨Ap, cp, e1, e2, e3⟩ := HLI.out j p hj; exact ⟨Ap, cp, e1, owns_ext e2 (HE4.out.alloc _), e3⟩) HR5.out (by simp [encS]) (owns_ext HO4.out ((Ext.refl w4).alloc _)) HXK.out)
        have HXT := Lib.hid (ext_turned (hb.trans (HE4.out.alloc (.cells (encS (A11, x.length, c11)).toArray 96))) (HR5.out.turned (lo := (w.heap.size + 1 + 1)) (fun q hq => (HLL.out.lt q hq).1)) (by simp))
        clear hr5 x4 t3 tl
        go_wp2
        go_roundw
        case rel => exact ⟨k + 1, A12, c12, by omega, by go_num, Lib.hid (by rw [take_succ HX.out]; exact HRN.out.far HB5.out), Lib.hid (HB5.out.stored 3 _).1, HXT.out.setCell (by simp; omega) _⟩
        case measure => simp [intOf]; omega
    · obtain rfl : k = pm := by omega
      have HPT := Lib.hid (show pl.take k = pl by rw [List.take_of_length_le (by have := HPM.out; omega)])
      rw [HPT.out] at HRO
      obtain ⟨t0, t1, t2, t3, t4, tf0, tf1, tf2, tf3, tf4, tl⟩ := gcells5 HBX.out
      have q0 := (hb).cell (cell_box_at (w.alloc (.cells #[.slice A1 ps.length c1, .slice A2 ns.length c2, .slice A3 up.length c3, .slice A4 k c4, .slice A5 lic.length c5] 98)) (w.heap.size + 1) (by simp) [.slice none 0 0, .slice none 0 0, .slice none 0 0, .slice none 0 0, .slice none 0 0] 98 0 _ rfl)
      have q1 := (hb).cell (cell_box_at (w.alloc (.cells #[.slice A1 ps.length c1, .slice A2 ns.length c2, .slice A3 up.length c3, .slice A4 k c4, .slice A5 lic.length c5] 98)) (w.heap.size + 1) (by simp) [.slice none 0 0, .slice none 0 0, .slice none 0 0, .slice none 0 0, .slice none 0 0] 98 1 _ rfl)
      have q2 := (hb).cell (cell_box_at (w.alloc (.cells #[.slice A1 ps.length c1, .slice A2 ns.length c2, .slice A3 up.length c3, .slice A4 k c4, .slice A5 lic.length c5] 98)) (w.heap.size + 1) (by simp) [.slice none 0 0, .slice none 0 0, .slice none 0 0, .slice none 0 0, .slice none 0 0] 98 2 _ rfl)
      have q3 := (hb).cell (cell_box_at (w.alloc (.cells #[.slice A1 ps.length c1, .slice A2 ns.length c2, .slice A3 up.length c3, .slice A4 k c4, .slice A5 lic.length c5] 98)) (w.heap.size + 1) (by simp) [.slice none 0 0, .slice none 0 0, .slice none 0 0, .slice none 0 0, .slice none 0 0] 98 3 _ rfl)
      have q4 := (hb).cell (cell_box_at (w.alloc (.cells #[.slice A1 ps.length c1, .slice A2 ns.length c2, .slice A3 up.length c3, .slice A4 k c4, .slice A5 lic.length c5] 98)) (w.heap.size + 1) (by simp) [.slice none 0 0, .slice none 0 0, .slice none 0 0, .slice none 0 0, .slice none 0 0] 98 4 _ rfl)
      have qf0 := ((hb).frozenEq (a := ⟨w.heap.size + 1, 0, none⟩) (by simp)).trans (frozen_box_at (w.alloc (.cells #[.slice A1 ps.length c1, .slice A2 ns.length c2, .slice A3 up.length c3, .slice A4 k c4, .slice A5 lic.length c5] 98)) (w.heap.size + 1) (by simp) #[.slice none 0 0, .slice none 0 0, .slice none 0 0, .slice none 0 0, .slice none 0 0] 98 0)
      have qf1 := ((hb).frozenEq (a := ⟨w.heap.size + 1, 1, none⟩) (by simp)).trans (frozen_box_at (w.alloc (.cells #[.slice A1 ps.length c1, .slice A2 ns.length c2, .slice A3 up.length c3, .slice A4 k c4, .slice A5 lic.length c5] 98)) (w.heap.size + 1) (by simp) #[.slice none 0 0, .slice none 0 0, .slice none 0 0, .slice none 0 0, .slice none 0 0] 98 1)
      have qf2 := ((hb).frozenEq (a := ⟨w.heap.size + 1, 2, none⟩) (by simp)).trans (frozen_box_at (w.alloc (.cells #[.slice A1 ps.length c1, .slice A2 ns.length c2, .slice A3 up.length c3, .slice A4 k c4, .slice A5 lic.length c5] 98)) (w.heap.size + 1) (by simp) #[.slice none 0 0, .slice none 0 0, .slice none 0 0, .slice none 0 0, .slice none 0 0] 98 2)
      have qf3 := ((hb).frozenEq (a := ⟨w.heap.size + 1, 3, none⟩) (by simp)).trans (frozen_box_at (w.alloc (.cells #[.slice A1 ps.length c1, .slice A2 ns.length c2, .slice A3 up.length c3, .slice A4 k c4, .slice A5 lic.length c5] 98)) (w.heap.size + 1) (by simp) #[.slice none 0 0, .slice none 0 0, .slice none 0 0, .slice none 0 0, .slice none 0 0] 98 3)
      have qf4 := ((hb).frozenEq (a := ⟨w.heap.size + 1, 4, none⟩) (by simp)).trans (frozen_box_at (w.alloc (.cells #[.slice A1 ps.length c1, .slice A2 ns.length c2, .slice A3 up.length c3, .slice A4 k c4, .slice A5 lic.length c5] 98)) (w.heap.size + 1) (by simp) #[.slice none 0 0, .slice none 0 0, .slice none 0 0, .slice none 0 0, .slice none 0 0] 98 4)
      have hql := lt_of_cell q0
      have hqb : w.heap.size + 1 ≠ b := by omega
      have HRB := Lib.hid (((((HRO.out.low (b := w.heap.size + 1) (p := 0) (u := .slice A6 ps.length c6) (by omega)).low (b := w.heap.size + 1) (p := 1) (u := .slice A7 ns.length c7) (by omega)).low (b := w.heap.size + 1) (p := 2) (u := .slice A8 up.length c8) (by omega)).low (b := w.heap.size + 1) (p := 3) (u := .slice A10 k c10) (by omega)).low (b := w.heap.size + 1) (p := 4) (u := .slice A9 lic.length c9) (by omega))
      have hxx : Ext w wr := (((Ext.refl w).alloc _).alloc _).trans hb
      clear HRO hb
      go_wp2
      exact bodyPost_ret (v := .agg #[.slice A6 ps.length c6, .slice A7 ns.length c7, .slice A8 up.length c8, .slice A10 k c10, .slice A9 lic.length c9]) (by simp [results, Tryz.results102, go_sem, *]) rfl ⟨A6, c6, A7, c7, A8, c8, A10, c10, A9, c9, by rw [HPM.out], HRB.out.base (by omega), (by repeat (first | exact Ext.refl _ | assumption | apply Ext.alloc | apply Ext.drewN | apply Ext.drew | (refine Ext.setCell ?_ (by first | (simp; done) | (simp; omega) | omega) _) | (refine Ext.trans ?_ (by assumption))))⟩
end Go.Proofs.YtfcffcgdbmkfgaaGreat
