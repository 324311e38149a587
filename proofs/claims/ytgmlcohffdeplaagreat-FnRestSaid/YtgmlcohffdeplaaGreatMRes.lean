/- Merged by mergelean.py: SCopy, SDiff, SRes. -/
import Derived.Test.YtgmlcohffdeplaaGreatMMoved
import Derived.Test.YtgmlcohffdeplaaGreatMChg
import Derived.Deep.RegionHeld3
/-! SCopy -/
namespace Go.Proofs.YtgmlcohffdeplaaGreat
open Go.RowKit
set_option linter.unusedVariables false
def RetRoomS (w : World) (ps : List Int) (ns : List Node) (up : List Bool) (r : List (List Pt) × List Pt) : Ending → World → Prop := fun e w' => ∃ A1 c1 A2 c2 A3 c3 A4 c4 A5 c5, e = .returned (.agg #[.slice A1 ps.length c1, .slice A2 ns.length c2, .slice A3 up.length c3, .slice A4 r.1.length c4, .slice A5 r.2.length c5]) ∧ RoomS w' w.heap.size ps ns up r A1 c1 A2 c2 A3 c3 A4 c4 A5 c5 ∧ Ext w w'
theorem own0.far5 {w : World} {lo lo' g : Nat} {e : TypeId} {sz : Nat} {A : Option Addr} {c n : Nat} {L : List Value} {u0 u1 u2 u3 u4 : Value} (h : own0 w lo e sz A c n L) (hne : e ≠ 44) (hbox : w.ownsRow lo' 44 5 (.slice (some ⟨g, 0, none⟩) 1 1) 1 [u0, u1, u2, u3, u4]) (a0 a1 a2 a3 a4 : Value) : own0 (((((w.setCell ⟨g, 0, none⟩ a0).setCell ⟨g, 1, none⟩ a1).setCell ⟨g, 2, none⟩ a2).setCell ⟨g, 3, none⟩ a3).setCell ⟨g, 4, none⟩ a4) lo e sz A c n L := by
  have b1 := (hbox.stored 0 a0).1
  have b2 := (b1.stored 1 a1).1
  have b3 := (b2.stored 2 a2).1
  have b4 := (b3.stored 3 a3).1
  exact ((((h.far hbox hne).far b1 hne).far b2 hne).far b3 hne).far b4 hne
theorem row_far5 {w : World} {lo lo' g : Nat} {e : TypeId} {sz n : Nat} {v : Value} {L : List Value} {u0 u1 u2 u3 u4 : Value} (h : w.ownsRow lo e sz v n L) (hne : e ≠ 44) (hbox : w.ownsRow lo' 44 5 (.slice (some ⟨g, 0, none⟩) 1 1) 1 [u0, u1, u2, u3, u4]) (a0 a1 a2 a3 a4 : Value) : (((((w.setCell ⟨g, 0, none⟩ a0).setCell ⟨g, 1, none⟩ a1).setCell ⟨g, 2, none⟩ a2).setCell ⟨g, 3, none⟩ a3).setCell ⟨g, 4, none⟩ a4).ownsRow lo e sz v n L := by
  have b1 := (hbox.stored 0 a0).1
  have b2 := (b1.stored 1 a1).1
  have b3 := (b2.stored 2 a2).1
  have b4 := (b3.stored 3 a3).1
  exact g_far (g_far (g_far (g_far (g_far h (fun q => g_apart h hbox hne _ q rfl)) (fun q => g_apart (g_far h (fun q => g_apart h hbox hne _ q rfl)) b1 hne _ q rfl)) (fun q => g_apart (g_far (g_far h (fun q => g_apart h hbox hne _ q rfl)) (fun q => g_apart (g_far h (fun q => g_apart h hbox hne _ q rfl)) b1 hne _ q rfl)) b2 hne _ q rfl)) (fun q => by have := h.lt _ q; exact g_apart (g_far (g_far (g_far h (fun q => g_apart h hbox hne _ q rfl)) (fun q => g_apart (g_far h (fun q => g_apart h hbox hne _ q rfl)) b1 hne _ q rfl)) (fun q => g_apart (g_far (g_far h (fun q => g_apart h hbox hne _ q rfl)) (fun q => g_apart (g_far h (fun q => g_apart h hbox hne _ q rfl)) b1 hne _ q rfl)) b2 hne _ q rfl)) b3 hne _ q rfl)) (fun q => g_apart h hbox hne _ q rfl)
theorem box_fill5 {w : World} {lo' g : Nat} {u0 u1 u2 u3 u4 : Value} (hbox : w.ownsRow lo' 44 5 (.slice (some ⟨g, 0, none⟩) 1 1) 1 [u0, u1, u2, u3, u4]) (a0 a1 a2 a3 a4 : Value) : (((((w.setCell ⟨g, 0, none⟩ a0).setCell ⟨g, 1, none⟩ a1).setCell ⟨g, 2, none⟩ a2).setCell ⟨g, 3, none⟩ a3).setCell ⟨g, 4, none⟩ a4).ownsRow lo' 44 5 (.slice (some ⟨g, 0, none⟩) 1 1) 1 [a0, a1, a2, a3, a4] :=
  (((((hbox.stored 0 a0).1.stored 1 a1).1.stored 2 a2).1.stored 3 a3).1.stored 4 a4).1
set_option maxHeartbeats 16000000 in
set_option maxRecDepth 10000 in
theorem l04Copy_c (ps : List Int) (ns : List Node) (up : List Bool) (pl : List (List Pt)) (lic : List Pt) (v : Value) (w : World) (h : RoomAt w ps ns up (pl, lic) v) (hps : ps.length ≤ 24) (hns : ns.length ≤ 24) (hup : up.length ≤ 24) (hpl : pl.length ≤ 24) (hpi : ∀ p ∈ pl, p.length ≤ 200) (hli : lic.length ≤ 200) : Calls Tryz.prog 27 #[v] w (RetRoomS w ps ns up (pl, lic)) := by
  obtain ⟨A1, c1, A2, c2, A3, c3, A4, c4, A5, c5, rfl, h1, h2, h3, h4, h5⟩ := h
  simp only [] at h4 h5 ⊢
  obtain ⟨i0, hi, hI0, hI1, hI2⟩ := info_parts CBool.info
  obtain ⟨i1, hi1, hJ0, hJ1, hJ2⟩ := info_parts CProf.info
  obtain ⟨i2, hi2, hK0, hK1, hK2⟩ := info_parts CInt.info
  obtain ⟨i3, hi3, hL0, hL1, hL2⟩ := info_parts CNode.info
  have HP1 := Lib.hid (fun (u : World) (e : Ext w u) => h1.ext (Flat.mono encInt In64) e)
  have HP2 := Lib.hid (fun (u : World) (e : Ext w u) => h2.ext (Flat.mono Node.enc Node.ok) e)
  have HU := Lib.hid (fun (u : World) (e : Ext w u) => h3.ext (Flat.mono encB (fun _ => True)) e)
  have HL := Lib.hid (fun (u : World) (e : Ext w u) => l04Prof_c lic A5 lic.length c5 u (h5.ext (Flat.mono _ _) e) (by omega))
  have H4 := Lib.hid (fun (u : World) (e : Ext w u) => h4.ext RPf.mono e)
  have HK := Lib.hid (show (∀ x ∈ ps, In64 x) ∧ (∀ x ∈ ns, x.ok) ∧ ∀ x ∈ lic, x.ok from ⟨h1.all, h2.all, h5.all⟩)
  have HPI := Lib.hid hpi
  clear h1 h2 h3 h4 h5 hpi
  generalize hpm : pl.length = pm at *
  have HPM := Lib.hid hpm
  clear hpm
  go_enter Tryz.func27, Tryz.ntmps27
  go_upto_region 1 with fail
  refine wp_region_grow_tab 9 [(0, gLit), (3, gRow0 (w.heap.size + 1 + 1) 4 1 up.length (up.flatMap encB)), (6, gProf (w.heap.size + 1 + 1) lic), (8, gBox (w.heap.size + 1 + 1) 44 5 [.slice none 0 0, .slice none 0 0, .slice none 0 0, .slice none 0 0, .slice none 0 0])] (by kernel_rfl) (by kernel_rfl) (by simp only [List.forall_mem_cons]; exact ⟨gLit_ok, gRow0_ok _ _ _ _ _, gProf_ok _ _, gBox_ok _ _ _ _, fun p hp => by cases hp⟩) ?_
  simp only [List.take, List.drop]
  have HLO := Lib.hid (fun (u : World) (hu : Ext ((w.alloc (.cells #[.slice A1 ps.length c1, .slice A2 ns.length c2, .slice A3 up.length c3, .slice A4 pm c4, .slice A5 lic.length c5] 44)).alloc (.cells #[.slice none 0 0, .slice none 0 0, .slice none 0 0, .slice none 0 0, .slice none 0 0] 44)) u) => show (w.heap.size + 1 + 1) ≤ u.heap.size from by have := hu.le; simpa using this)
  refine grow_make _ _ (by rfl) (by rfl) (fun u hu => ?_) ?_
  · go_simp
    exact ⟨(Ext.refl u).alloc _, ⟨_, rfl⟩, trivial⟩
  rintro v0 ⟨q0, rfl⟩ Φ0 hΦ0
  simp only [Act.put, List.setIfInBounds_toArray, List.set_cons_succ, List.set_cons_zero]
  refine grow_constE (by rfl) (by rfl) ?_
  apply Exists.intro
  refine ⟨fun u hu => ?_, ?_⟩
  · (obtain ⟨hcu, hfu, hzu⟩ := hu.rules; go_simp; exact ⟨rfl, rfl⟩)
  intro Φ1 hΦ1
  simp only [Act.put, List.setIfInBounds_toArray, List.set_cons_succ, List.set_cons_zero]
  refine grow_constE (by rfl) (by rfl) ?_
  apply Exists.intro
  refine ⟨fun u hu => ?_, ?_⟩
  · (obtain ⟨hcu, hfu, hzu⟩ := hu.rules; go_simp; exact ⟨rfl, rfl⟩)
  intro Φ2 hΦ2
  simp only [Act.put, List.setIfInBounds_toArray, List.set_cons_succ, List.set_cons_zero]
  refine grow_make _ _ (by rfl) (by rfl) (fun u hu => ?_) ?_
  · refine grow_append0 (enc := encB) (ok := fun _ => True) _ _ _ (by rfl) 4 i0 _ 1 1 Tryz.underlying26 hi hI0 hI1 hI2 rfl (by omega) q0 A3 up.length c3 up (by rfl) (by rfl) (HU.out u ((((Ext.refl w).alloc _).alloc _).trans hu)) (fun _ => rfl) (by unfold maxLen; omega) (by omega) ?_
    intro A' c' w' hw' ho'
    exact ⟨⟨A', c', rfl⟩, fun A c e => by cases e; exact ho'.base (HLO.out u hu)⟩
  rintro v3 ⟨A8, c8, rfl⟩ Φ3 hΦ3
  simp only [Act.put, List.setIfInBounds_toArray, List.set_cons_succ, List.set_cons_zero]
  refine grow_constE (by rfl) (by rfl) ?_
  apply Exists.intro
  refine ⟨fun u hu => ?_, ?_⟩
  · (obtain ⟨hcu, hfu, hzu⟩ := hu.rules; go_simp; exact ⟨rfl, rfl⟩)
  intro Φ4 hΦ4
  simp only [Act.put, List.setIfInBounds_toArray, List.set_cons_succ, List.set_cons_zero]
  refine grow_constE (by rfl) (by rfl) ?_
  apply Exists.intro
  refine ⟨fun u hu => ?_, ?_⟩
  · (obtain ⟨hcu, hfu, hzu⟩ := hu.rules; go_simp; exact ⟨rfl, rfl⟩)
  intro Φ5 hΦ5
  simp only [Act.put, List.setIfInBounds_toArray, List.set_cons_succ, List.set_cons_zero]
  refine grow_make _ _ (by rfl) (by rfl) (fun u hu => ?_) ?_
  · go_simp
    refine ⟨Ext.refl _, (HL.out u ((((Ext.refl w).alloc _).alloc _).trans hu)).mono ?_⟩
    rintro e w2 ⟨A9, c9, rfl, ho2, hb2⟩
    exact ⟨_, rfl, hb2, ⟨A9, c9, rfl⟩, fun A c e => by cases e; exact owns_base ho2 (HLO.out u hu)⟩
  rintro v6 ⟨A9, c9, rfl⟩ Φ6 hΦ6
  simp only [Act.put, List.setIfInBounds_toArray, List.set_cons_succ, List.set_cons_zero]
  refine grow_constE (by rfl) (by rfl) ?_
  apply Exists.intro
  refine ⟨fun u hu => ?_, ?_⟩
  · (obtain ⟨hcu, hfu, hzu⟩ := hu.rules; go_simp; exact ⟨rfl, rfl⟩)
  intro Φ7 hΦ7
  simp only [Act.put, List.setIfInBounds_toArray, List.set_cons_succ, List.set_cons_zero]
  refine grow_make _ _ (by rfl) (by rfl) (fun u hu => ?_) ?_
  · go_simp
    exact ⟨(Ext.refl u).alloc _, ⟨u.heap.size, HLO.out u hu, rfl⟩, fun b e => by cases e; exact owns_base (gbox u [.slice none 0 0, .slice none 0 0, .slice none 0 0, .slice none 0 0, .slice none 0 0] 44 5 rfl) (HLO.out u hu)⟩
  rintro v8 ⟨b, hb, rfl⟩ Φ8 hΦ8
  simp only [Act.put, List.setIfInBounds_toArray, List.set_cons_succ, List.set_cons_zero]
  refine grow_nil ?_
  intro wx hx hΦ
  have p8 := hΦ8 wx hΦ
  have p7 := hΦ7 wx p8.1
  have p6 := hΦ6 wx p7
  have p5 := hΦ5 wx p6.1
  have p4 := hΦ4 wx p5
  have p3 := hΦ3 wx p4
  have hBX := p8.2 b rfl
  have hbb := (hBX.lt b rfl).1
  have HF1 := Lib.hid (box_fill5 hBX (.slice none 0 0) (.slice none 0 0) (.slice A8 up.length c8) (.slice none 0 0) (.slice A9 lic.length c9))
  have HF2 := Lib.hid ((p3.2 A8 c8 rfl).far5 (by decide) hBX (.slice none 0 0) (.slice none 0 0) (.slice A8 up.length c8) (.slice none 0 0) (.slice A9 lic.length c9))
  have HL9 := Lib.hid (show (((((wx.setCell ⟨b, 0, none⟩ (.slice none 0 0)).setCell ⟨b, 1, none⟩ (.slice none 0 0)).setCell ⟨b, 2, none⟩ (.slice A8 up.length c8)).setCell ⟨b, 3, none⟩ (.slice none 0 0)).setCell ⟨b, 4, none⟩ (.slice A9 lic.length c9)).ownsRow (w.heap.size + 1 + 1) 107 4 (.slice A9 lic.length c9) lic.length (lic.flatMap Pt.enc) from row_far5 (p6.2 A9 c9 rfl) (by decide) hBX (.slice none 0 0) (.slice none 0 0) (.slice A8 up.length c8) (.slice none 0 0) (.slice A9 lic.length c9))
  have HF4 := Lib.hid (hx.five (w0 := ((w.alloc (.cells #[.slice A1 ps.length c1, .slice A2 ns.length c2, .slice A3 up.length c3, .slice A4 pm c4, .slice A5 lic.length c5] 44)).alloc (.cells #[.slice none 0 0, .slice none 0 0, .slice none 0 0, .slice none 0 0, .slice none 0 0] 44))) (b := b) (by simp; omega) (.slice none 0 0) (.slice none 0 0) (.slice A8 up.length c8) (.slice none 0 0) (.slice A9 lic.length c9))
  obtain ⟨t0, t1, t2, t3, t4, tf0, tf1, tf2, tf3, tf4, tl⟩ := gcells5 hBX
  clear hΦ p8 p7 p6 p5 p4 p3 hΦ0 hΦ1 hΦ2 hΦ3 hΦ4 hΦ5 hΦ6 hΦ7 hΦ8 Φ0 Φ1 Φ2 Φ3 Φ4 Φ5 Φ6 Φ7 Φ8 hBX
  go_upto_region 2 with fail
  generalize hwy : (((((wx.setCell ⟨b, 0, none⟩ (.slice none 0 0)).setCell ⟨b, 1, none⟩ (.slice none 0 0)).setCell ⟨b, 2, none⟩ (.slice A8 up.length c8)).setCell ⟨b, 3, none⟩ (.slice none 0 0)).setCell ⟨b, 4, none⟩ (.slice A9 lic.length c9)) = wy at *
  clear hwy t0 t1 t2 t3 t4 tf0 tf1 tf2 tf3 tf4 tl hx
  have y0 := (((Ext.refl _).alloc _).trans HF4.out).cell (cell_box_at w (w.heap.size) (by simp) [.slice A1 ps.length c1, .slice A2 ns.length c2, .slice A3 up.length c3, .slice A4 pm c4, .slice A5 lic.length c5] 44 0 _ rfl)
  have y1 := (((Ext.refl _).alloc _).trans HF4.out).cell (cell_box_at w (w.heap.size) (by simp) [.slice A1 ps.length c1, .slice A2 ns.length c2, .slice A3 up.length c3, .slice A4 pm c4, .slice A5 lic.length c5] 44 1 _ rfl)
  have y2 := (((Ext.refl _).alloc _).trans HF4.out).cell (cell_box_at w (w.heap.size) (by simp) [.slice A1 ps.length c1, .slice A2 ns.length c2, .slice A3 up.length c3, .slice A4 pm c4, .slice A5 lic.length c5] 44 2 _ rfl)
  have y3 := (((Ext.refl _).alloc _).trans HF4.out).cell (cell_box_at w (w.heap.size) (by simp) [.slice A1 ps.length c1, .slice A2 ns.length c2, .slice A3 up.length c3, .slice A4 pm c4, .slice A5 lic.length c5] 44 3 _ rfl)
  have y4 := (((Ext.refl _).alloc _).trans HF4.out).cell (cell_box_at w (w.heap.size) (by simp) [.slice A1 ps.length c1, .slice A2 ns.length c2, .slice A3 up.length c3, .slice A4 pm c4, .slice A5 lic.length c5] 44 4 _ rfl)
  have yf0 := ((((Ext.refl _).alloc _).trans HF4.out).frozenEq (a := ⟨w.heap.size, 0, none⟩) (by simp)).trans (frozen_box_at w (w.heap.size) (by simp) #[.slice A1 ps.length c1, .slice A2 ns.length c2, .slice A3 up.length c3, .slice A4 pm c4, .slice A5 lic.length c5] 44 0)
  have yf1 := ((((Ext.refl _).alloc _).trans HF4.out).frozenEq (a := ⟨w.heap.size, 1, none⟩) (by simp)).trans (frozen_box_at w (w.heap.size) (by simp) #[.slice A1 ps.length c1, .slice A2 ns.length c2, .slice A3 up.length c3, .slice A4 pm c4, .slice A5 lic.length c5] 44 1)
  have yf2 := ((((Ext.refl _).alloc _).trans HF4.out).frozenEq (a := ⟨w.heap.size, 2, none⟩) (by simp)).trans (frozen_box_at w (w.heap.size) (by simp) #[.slice A1 ps.length c1, .slice A2 ns.length c2, .slice A3 up.length c3, .slice A4 pm c4, .slice A5 lic.length c5] 44 2)
  have yf3 := ((((Ext.refl _).alloc _).trans HF4.out).frozenEq (a := ⟨w.heap.size, 3, none⟩) (by simp)).trans (frozen_box_at w (w.heap.size) (by simp) #[.slice A1 ps.length c1, .slice A2 ns.length c2, .slice A3 up.length c3, .slice A4 pm c4, .slice A5 lic.length c5] 44 3)
  have yf4 := ((((Ext.refl _).alloc _).trans HF4.out).frozenEq (a := ⟨w.heap.size, 4, none⟩) (by simp)).trans (frozen_box_at w (w.heap.size) (by simp) #[.slice A1 ps.length c1, .slice A2 ns.length c2, .slice A3 up.length c3, .slice A4 pm c4, .slice A5 lic.length c5] 44 4)
  have hyl := lt_of_cell y0
  have hyb : w.heap.size ≠ b := by omega
  obtain ⟨t0, t1, t2, t3, t4, tf0, tf1, tf2, tf3, tf4, tl⟩ := gcells5 HF1.out
  refine wp_region_grow_tab 12 [(0, gLit), (4, gRow0 (w.heap.size + 1 + 1) 3 1 ps.length (ps.flatMap encInt)), (5, gLit), (9, gRow0 (w.heap.size + 1 + 1) 130 4 ns.length (ns.flatMap Node.enc))] (by kernel_rfl) (by kernel_rfl) (by simp only [List.forall_mem_cons]; exact ⟨gLit_ok, gRow0_ok _ _ _ _ _, gLit_ok, gRow0_ok _ _ _ _ _, fun p hp => by cases hp⟩) ?_
  simp only [List.take, List.drop]
  have HLO2 := Lib.hid (fun (u : World) (hu : Ext wy u) => show (w.heap.size + 1 + 1) ≤ u.heap.size from HLO.out u (HF4.out.trans hu))
  have HXY := Lib.hid (show Ext w wy from (((Ext.refl w).alloc _).alloc _).trans HF4.out)
  refine grow_make _ _ (by rfl) (by rfl) (fun u hu => ?_) ?_
  · go_simp
    exact ⟨(Ext.refl u).alloc _, ⟨_, rfl⟩, trivial⟩
  rintro v0 ⟨q1, rfl⟩ Φ0 hΦ0
  simp only [Act.put, List.setIfInBounds_toArray, List.set_cons_succ, List.set_cons_zero]
  refine grow_constE (by rfl) (by rfl) ?_
  apply Exists.intro
  refine ⟨fun u hu => ?_, ?_⟩
  · (obtain ⟨hcu, hfu, hzu⟩ := hu.rules; go_simp; exact ⟨rfl, rfl⟩)
  intro Φ1 hΦ1
  simp only [Act.put, List.setIfInBounds_toArray, List.set_cons_succ, List.set_cons_zero]
  refine grow_constE (by rfl) (by rfl) ?_
  apply Exists.intro
  refine ⟨fun u hu => ?_, ?_⟩
  · (obtain ⟨hcu, hfu, hzu⟩ := hu.rules; go_simp; exact ⟨rfl, rfl⟩)
  intro Φ2 hΦ2
  simp only [Act.put, List.setIfInBounds_toArray, List.set_cons_succ, List.set_cons_zero]
  refine grow_constE (by rfl) (by rfl) ?_
  apply Exists.intro
  refine ⟨fun u hu => ?_, ?_⟩
  · (obtain ⟨hcu, hfu, hzu⟩ := hu.rules; go_simp; exact ⟨rfl, rfl⟩)
  intro Φ3 hΦ3
  simp only [Act.put, List.setIfInBounds_toArray, List.set_cons_succ, List.set_cons_zero]
  refine grow_make _ _ (by rfl) (by rfl) (fun u hu => ?_) ?_
  · refine grow_append0 (enc := encInt) (ok := In64) _ _ _ (by rfl) 3 i2 _ 1 8 Tryz.underlying22 hi2 hK0 hK1 hK2 rfl (by omega) q1 A1 ps.length c1 ps (by rfl) (by rfl) (HP1.out u (HXY.out.trans hu)) (fun _ => rfl) (by unfold maxLen; omega) (by omega) ?_
    intro A' c' w' hw' ho'
    exact ⟨⟨A', c', rfl⟩, fun A c e => by cases e; exact ho'.base (HLO2.out u hu)⟩
  rintro v4 ⟨A6, c6, rfl⟩ Φ4 hΦ4
  simp only [Act.put, List.setIfInBounds_toArray, List.set_cons_succ, List.set_cons_zero]
  refine grow_make _ _ (by rfl) (by rfl) (fun u hu => ?_) ?_
  · go_simp
    exact ⟨(Ext.refl u).alloc _, ⟨_, rfl⟩, trivial⟩
  rintro v5 ⟨q2, rfl⟩ Φ5 hΦ5
  simp only [Act.put, List.setIfInBounds_toArray, List.set_cons_succ, List.set_cons_zero]
  refine grow_constE (by rfl) (by rfl) ?_
  apply Exists.intro
  refine ⟨fun u hu => ?_, ?_⟩
  · (obtain ⟨hcu, hfu, hzu⟩ := hu.rules; go_simp; exact ⟨rfl, rfl⟩)
  intro Φ6 hΦ6
  simp only [Act.put, List.setIfInBounds_toArray, List.set_cons_succ, List.set_cons_zero]
  refine grow_constE (by rfl) (by rfl) ?_
  apply Exists.intro
  refine ⟨fun u hu => ?_, ?_⟩
  · (obtain ⟨hcu, hfu, hzu⟩ := hu.rules; go_simp; exact ⟨rfl, rfl⟩)
  intro Φ7 hΦ7
  simp only [Act.put, List.setIfInBounds_toArray, List.set_cons_succ, List.set_cons_zero]
  refine grow_constE (by rfl) (by rfl) ?_
  apply Exists.intro
  refine ⟨fun u hu => ?_, ?_⟩
  · (obtain ⟨hcu, hfu, hzu⟩ := hu.rules; go_simp; exact ⟨rfl, rfl⟩)
  intro Φ8 hΦ8
  simp only [Act.put, List.setIfInBounds_toArray, List.set_cons_succ, List.set_cons_zero]
  refine grow_make _ _ (by rfl) (by rfl) (fun u hu => ?_) ?_
  · refine grow_append0 (enc := Node.enc) (ok := Node.ok) _ _ _ (by rfl) 130 i3 _ 4 32 Tryz.underlying36 hi3 hL0 hL1 hL2 rfl (by omega) q2 A2 ns.length c2 ns (by rfl) (by rfl) (HP2.out u (HXY.out.trans hu)) Node.size (by unfold maxLen; omega) (by omega) ?_
    intro A' c' w' hw' ho'
    exact ⟨⟨A', c', rfl⟩, fun A c e => by cases e; exact ho'.base (HLO2.out u hu)⟩
  rintro v9 ⟨A7, c7, rfl⟩ Φ9 hΦ9
  simp only [Act.put, List.setIfInBounds_toArray, List.set_cons_succ, List.set_cons_zero]
  refine grow_constE (by rfl) (by rfl) ?_
  apply Exists.intro
  refine ⟨fun u hu => ?_, ?_⟩
  · (obtain ⟨hcu, hfu, hzu⟩ := hu.rules; go_simp; exact ⟨rfl, rfl⟩)
  intro Φ10 hΦ10
  simp only [Act.put, List.setIfInBounds_toArray, List.set_cons_succ, List.set_cons_zero]
  refine grow_constE (by rfl) (by rfl) ?_
  apply Exists.intro
  refine ⟨fun u hu => ?_, ?_⟩
  · (obtain ⟨hcu, hfu, hzu⟩ := hu.rules; go_simp; exact ⟨rfl, rfl⟩)
  intro Φ11 hΦ11
  simp only [Act.put, List.setIfInBounds_toArray, List.set_cons_succ, List.set_cons_zero]
  refine grow_nil ?_
  intro wz hz hΦ
  have p11 := hΦ11 wz hΦ
  have p10 := hΦ10 wz p11
  have p9 := hΦ9 wz p10
  have p8 := hΦ8 wz p9.1
  have p7 := hΦ7 wz p8
  have p6 := hΦ6 wz p7
  have p5 := hΦ5 wz p6
  have p4 := hΦ4 wz p5.1
  have HBX := Lib.hid (owns_ext HF1.out hz)
  have HLC := Lib.hid (show wz.ownsRow (w.heap.size + 1 + 1) 107 4 (.slice A9 lic.length c9) lic.length (lic.flatMap Pt.enc) from owns_ext HL9.out hz)
  have HR0 := Lib.hid (show RoomS wz (w.heap.size + 1 + 1) ps ns up ([], lic) A6 c6 A7 c7 A8 c8 none 0 A9 c9 from ⟨p4.2 A6 c6 rfl, p9.2 A7 c7 rfl, HF2.out.ext hz, PO.nil _ _, HLC.out, HK.out.1, HK.out.2.1, HK.out.2.2⟩)
  have HFA := Lib.hid ((HR0.out.far HBX.out (p := 0) (u := .slice A6 ps.length c6)).far (HBX.out.stored 0 (.slice A6 ps.length c6)).1 (p := 1) (u := .slice A7 ns.length c7))
  have HFB := Lib.hid ((HBX.out.stored 0 (.slice A6 ps.length c6)).1.stored 1 (.slice A7 ns.length c7)).1
  have HFC := Lib.hid (show Ext ((w.alloc (.cells #[.slice A1 ps.length c1, .slice A2 ns.length c2, .slice A3 up.length c3, .slice A4 pm c4, .slice A5 lic.length c5] 44)).alloc (.cells #[.slice none 0 0, .slice none 0 0, .slice none 0 0, .slice none 0 0, .slice none 0 0] 44)) ((wz.setCell ⟨b, 0, none⟩ (.slice A6 ps.length c6)).setCell ⟨b, 1, none⟩ (.slice A7 ns.length c7)) from ((HF4.out.trans hz).setCell (by simp; omega) _).setCell (by simp; omega) _)
  clear t0 t1 t2 t3 t4 tf0 tf1 tf2 tf3 tf4 tl y0 y1 y2 y3 y4 yf0 yf1 yf2 yf3 yf4 hyl
  have HZ := Lib.hid hz
  have y0 := ((((Ext.refl _).alloc _).trans HF4.out).trans HZ.out).cell (cell_box_at w (w.heap.size) (by simp) [.slice A1 ps.length c1, .slice A2 ns.length c2, .slice A3 up.length c3, .slice A4 pm c4, .slice A5 lic.length c5] 44 0 _ rfl)
  have y1 := ((((Ext.refl _).alloc _).trans HF4.out).trans HZ.out).cell (cell_box_at w (w.heap.size) (by simp) [.slice A1 ps.length c1, .slice A2 ns.length c2, .slice A3 up.length c3, .slice A4 pm c4, .slice A5 lic.length c5] 44 1 _ rfl)
  have y2 := ((((Ext.refl _).alloc _).trans HF4.out).trans HZ.out).cell (cell_box_at w (w.heap.size) (by simp) [.slice A1 ps.length c1, .slice A2 ns.length c2, .slice A3 up.length c3, .slice A4 pm c4, .slice A5 lic.length c5] 44 2 _ rfl)
  have y3 := ((((Ext.refl _).alloc _).trans HF4.out).trans HZ.out).cell (cell_box_at w (w.heap.size) (by simp) [.slice A1 ps.length c1, .slice A2 ns.length c2, .slice A3 up.length c3, .slice A4 pm c4, .slice A5 lic.length c5] 44 3 _ rfl)
  have y4 := ((((Ext.refl _).alloc _).trans HF4.out).trans HZ.out).cell (cell_box_at w (w.heap.size) (by simp) [.slice A1 ps.length c1, .slice A2 ns.length c2, .slice A3 up.length c3, .slice A4 pm c4, .slice A5 lic.length c5] 44 4 _ rfl)
  have yf0 := (((((Ext.refl _).alloc _).trans HF4.out).trans HZ.out).frozenEq (a := ⟨w.heap.size, 0, none⟩) (by simp)).trans (frozen_box_at w (w.heap.size) (by simp) #[.slice A1 ps.length c1, .slice A2 ns.length c2, .slice A3 up.length c3, .slice A4 pm c4, .slice A5 lic.length c5] 44 0)
  have yf1 := (((((Ext.refl _).alloc _).trans HF4.out).trans HZ.out).frozenEq (a := ⟨w.heap.size, 1, none⟩) (by simp)).trans (frozen_box_at w (w.heap.size) (by simp) #[.slice A1 ps.length c1, .slice A2 ns.length c2, .slice A3 up.length c3, .slice A4 pm c4, .slice A5 lic.length c5] 44 1)
  have yf2 := (((((Ext.refl _).alloc _).trans HF4.out).trans HZ.out).frozenEq (a := ⟨w.heap.size, 2, none⟩) (by simp)).trans (frozen_box_at w (w.heap.size) (by simp) #[.slice A1 ps.length c1, .slice A2 ns.length c2, .slice A3 up.length c3, .slice A4 pm c4, .slice A5 lic.length c5] 44 2)
  have yf3 := (((((Ext.refl _).alloc _).trans HF4.out).trans HZ.out).frozenEq (a := ⟨w.heap.size, 3, none⟩) (by simp)).trans (frozen_box_at w (w.heap.size) (by simp) #[.slice A1 ps.length c1, .slice A2 ns.length c2, .slice A3 up.length c3, .slice A4 pm c4, .slice A5 lic.length c5] 44 3)
  have yf4 := (((((Ext.refl _).alloc _).trans HF4.out).trans HZ.out).frozenEq (a := ⟨w.heap.size, 4, none⟩) (by simp)).trans (frozen_box_at w (w.heap.size) (by simp) #[.slice A1 ps.length c1, .slice A2 ns.length c2, .slice A3 up.length c3, .slice A4 pm c4, .slice A5 lic.length c5] 44 4)
  have hyl := lt_of_cell y0
  obtain ⟨t0, t1, t2, t3, t4, tf0, tf1, tf2, tf3, tf4, tl⟩ := gcells5 HBX.out
  clear hΦ p11 p10 p9 p8 p7 p6 p5 p4 hΦ0 hΦ1 hΦ2 hΦ3 hΦ4 hΦ5 hΦ6 hΦ7 hΦ8 hΦ9 hΦ10 hΦ11 Φ0 Φ1 Φ2 Φ3 Φ4 Φ5 Φ6 Φ7 Φ8 Φ9 Φ10 Φ11 hz
  go_wp2
  go_loopw [29] (fun iv wr => ∃ (k : Nat) (A10 : Option Addr) (c10 : Nat), k ≤ pm ∧ iv = .int .i64 k ∧ Hid (RoomS wr (w.heap.size + 1 + 1) ps ns up (pl.take k, lic) A6 c6 A7 c7 A8 c8 A10 c10 A9 c9) ∧ Hid (wr.ownsRow (w.heap.size + 1 + 1) 44 5 (.slice (some ⟨b, 0, none⟩) 1 1) 1 [.slice A6 ps.length c6, .slice A7 ns.length c7, .slice A8 up.length c8, .slice A10 k c10, .slice A9 lic.length c9]) ∧ Ext ((w.alloc (.cells #[.slice A1 ps.length c1, .slice A2 ns.length c2, .slice A3 up.length c3, .slice A4 pm c4, .slice A5 lic.length c5] 44)).alloc (.cells #[.slice none 0 0, .slice none 0 0, .slice none 0 0, .slice none 0 0, .slice none 0 0] 44)) wr) (fun iv _ => pm - (intOf iv).toNat)
  case atStart => exact ⟨0, none, 0, Nat.zero_le _, rfl, HFA, HFB, HFC.out⟩
  case round =>
    clear t0 t1 t2 t3 t4 tf0 tf1 tf2 tf3 tf4 tl HBX HFA HFB HFC HF1 HF2 HF4 HL9 HLC HR0 y0 y1 y2 y3 y4 yf0 yf1 yf2 yf3 yf4 hyl
    obtain ⟨k, A10, c10, hk, rfl, HRO, HBX, hb⟩ := hrel
    by_cases hlt : k < pm
    · obtain ⟨bq, oq, x, cs, rfl, hbw, hx2, _, hc, Aq, cq, rfl, hs⟩ := (H4.out wr ((((Ext.refl w).alloc _).alloc _).trans hb)).at_ hlt
      have g0 := hc 0 _ rfl
      simp only [Nat.mul_one, Nat.add_zero] at g0
      have HX := Lib.hid hx2
      have HXL := Lib.hid (HPI.out x (List.mem_of_getElem? hx2))
      have hxl := HXL.out
      have HXK := Lib.hid hs.all
      have HCP := Lib.hid (fun (u : World) (e : Ext wr u) => l04Prof_c x Aq x.length cq u (hs.ext (Flat.mono _ _) e) (by omega))
      obtain ⟨hpl1, L, hL, hLi⟩ := HRO.out.pro
      have HTK := Lib.hid (show (pl.take k).length = k by rw [List.length_take, HPM.out]; omega)
      have HLL := Lib.hid (show wr.ownsRow (w.heap.size + 1 + 1) 42 1 (.slice A10 k c10) k L by rw [← HTK.out]; exact hL)
      have HLI := Lib.hid hLi
      have t3 := (gcells5 HBX.out).2.2.2.1
      have tl := (HBX.out.lt b rfl).2
      have hbb2 := (HBX.out.lt b rfl).1
      clear hx2 hc hs hpl1 hL hLi
      go_wp2
      go_region_law (first | (go_simp; go_at_call 67; (with_reducible refine (HCP.out _ (by repeat (first | exact Ext.refl _ | apply Ext.alloc | apply Ext.drew))).mono ?_); rintro e w4 ⟨A11, c11, rfl, ho4, hb4⟩; have HE4 := Lib.hid (show Ext wr w4 from Ext.trans (by repeat (first | exact Ext.refl _ | apply Ext.alloc | apply Ext.drew)) hb4); have HO4 := Lib.hid (owns_base ho4 (show (w.heap.size + 1 + 1) ≤ _ from (by simp; omega))); have x4 := HE4.out.cell t3; have hl4 := Nat.lt_of_lt_of_le tl HE4.out.le; clear ho4 hb4) | (refine step_append_r (enc := encS) (ok := fun _ => True) (by rfl) _ _ _ (by rfl) (w.heap.size + 1 + 1) 42 i1 _ 1 24 Tryz.underlying39 hi1 hJ0 hJ1 hJ2 rfl (by omega) (.slice A10 k c10) k L _ 1 1 [(A11, x.length, c11)] (k + 1) rfl (by rfl) (by rfl) (owns_ext HLL.out (HE4.out.alloc _)) (by exact sl_one_r (enc := encS) w4 (A11, x.length, c11) 42 rfl trivial) (fun _ => rfl) encS_one (by unfold maxLen; omega) (by omega) (by simp; omega) ?_; intro A12 c12 w5 hr5; have HB5 := Lib.hid (hr5.other (owns_ext HBX.out (HE4.out.alloc (.cells (encS (A11, x.length, c11)).toArray 42))) (g_apart HBX.out HLL.out (by decide))); have x5 := (gcells5 HB5.out).2.2.2.1; have xf5 := HB5.out.frozenAt 3; have hl5 := (HB5.out.lt b rfl).2))
      all_goals
        have HR5 := Lib.hid hr5
        have HRN := Lib.hid ((HRO.out.ext (HE4.out.alloc (.cells (encS (A11, x.length, c11)).toArray 42))).push HTK.out (owns_ext HLL.out (HE4.out.alloc _)) (fun j p hj => by obtain ⟨Ap, cp, e1, e2, e3⟩ := HLI.out j p hj; exact ⟨Ap, cp, e1, owns_ext e2 (HE4.out.alloc _), e3⟩) HR5.out (by simp [encS]) (owns_ext HO4.out ((Ext.refl w4).alloc _)) HXK.out)
        have HXT := Lib.hid (ext_turned (hb.trans (HE4.out.alloc (.cells (encS (A11, x.length, c11)).toArray 42))) (HR5.out.turned (lo := (w.heap.size + 1 + 1)) (fun q hq => (HLL.out.lt q hq).1)) (by simp))
        clear hr5 x4 t3 tl
        go_wp2
        go_roundw
        case rel => exact ⟨k + 1, A12, c12, by omega, by go_num, Lib.hid (by rw [take_succ HX.out]; exact HRN.out.far HB5.out), Lib.hid (HB5.out.stored 3 _).1, HXT.out.setCell (by simp; omega) _⟩
        case measure => simp [intOf]; omega
    · obtain rfl : k = pm := by omega
      have HPT := Lib.hid (show pl.take k = pl by rw [List.take_of_length_le (by have := HPM.out; omega)])
      rw [HPT.out] at HRO
      obtain ⟨t0, t1, t2, t3, t4, tf0, tf1, tf2, tf3, tf4, tl⟩ := gcells5 HBX.out
      have q0 := (hb).cell (cell_box_at (w.alloc (.cells #[.slice A1 ps.length c1, .slice A2 ns.length c2, .slice A3 up.length c3, .slice A4 k c4, .slice A5 lic.length c5] 44)) (w.heap.size + 1) (by simp) [.slice none 0 0, .slice none 0 0, .slice none 0 0, .slice none 0 0, .slice none 0 0] 44 0 _ rfl)
      have q1 := (hb).cell (cell_box_at (w.alloc (.cells #[.slice A1 ps.length c1, .slice A2 ns.length c2, .slice A3 up.length c3, .slice A4 k c4, .slice A5 lic.length c5] 44)) (w.heap.size + 1) (by simp) [.slice none 0 0, .slice none 0 0, .slice none 0 0, .slice none 0 0, .slice none 0 0] 44 1 _ rfl)
      have q2 := (hb).cell (cell_box_at (w.alloc (.cells #[.slice A1 ps.length c1, .slice A2 ns.length c2, .slice A3 up.length c3, .slice A4 k c4, .slice A5 lic.length c5] 44)) (w.heap.size + 1) (by simp) [.slice none 0 0, .slice none 0 0, .slice none 0 0, .slice none 0 0, .slice none 0 0] 44 2 _ rfl)
      have q3 := (hb).cell (cell_box_at (w.alloc (.cells #[.slice A1 ps.length c1, .slice A2 ns.length c2, .slice A3 up.length c3, .slice A4 k c4, .slice A5 lic.length c5] 44)) (w.heap.size + 1) (by simp) [.slice none 0 0, .slice none 0 0, .slice none 0 0, .slice none 0 0, .slice none 0 0] 44 3 _ rfl)
      have q4 := (hb).cell (cell_box_at (w.alloc (.cells #[.slice A1 ps.length c1, .slice A2 ns.length c2, .slice A3 up.length c3, .slice A4 k c4, .slice A5 lic.length c5] 44)) (w.heap.size + 1) (by simp) [.slice none 0 0, .slice none 0 0, .slice none 0 0, .slice none 0 0, .slice none 0 0] 44 4 _ rfl)
      have qf0 := ((hb).frozenEq (a := ⟨w.heap.size + 1, 0, none⟩) (by simp)).trans (frozen_box_at (w.alloc (.cells #[.slice A1 ps.length c1, .slice A2 ns.length c2, .slice A3 up.length c3, .slice A4 k c4, .slice A5 lic.length c5] 44)) (w.heap.size + 1) (by simp) #[.slice none 0 0, .slice none 0 0, .slice none 0 0, .slice none 0 0, .slice none 0 0] 44 0)
      have qf1 := ((hb).frozenEq (a := ⟨w.heap.size + 1, 1, none⟩) (by simp)).trans (frozen_box_at (w.alloc (.cells #[.slice A1 ps.length c1, .slice A2 ns.length c2, .slice A3 up.length c3, .slice A4 k c4, .slice A5 lic.length c5] 44)) (w.heap.size + 1) (by simp) #[.slice none 0 0, .slice none 0 0, .slice none 0 0, .slice none 0 0, .slice none 0 0] 44 1)
      have qf2 := ((hb).frozenEq (a := ⟨w.heap.size + 1, 2, none⟩) (by simp)).trans (frozen_box_at (w.alloc (.cells #[.slice A1 ps.length c1, .slice A2 ns.length c2, .slice A3 up.length c3, .slice A4 k c4, .slice A5 lic.length c5] 44)) (w.heap.size + 1) (by simp) #[.slice none 0 0, .slice none 0 0, .slice none 0 0, .slice none 0 0, .slice none 0 0] 44 2)
      have qf3 := ((hb).frozenEq (a := ⟨w.heap.size + 1, 3, none⟩) (by simp)).trans (frozen_box_at (w.alloc (.cells #[.slice A1 ps.length c1, .slice A2 ns.length c2, .slice A3 up.length c3, .slice A4 k c4, .slice A5 lic.length c5] 44)) (w.heap.size + 1) (by simp) #[.slice none 0 0, .slice none 0 0, .slice none 0 0, .slice none 0 0, .slice none 0 0] 44 3)
      have qf4 := ((hb).frozenEq (a := ⟨w.heap.size + 1, 4, none⟩) (by simp)).trans (frozen_box_at (w.alloc (.cells #[.slice A1 ps.length c1, .slice A2 ns.length c2, .slice A3 up.length c3, .slice A4 k c4, .slice A5 lic.length c5] 44)) (w.heap.size + 1) (by simp) #[.slice none 0 0, .slice none 0 0, .slice none 0 0, .slice none 0 0, .slice none 0 0] 44 4)
      have hql := lt_of_cell q0
      have hqb : w.heap.size + 1 ≠ b := by omega
      have HRB := Lib.hid (((((HRO.out.low (b := w.heap.size + 1) (p := 0) (u := .slice A6 ps.length c6) (by omega)).low (b := w.heap.size + 1) (p := 1) (u := .slice A7 ns.length c7) (by omega)).low (b := w.heap.size + 1) (p := 2) (u := .slice A8 up.length c8) (by omega)).low (b := w.heap.size + 1) (p := 3) (u := .slice A10 k c10) (by omega)).low (b := w.heap.size + 1) (p := 4) (u := .slice A9 lic.length c9) (by omega))
      have hxx : Ext w wr := (((Ext.refl w).alloc _).alloc _).trans hb
      clear HRO hb
      go_wp2
      exact bodyPost_ret (v := .agg #[.slice A6 ps.length c6, .slice A7 ns.length c7, .slice A8 up.length c8, .slice A10 k c10, .slice A9 lic.length c9]) (by simp [results, Tryz.results27, go_sem, *]) rfl ⟨A6, c6, A7, c7, A8, c8, A10, c10, A9, c9, by rw [HPM.out], HRB.out.base (by omega), (by repeat (first | exact Ext.refl _ | assumption | apply Ext.alloc | apply Ext.drewN | apply Ext.drew | (refine Ext.setCell ?_ (by first | (simp; done) | (simp; omega) | omega) _) | (refine Ext.trans ?_ (by assumption))))⟩
end Go.Proofs.YtgmlcohffdeplaaGreat
/-! SDiff -/
namespace Go.Proofs.YtgmlcohffdeplaaGreat
open Go.RowKit
set_option linter.unusedVariables false
set_option maxHeartbeats 8000000 in
set_option maxRecDepth 8000 in
theorem l04Diff_c (ps : List Int) (ns : List Node) (up : List Bool) (pl : List (List Pt)) (lic : List Pt) (j : Job) (xs : List Int) (D : Option Addr) (q f : Nat) (v : Value) (w : World) (h : RoomAt w ps ns up (pl, lic) v) (ht : topoB ps ns = true) (hu : up.length = ns.length) (hr : roomOkM ns.length (pl, lic)) (h3 : SlAt RInt 1 w D q xs) (hl3 : q ≤ maxLen) (hcap : q ≤ f) : Calls Tryz.prog 134 #[v, .agg #[.int .i64 j.Id, .int .i64 j.Prio, .int .i64 j.Nodes, .int .i64 j.Need.A, .int .i64 j.Need.B, .int .i64 j.Need.C, .int .i64 j.Lic.A, .int .i64 j.Lic.B, .int .i64 j.Lic.C, .int .i64 j.Wall, .int .i64 j.Level], .slice D q f] w (Ret w (.bool (jobB j && jobNodesB ns.length j xs))) := by
  have hl3' := hl3
  unfold maxLen at hl3
  obtain ⟨⟨_, hp1⟩, hn1, _⟩ := topo_parts ht
  have hM := Flat.mono encInt In64
  have HRO := Lib.hid (fun (u : World) (e : Ext w u) => sRoomOk_c ps ns up (pl, lic) v u (h.ext e) ht hu hr)
  have HJO := Lib.hid (fun (u : World) => sJobOk_c j u)
  obtain ⟨A1, c1, A2, c2, A3, c3, A4, c4, A5, c5, rfl, h1, h2, _, _, _⟩ := h
  have HNO := Lib.hid (fun (u : World) (e : Ext w u) => l02Nodes_c ps ns xs A1 ps.length c1 A2 ns.length c2 D q f u (h1.ext hM e) (by unfold maxLen; omega) (h2.ext (Flat.mono _ _) e) (by unfold maxLen; omega) (h3.ext hM e) hl3')
  rw [ht, Bool.and_true] at HNO
  have HC := Lib.hid (fun (u : World) (e : Ext w u) (k : Nat) (x : Int) (hk : k ≤ q) => l02Has_c (xs.take k) x D k f u ((h3.ext hM e).cutk hk) (by omega))
  have H3 := Lib.hid (fun (u : World) (e : Ext w u) => h3.ext hM e)
  have HJ := Lib.hid (show (jobB j && jobNodesB ns.length j xs) = (jobB j && (distGo [] xs && (nodesB ns.length xs && decide (((q : Nat) : Int) = j.Nodes)))) by unfold jobNodesB; rw [Bool.and_assoc (distGo [] xs), h3.len]; rfl)
  have HN := Lib.hid h3.len
  clear h1 h2 h3 ht hp1 hn1 hr hu
  generalize (jobB j && jobNodesB ns.length j xs) = R at *
  generalize hd0 : distGo [] xs = dg at *
  generalize nodesB ns.length xs = nb at *
  simp only [] at HRO ⊢
  rcases (Bool.eq_false_or_eq_true (jobB j)).symm with q1 | q1
  all_goals rw [q1] at HJO HJ
  · have HF := Lib.hid (show R = false by rw [HJ.out]; rfl)
    clear q1
    go_enter Tryz.func134, Tryz.ntmps134
    go_wp2_with fail
    refine (HRO.out _ (by repeat (first | exact Ext.refl _ | assumption | apply Ext.alloc | apply Ext.drewN | apply Ext.drew | (refine Ext.setCell ?_ (by first | (simp; done) | (simp; omega) | omega) _) | (refine Ext.trans ?_ (by assumption))))).mono ?_
    rintro e w1 ⟨rfl, hb1⟩
    obtain ⟨hcr1, hfr1, hz1⟩ := hb1.rules
    (try simp at hz1)
    have hy1_w0 : w.heap.size < w1.heap.size := (by omega)
    have hy1_w1 : w.heap.size + 1 < w1.heap.size := (by omega)
    go_wp2_with fail
    refine (HJO.out _).mono ?_
    rintro e w2 ⟨rfl, hb2⟩
    obtain ⟨hcr2, hfr2, hz2⟩ := hb2.rules
    (try simp at hz2)
    have hy2_w0 : w.heap.size < w2.heap.size := (by omega)
    have hy2_w1 : w.heap.size + 1 < w2.heap.size := (by omega)
    go_wp2
    exact ret_bool rfl rfl rfl (by rw [HF.out]) ((((Ext.refl w).alloc _).alloc _).trans (hb1.trans hb2))
  by_cases hlen : ((q : Nat) : Int) = j.Nodes
  rotate_left
  · have HF := Lib.hid (show R = false by rw [HJ.out, decide_eq_false hlen]; simp)
    clear q1
    go_enter Tryz.func134, Tryz.ntmps134
    go_wp2_with fail
    refine (HRO.out _ (by repeat (first | exact Ext.refl _ | assumption | apply Ext.alloc | apply Ext.drewN | apply Ext.drew | (refine Ext.setCell ?_ (by first | (simp; done) | (simp; omega) | omega) _) | (refine Ext.trans ?_ (by assumption))))).mono ?_
    rintro e w1 ⟨rfl, hb1⟩
    obtain ⟨hcr1, hfr1, hz1⟩ := hb1.rules
    (try simp at hz1)
    have hy1_w0 : w.heap.size < w1.heap.size := (by omega)
    have hy1_w1 : w.heap.size + 1 < w1.heap.size := (by omega)
    go_wp2_with fail
    refine (HJO.out _).mono ?_
    rintro e w2 ⟨rfl, hb2⟩
    obtain ⟨hcr2, hfr2, hz2⟩ := hb2.rules
    (try simp at hz2)
    have hy2_w0 : w.heap.size < w2.heap.size := (by omega)
    have hy2_w1 : w.heap.size + 1 < w2.heap.size := (by omega)
    have j2 := (hb1.trans hb2).cell (cell_box_at (w.alloc (.cells #[.slice A1 ps.length c1, .slice A2 ns.length c2, .slice A3 up.length c3, .slice A4 pl.length c4, .slice A5 lic.length c5] 44)) (w.heap.size + 1) (by simp) [.int .i64 j.Id, .int .i64 j.Prio, .int .i64 j.Nodes, .int .i64 j.Need.A, .int .i64 j.Need.B, .int .i64 j.Need.C, .int .i64 j.Lic.A, .int .i64 j.Lic.B, .int .i64 j.Lic.C, .int .i64 j.Wall, .int .i64 j.Level] 146 2 _ rfl)
    go_wp2
    exact ret_bool rfl rfl rfl (by rw [HF.out]) ((((Ext.refl w).alloc _).alloc _).trans (hb1.trans hb2))
  · rw [decide_eq_true hlen] at HJ
    obtain ⟨jid, jpr, jnd, jne, jli, jwa, jle⟩ := j
    dsimp only at hlen HJO HJ q1 ⊢
    subst hlen
    rcases nb with _ | _
    · have HF := Lib.hid (show R = false by rw [HJ.out]; simp)
      clear q1
      go_enter Tryz.func134, Tryz.ntmps134
      go_wp2_with fail
      refine (HRO.out _ (by repeat (first | exact Ext.refl _ | assumption | apply Ext.alloc | apply Ext.drewN | apply Ext.drew | (refine Ext.setCell ?_ (by first | (simp; done) | (simp; omega) | omega) _) | (refine Ext.trans ?_ (by assumption))))).mono ?_
      rintro e w1 ⟨rfl, hb1⟩
      obtain ⟨hcr1, hfr1, hz1⟩ := hb1.rules
      (try simp at hz1)
      have hy1_w0 : w.heap.size < w1.heap.size := (by omega)
      have hy1_w1 : w.heap.size + 1 < w1.heap.size := (by omega)
      go_wp2_with fail
      refine (HJO.out _).mono ?_
      rintro e w2 ⟨rfl, hb2⟩
      obtain ⟨hcr2, hfr2, hz2⟩ := hb2.rules
      (try simp at hz2)
      have hy2_w0 : w.heap.size < w2.heap.size := (by omega)
      have hy2_w1 : w.heap.size + 1 < w2.heap.size := (by omega)
      go_wp2_with fail
      refine (HNO.out _ (((((Ext.refl w).alloc _).alloc _).trans hb1).trans hb2)).mono ?_
      rintro e w3 ⟨rfl, hb3⟩
      obtain ⟨hcr3, hfr3, hz3⟩ := hb3.rules
      (try simp at hz3)
      have hy3_w0 : w.heap.size < w3.heap.size := (by omega)
      have hy3_w1 : w.heap.size + 1 < w3.heap.size := (by omega)
      go_wp2
      exact ret_bool rfl rfl rfl (by rw [HF.out]) ((((Ext.refl w).alloc _).alloc _).trans (hb1.trans (hb2.trans hb3)))
    · have HRD := Lib.hid (show R = dg by rw [HJ.out]; simp)
      clear q1
      go_enter Tryz.func134, Tryz.ntmps134
      go_wp2_with fail
      refine (HRO.out _ (by repeat (first | exact Ext.refl _ | assumption | apply Ext.alloc | apply Ext.drewN | apply Ext.drew | (refine Ext.setCell ?_ (by first | (simp; done) | (simp; omega) | omega) _) | (refine Ext.trans ?_ (by assumption))))).mono ?_
      rintro e w1 ⟨rfl, hb1⟩
      obtain ⟨hcr1, hfr1, hz1⟩ := hb1.rules
      (try simp at hz1)
      have hy1_w0 : w.heap.size < w1.heap.size := (by omega)
      have hy1_w1 : w.heap.size + 1 < w1.heap.size := (by omega)
      go_wp2_with fail
      refine (HJO.out _).mono ?_
      rintro e w2 ⟨rfl, hb2⟩
      obtain ⟨hcr2, hfr2, hz2⟩ := hb2.rules
      (try simp at hz2)
      have hy2_w0 : w.heap.size < w2.heap.size := (by omega)
      have hy2_w1 : w.heap.size + 1 < w2.heap.size := (by omega)
      go_wp2_with fail
      refine (HNO.out _ (((((Ext.refl w).alloc _).alloc _).trans hb1).trans hb2)).mono ?_
      rintro e w3 ⟨rfl, hb3⟩
      obtain ⟨hcr3, hfr3, hz3⟩ := hb3.rules
      (try simp at hz3)
      have hy3_w0 : w.heap.size < w3.heap.size := (by omega)
      have hy3_w1 : w.heap.size + 1 < w3.heap.size := (by omega)
      have HX3 := Lib.hid ((((Ext.refl w).alloc _).alloc _).trans (hb1.trans (hb2.trans hb3)))
      clear hcr1 hfr1 hcr2 hfr2 hcr3 hfr3 hb1 hb2 hb3
      go_wp2
      go_loopw [33] (fun iv wr => ∃ k : Nat, k ≤ q ∧ iv = .int .i64 k ∧ Hid (dg = distGo (xs.take k) (xs.drop k)) ∧ Ext w wr) (fun iv _ => q - (intOf iv).toNat)
      case atStart => exact ⟨0, Nat.zero_le _, rfl, Lib.hid hd0.symm, HX3.out⟩
      case round =>
        clear hd0 HX3
        obtain ⟨k, hk, rfl, HE, hb⟩ := hrel
        by_cases hlt : k < q
        · obtain ⟨b, o, x, cs, rfl, hbw, hx, _, hc, rfl, hok⟩ := (H3.out wr hb).at_ hlt
          have g0 := hc 0 _ rfl
          simp only [Nat.mul_one, Nat.add_zero] at g0
          have HS := Lib.hid (dist_step hx)
          have hkf : k ≤ f := by omega
          clear hx hc hok
          go_wp2_with fail
          refine (HC.out _ hb k x (by omega)).mono ?_
          rintro e w4 ⟨rfl, hb4⟩
          generalize (xs.take k).contains x = ct at *
          rcases ct with _ | _
          · go_wp2
            go_roundw
            case rel => exact ⟨k + 1, by omega, by go_num, Lib.hid (by rw [HE.out, HS.out]; rfl), hb.trans hb4⟩
            case measure => simp [intOf]; omega
          · go_wp2
            refine ret_bool rfl rfl rfl ?_ (hb.trans hb4)
            rw [HRD.out, HE.out, HS.out]; rfl
        · have HZ := Lib.hid (show dg = true by rw [HE.out, List.drop_eq_nil_of_le (by have := HN.out; omega)]; rfl)
          go_wp2
          exact ret_bool rfl rfl rfl (by rw [HRD.out, HZ.out]) hb
end Go.Proofs.YtgmlcohffdeplaaGreat
/-! SRes -/
namespace Go.Proofs.YtgmlcohffdeplaaGreat
open Go.RowKit
set_option linter.unusedVariables false
/-- A room or none is handed back, with a word that says which (RoomS). -/
def RetRoomSB (w : World) (ps : List Int) (ns : List Node) (up : List Bool) (R : Option (List (List Pt) × List Pt)) : Ending → World → Prop := fun e w' => ∃ A1 n1 c1 A2 n2 c2 A3 n3 c3 A4 n4 c4 A5 n5 c5, e = .returned (.tuple #[.agg #[.slice A1 n1 c1, .slice A2 n2 c2, .slice A3 n3 c3, .slice A4 n4 c4, .slice A5 n5 c5], .bool R.isSome]) ∧ (∀ r, R = some r → n1 = ps.length ∧ n2 = ns.length ∧ n3 = up.length ∧ n4 = r.1.length ∧ n5 = r.2.length ∧ RoomS w' w.heap.size ps ns up r A1 c1 A2 c2 A3 c3 A4 c4 A5 c5) ∧ Ext w w'
theorem retRoomS_none {w w' : World} {ps : List Int} {ns : List Node} {up : List Bool} {R : Option (List (List Pt) × List Pt)} (h : R = none) (hb : Ext w w') : RetRoomSB w ps ns up R (.returned (.tuple #[.agg #[.slice none 0 0, .slice none 0 0, .slice none 0 0, .slice none 0 0, .slice none 0 0], .bool false])) w' := by
  subst h
  exact ⟨none, 0, 0, none, 0, 0, none, 0, 0, none, 0, 0, none, 0, 0, rfl, (fun r hr => by cases hr), hb⟩
/-- As RetRoomSB; where none is handed back it is all empty. -/
def RetRoomSZ (w : World) (ps : List Int) (ns : List Node) (up : List Bool) (R : Option (List (List Pt) × List Pt)) : Ending → World → Prop := fun e w' => ∃ A1 n1 c1 A2 n2 c2 A3 n3 c3 A4 n4 c4 A5 n5 c5, e = .returned (.tuple #[.agg #[.slice A1 n1 c1, .slice A2 n2 c2, .slice A3 n3 c3, .slice A4 n4 c4, .slice A5 n5 c5], .bool R.isSome]) ∧ (∀ r, R = some r → n1 = ps.length ∧ n2 = ns.length ∧ n3 = up.length ∧ n4 = r.1.length ∧ n5 = r.2.length ∧ RoomS w' w.heap.size ps ns up r A1 c1 A2 c2 A3 c3 A4 c4 A5 c5) ∧ (R = none → (A1 = none ∧ n1 = 0 ∧ c1 = 0) ∧ (A2 = none ∧ n2 = 0 ∧ c2 = 0) ∧ (A3 = none ∧ n3 = 0 ∧ c3 = 0) ∧ (A4 = none ∧ n4 = 0 ∧ c4 = 0) ∧ A5 = none ∧ n5 = 0 ∧ c5 = 0) ∧ Ext w w'
theorem retRoomZ_none {w w' : World} {ps : List Int} {ns : List Node} {up : List Bool} {R : Option (List (List Pt) × List Pt)} (h : R = none) (hb : Ext w w') : RetRoomSZ w ps ns up R (.returned (.tuple #[.agg #[.slice none 0 0, .slice none 0 0, .slice none 0 0, .slice none 0 0, .slice none 0 0], .bool false])) w' := by
  subst h
  exact ⟨none, 0, 0, none, 0, 0, none, 0, 0, none, 0, 0, none, 0, 0, rfl, (fun r hr => by cases hr), (fun _ => ⟨⟨rfl, rfl, rfl⟩, ⟨rfl, rfl, rfl⟩, ⟨rfl, rfl, rfl⟩, ⟨rfl, rfl, rfl⟩, rfl, rfl, rfl⟩), hb⟩
set_option maxHeartbeats 16000000 in
set_option maxRecDepth 10000 in
theorem sReserveZ_c (ps : List Int) (ns : List Node) (up : List Bool) (pl : List (List Pt)) (lic : List Pt) (j : Job) (fr : Int) (nodes : List Int) (A : Option Addr) (n c : Nat) (v : Value) (w : World) (h : RoomAt w ps ns up (pl, lic) v) (ht : topoB ps ns = true) (hu : up.length = ns.length) (hr : roomOkM ns.length (pl, lic)) (h3 : SlAt RInt 1 w A n nodes) (hl3 : n ≤ maxLen) (hcap : n ≤ c) (hfr : In64 fr) : Calls Tryz.prog 113 #[v, .agg #[.int .i64 j.Id, .int .i64 j.Prio, .int .i64 j.Nodes, .int .i64 j.Need.A, .int .i64 j.Need.B, .int .i64 j.Need.C, .int .i64 j.Lic.A, .int .i64 j.Lic.B, .int .i64 j.Lic.C, .int .i64 j.Wall, .int .i64 j.Level], .int .i64 fr, .slice A n c] w (RetRoomSZ w ps ns up (if (jobB j && jobNodesB ns.length j nodes && timeB fr) = true then moveM fr (fr + j.Wall) j nodes (pl, lic) else none)) := by
  obtain ⟨⟨_, hp1⟩, hn1, _⟩ := topo_parts ht
  have hM := Flat.mono encInt In64
  have hpl := hr.1
  simp only [] at hpl
  have HDF := Lib.hid (fun (u : World) (e : Ext w u) => l04Diff_c ps ns up pl lic j nodes A n c v u (h.ext e) ht hu hr (h3.ext hM e) hl3 hcap)
  have HTI := Lib.hid (fun u : World => sTime_c fr u)
  have HCP := Lib.hid (fun (u : World) (e : Ext w u) => l04Copy_c ps ns up pl lic v u (h.ext e) hp1 hn1 (by omega) (by omega) (fun p hp => (profB_parts (hr.2.1 p hp)).2.1) (profB_parts hr.2.2).2.1)
  have HH := Lib.hid h
  obtain ⟨A1, c1, A2, c2, A3, c3, A4, c4, A5, c5, rfl, _, _, _, _, _⟩ := h
  have H3 := Lib.hid (fun (u : World) (e : Ext w u) => h3.ext hM e)
  have HNL := Lib.hid h3.len
  have HR := Lib.hid hr
  have HNI := Lib.hid (fun (hh : (jobB j && jobNodesB ns.length j nodes) = true) => show nodesIn ns.length nodes = true from by
    unfold jobNodesB at hh
    simp only [Bool.and_eq_true] at hh
    exact hh.2.1.2)
  have HJW := Lib.hid (fun (hh : (jobB j && jobNodesB ns.length j nodes) = true) => show jobB j = true from by
    rw [Bool.and_eq_true] at hh; exact hh.1)
  have hl3' := hl3
  unfold maxLen at hl3
  have HPLN := Lib.hid hpl
  clear h3 hr ht hpl hu
  rcases (Bool.eq_false_or_eq_true (jobB j && jobNodesB ns.length j nodes)).symm with hj | hj
  all_goals rw [hj] at HDF ⊢
  · go_enter Tryz.func113, Tryz.ntmps113
    go_wp2_with fail
    refine (HDF.out _ (by repeat (first | exact Ext.refl _ | assumption | apply Ext.alloc | apply Ext.drewN | apply Ext.drew | (refine Ext.setCell ?_ (by first | (simp; done) | (simp; omega) | omega) _) | (refine Ext.trans ?_ (by assumption))))).mono ?_
    rintro e w1 ⟨rfl, hb1⟩
    obtain ⟨hcr1, hfr1, hz1⟩ := hb1.rules
    (try simp at hz1)
    have hy1_w0 : w.heap.size < w1.heap.size := (by omega)
    have hy1_w1 : w.heap.size + 1 < w1.heap.size := (by omega)
    have hy1_w2 : w.heap.size + 1 + 1 < w1.heap.size := (by omega)
    have q0 := (hb1).cell (cell_box_at ((w.alloc (.cells #[.slice A1 ps.length c1, .slice A2 ns.length c2, .slice A3 up.length c3, .slice A4 pl.length c4, .slice A5 lic.length c5] 44)).alloc (.cells #[.int .i64 j.Id, .int .i64 j.Prio, .int .i64 j.Nodes, .int .i64 j.Need.A, .int .i64 j.Need.B, .int .i64 j.Need.C, .int .i64 j.Lic.A, .int .i64 j.Lic.B, .int .i64 j.Lic.C, .int .i64 j.Wall, .int .i64 j.Level] 146)) (w.heap.size + 1 + 1) (by simp) [.slice none 0 0, .slice none 0 0, .slice none 0 0, .slice none 0 0, .slice none 0 0] 44 0 _ rfl)
    have q1 := (hb1).cell (cell_box_at ((w.alloc (.cells #[.slice A1 ps.length c1, .slice A2 ns.length c2, .slice A3 up.length c3, .slice A4 pl.length c4, .slice A5 lic.length c5] 44)).alloc (.cells #[.int .i64 j.Id, .int .i64 j.Prio, .int .i64 j.Nodes, .int .i64 j.Need.A, .int .i64 j.Need.B, .int .i64 j.Need.C, .int .i64 j.Lic.A, .int .i64 j.Lic.B, .int .i64 j.Lic.C, .int .i64 j.Wall, .int .i64 j.Level] 146)) (w.heap.size + 1 + 1) (by simp) [.slice none 0 0, .slice none 0 0, .slice none 0 0, .slice none 0 0, .slice none 0 0] 44 1 _ rfl)
    have q2 := (hb1).cell (cell_box_at ((w.alloc (.cells #[.slice A1 ps.length c1, .slice A2 ns.length c2, .slice A3 up.length c3, .slice A4 pl.length c4, .slice A5 lic.length c5] 44)).alloc (.cells #[.int .i64 j.Id, .int .i64 j.Prio, .int .i64 j.Nodes, .int .i64 j.Need.A, .int .i64 j.Need.B, .int .i64 j.Need.C, .int .i64 j.Lic.A, .int .i64 j.Lic.B, .int .i64 j.Lic.C, .int .i64 j.Wall, .int .i64 j.Level] 146)) (w.heap.size + 1 + 1) (by simp) [.slice none 0 0, .slice none 0 0, .slice none 0 0, .slice none 0 0, .slice none 0 0] 44 2 _ rfl)
    have q3 := (hb1).cell (cell_box_at ((w.alloc (.cells #[.slice A1 ps.length c1, .slice A2 ns.length c2, .slice A3 up.length c3, .slice A4 pl.length c4, .slice A5 lic.length c5] 44)).alloc (.cells #[.int .i64 j.Id, .int .i64 j.Prio, .int .i64 j.Nodes, .int .i64 j.Need.A, .int .i64 j.Need.B, .int .i64 j.Need.C, .int .i64 j.Lic.A, .int .i64 j.Lic.B, .int .i64 j.Lic.C, .int .i64 j.Wall, .int .i64 j.Level] 146)) (w.heap.size + 1 + 1) (by simp) [.slice none 0 0, .slice none 0 0, .slice none 0 0, .slice none 0 0, .slice none 0 0] 44 3 _ rfl)
    have q4 := (hb1).cell (cell_box_at ((w.alloc (.cells #[.slice A1 ps.length c1, .slice A2 ns.length c2, .slice A3 up.length c3, .slice A4 pl.length c4, .slice A5 lic.length c5] 44)).alloc (.cells #[.int .i64 j.Id, .int .i64 j.Prio, .int .i64 j.Nodes, .int .i64 j.Need.A, .int .i64 j.Need.B, .int .i64 j.Need.C, .int .i64 j.Lic.A, .int .i64 j.Lic.B, .int .i64 j.Lic.C, .int .i64 j.Wall, .int .i64 j.Level] 146)) (w.heap.size + 1 + 1) (by simp) [.slice none 0 0, .slice none 0 0, .slice none 0 0, .slice none 0 0, .slice none 0 0] 44 4 _ rfl)
    have qf0 := ((hb1).frozenEq (a := ⟨w.heap.size + 1 + 1, 0, none⟩) (by simp)).trans (frozen_box_at ((w.alloc (.cells #[.slice A1 ps.length c1, .slice A2 ns.length c2, .slice A3 up.length c3, .slice A4 pl.length c4, .slice A5 lic.length c5] 44)).alloc (.cells #[.int .i64 j.Id, .int .i64 j.Prio, .int .i64 j.Nodes, .int .i64 j.Need.A, .int .i64 j.Need.B, .int .i64 j.Need.C, .int .i64 j.Lic.A, .int .i64 j.Lic.B, .int .i64 j.Lic.C, .int .i64 j.Wall, .int .i64 j.Level] 146)) (w.heap.size + 1 + 1) (by simp) #[.slice none 0 0, .slice none 0 0, .slice none 0 0, .slice none 0 0, .slice none 0 0] 44 0)
    have qf1 := ((hb1).frozenEq (a := ⟨w.heap.size + 1 + 1, 1, none⟩) (by simp)).trans (frozen_box_at ((w.alloc (.cells #[.slice A1 ps.length c1, .slice A2 ns.length c2, .slice A3 up.length c3, .slice A4 pl.length c4, .slice A5 lic.length c5] 44)).alloc (.cells #[.int .i64 j.Id, .int .i64 j.Prio, .int .i64 j.Nodes, .int .i64 j.Need.A, .int .i64 j.Need.B, .int .i64 j.Need.C, .int .i64 j.Lic.A, .int .i64 j.Lic.B, .int .i64 j.Lic.C, .int .i64 j.Wall, .int .i64 j.Level] 146)) (w.heap.size + 1 + 1) (by simp) #[.slice none 0 0, .slice none 0 0, .slice none 0 0, .slice none 0 0, .slice none 0 0] 44 1)
    have qf2 := ((hb1).frozenEq (a := ⟨w.heap.size + 1 + 1, 2, none⟩) (by simp)).trans (frozen_box_at ((w.alloc (.cells #[.slice A1 ps.length c1, .slice A2 ns.length c2, .slice A3 up.length c3, .slice A4 pl.length c4, .slice A5 lic.length c5] 44)).alloc (.cells #[.int .i64 j.Id, .int .i64 j.Prio, .int .i64 j.Nodes, .int .i64 j.Need.A, .int .i64 j.Need.B, .int .i64 j.Need.C, .int .i64 j.Lic.A, .int .i64 j.Lic.B, .int .i64 j.Lic.C, .int .i64 j.Wall, .int .i64 j.Level] 146)) (w.heap.size + 1 + 1) (by simp) #[.slice none 0 0, .slice none 0 0, .slice none 0 0, .slice none 0 0, .slice none 0 0] 44 2)
    have qf3 := ((hb1).frozenEq (a := ⟨w.heap.size + 1 + 1, 3, none⟩) (by simp)).trans (frozen_box_at ((w.alloc (.cells #[.slice A1 ps.length c1, .slice A2 ns.length c2, .slice A3 up.length c3, .slice A4 pl.length c4, .slice A5 lic.length c5] 44)).alloc (.cells #[.int .i64 j.Id, .int .i64 j.Prio, .int .i64 j.Nodes, .int .i64 j.Need.A, .int .i64 j.Need.B, .int .i64 j.Need.C, .int .i64 j.Lic.A, .int .i64 j.Lic.B, .int .i64 j.Lic.C, .int .i64 j.Wall, .int .i64 j.Level] 146)) (w.heap.size + 1 + 1) (by simp) #[.slice none 0 0, .slice none 0 0, .slice none 0 0, .slice none 0 0, .slice none 0 0] 44 3)
    have qf4 := ((hb1).frozenEq (a := ⟨w.heap.size + 1 + 1, 4, none⟩) (by simp)).trans (frozen_box_at ((w.alloc (.cells #[.slice A1 ps.length c1, .slice A2 ns.length c2, .slice A3 up.length c3, .slice A4 pl.length c4, .slice A5 lic.length c5] 44)).alloc (.cells #[.int .i64 j.Id, .int .i64 j.Prio, .int .i64 j.Nodes, .int .i64 j.Need.A, .int .i64 j.Need.B, .int .i64 j.Need.C, .int .i64 j.Lic.A, .int .i64 j.Lic.B, .int .i64 j.Lic.C, .int .i64 j.Wall, .int .i64 j.Level] 146)) (w.heap.size + 1 + 1) (by simp) #[.slice none 0 0, .slice none 0 0, .slice none 0 0, .slice none 0 0, .slice none 0 0] 44 4)
    have hql := lt_of_cell q0
    have HXF := Lib.hid (((((Ext.refl w).alloc _).alloc _).alloc _).trans hb1)
    clear HDF HTI HCP HH H3 HNL HR HNI HJW HPLN hcr1 hfr1 hb1
    go_wp2
    exact bodyPost_ret (v := .tuple #[.agg #[.slice none 0 0, .slice none 0 0, .slice none 0 0, .slice none 0 0, .slice none 0 0], .bool false]) (by simp [results, Tryz.results113, go_sem, *]) rfl (retRoomZ_none rfl (HXF.out.five (by omega) _ _ _ _ _))
  rcases (Bool.eq_false_or_eq_true (timeB fr)).symm with hn | hn
  all_goals rw [hn] at HTI ⊢
  · go_enter Tryz.func113, Tryz.ntmps113
    go_wp2_with fail
    refine (HDF.out _ (by repeat (first | exact Ext.refl _ | assumption | apply Ext.alloc | apply Ext.drewN | apply Ext.drew | (refine Ext.setCell ?_ (by first | (simp; done) | (simp; omega) | omega) _) | (refine Ext.trans ?_ (by assumption))))).mono ?_
    rintro e w1 ⟨rfl, hb1⟩
    obtain ⟨hcr1, hfr1, hz1⟩ := hb1.rules
    (try simp at hz1)
    have hy1_w0 : w.heap.size < w1.heap.size := (by omega)
    have hy1_w1 : w.heap.size + 1 < w1.heap.size := (by omega)
    have hy1_w2 : w.heap.size + 1 + 1 < w1.heap.size := (by omega)
    go_wp2_with fail
    refine (HTI.out _).mono ?_
    rintro e w2 ⟨rfl, rfl⟩
    have q0 := (hb1).cell (cell_box_at ((w.alloc (.cells #[.slice A1 ps.length c1, .slice A2 ns.length c2, .slice A3 up.length c3, .slice A4 pl.length c4, .slice A5 lic.length c5] 44)).alloc (.cells #[.int .i64 j.Id, .int .i64 j.Prio, .int .i64 j.Nodes, .int .i64 j.Need.A, .int .i64 j.Need.B, .int .i64 j.Need.C, .int .i64 j.Lic.A, .int .i64 j.Lic.B, .int .i64 j.Lic.C, .int .i64 j.Wall, .int .i64 j.Level] 146)) (w.heap.size + 1 + 1) (by simp) [.slice none 0 0, .slice none 0 0, .slice none 0 0, .slice none 0 0, .slice none 0 0] 44 0 _ rfl)
    have q1 := (hb1).cell (cell_box_at ((w.alloc (.cells #[.slice A1 ps.length c1, .slice A2 ns.length c2, .slice A3 up.length c3, .slice A4 pl.length c4, .slice A5 lic.length c5] 44)).alloc (.cells #[.int .i64 j.Id, .int .i64 j.Prio, .int .i64 j.Nodes, .int .i64 j.Need.A, .int .i64 j.Need.B, .int .i64 j.Need.C, .int .i64 j.Lic.A, .int .i64 j.Lic.B, .int .i64 j.Lic.C, .int .i64 j.Wall, .int .i64 j.Level] 146)) (w.heap.size + 1 + 1) (by simp) [.slice none 0 0, .slice none 0 0, .slice none 0 0, .slice none 0 0, .slice none 0 0] 44 1 _ rfl)
    have q2 := (hb1).cell (cell_box_at ((w.alloc (.cells #[.slice A1 ps.length c1, .slice A2 ns.length c2, .slice A3 up.length c3, .slice A4 pl.length c4, .slice A5 lic.length c5] 44)).alloc (.cells #[.int .i64 j.Id, .int .i64 j.Prio, .int .i64 j.Nodes, .int .i64 j.Need.A, .int .i64 j.Need.B, .int .i64 j.Need.C, .int .i64 j.Lic.A, .int .i64 j.Lic.B, .int .i64 j.Lic.C, .int .i64 j.Wall, .int .i64 j.Level] 146)) (w.heap.size + 1 + 1) (by simp) [.slice none 0 0, .slice none 0 0, .slice none 0 0, .slice none 0 0, .slice none 0 0] 44 2 _ rfl)
    have q3 := (hb1).cell (cell_box_at ((w.alloc (.cells #[.slice A1 ps.length c1, .slice A2 ns.length c2, .slice A3 up.length c3, .slice A4 pl.length c4, .slice A5 lic.length c5] 44)).alloc (.cells #[.int .i64 j.Id, .int .i64 j.Prio, .int .i64 j.Nodes, .int .i64 j.Need.A, .int .i64 j.Need.B, .int .i64 j.Need.C, .int .i64 j.Lic.A, .int .i64 j.Lic.B, .int .i64 j.Lic.C, .int .i64 j.Wall, .int .i64 j.Level] 146)) (w.heap.size + 1 + 1) (by simp) [.slice none 0 0, .slice none 0 0, .slice none 0 0, .slice none 0 0, .slice none 0 0] 44 3 _ rfl)
    have q4 := (hb1).cell (cell_box_at ((w.alloc (.cells #[.slice A1 ps.length c1, .slice A2 ns.length c2, .slice A3 up.length c3, .slice A4 pl.length c4, .slice A5 lic.length c5] 44)).alloc (.cells #[.int .i64 j.Id, .int .i64 j.Prio, .int .i64 j.Nodes, .int .i64 j.Need.A, .int .i64 j.Need.B, .int .i64 j.Need.C, .int .i64 j.Lic.A, .int .i64 j.Lic.B, .int .i64 j.Lic.C, .int .i64 j.Wall, .int .i64 j.Level] 146)) (w.heap.size + 1 + 1) (by simp) [.slice none 0 0, .slice none 0 0, .slice none 0 0, .slice none 0 0, .slice none 0 0] 44 4 _ rfl)
    have qf0 := ((hb1).frozenEq (a := ⟨w.heap.size + 1 + 1, 0, none⟩) (by simp)).trans (frozen_box_at ((w.alloc (.cells #[.slice A1 ps.length c1, .slice A2 ns.length c2, .slice A3 up.length c3, .slice A4 pl.length c4, .slice A5 lic.length c5] 44)).alloc (.cells #[.int .i64 j.Id, .int .i64 j.Prio, .int .i64 j.Nodes, .int .i64 j.Need.A, .int .i64 j.Need.B, .int .i64 j.Need.C, .int .i64 j.Lic.A, .int .i64 j.Lic.B, .int .i64 j.Lic.C, .int .i64 j.Wall, .int .i64 j.Level] 146)) (w.heap.size + 1 + 1) (by simp) #[.slice none 0 0, .slice none 0 0, .slice none 0 0, .slice none 0 0, .slice none 0 0] 44 0)
    have qf1 := ((hb1).frozenEq (a := ⟨w.heap.size + 1 + 1, 1, none⟩) (by simp)).trans (frozen_box_at ((w.alloc (.cells #[.slice A1 ps.length c1, .slice A2 ns.length c2, .slice A3 up.length c3, .slice A4 pl.length c4, .slice A5 lic.length c5] 44)).alloc (.cells #[.int .i64 j.Id, .int .i64 j.Prio, .int .i64 j.Nodes, .int .i64 j.Need.A, .int .i64 j.Need.B, .int .i64 j.Need.C, .int .i64 j.Lic.A, .int .i64 j.Lic.B, .int .i64 j.Lic.C, .int .i64 j.Wall, .int .i64 j.Level] 146)) (w.heap.size + 1 + 1) (by simp) #[.slice none 0 0, .slice none 0 0, .slice none 0 0, .slice none 0 0, .slice none 0 0] 44 1)
    have qf2 := ((hb1).frozenEq (a := ⟨w.heap.size + 1 + 1, 2, none⟩) (by simp)).trans (frozen_box_at ((w.alloc (.cells #[.slice A1 ps.length c1, .slice A2 ns.length c2, .slice A3 up.length c3, .slice A4 pl.length c4, .slice A5 lic.length c5] 44)).alloc (.cells #[.int .i64 j.Id, .int .i64 j.Prio, .int .i64 j.Nodes, .int .i64 j.Need.A, .int .i64 j.Need.B, .int .i64 j.Need.C, .int .i64 j.Lic.A, .int .i64 j.Lic.B, .int .i64 j.Lic.C, .int .i64 j.Wall, .int .i64 j.Level] 146)) (w.heap.size + 1 + 1) (by simp) #[.slice none 0 0, .slice none 0 0, .slice none 0 0, .slice none 0 0, .slice none 0 0] 44 2)
    have qf3 := ((hb1).frozenEq (a := ⟨w.heap.size + 1 + 1, 3, none⟩) (by simp)).trans (frozen_box_at ((w.alloc (.cells #[.slice A1 ps.length c1, .slice A2 ns.length c2, .slice A3 up.length c3, .slice A4 pl.length c4, .slice A5 lic.length c5] 44)).alloc (.cells #[.int .i64 j.Id, .int .i64 j.Prio, .int .i64 j.Nodes, .int .i64 j.Need.A, .int .i64 j.Need.B, .int .i64 j.Need.C, .int .i64 j.Lic.A, .int .i64 j.Lic.B, .int .i64 j.Lic.C, .int .i64 j.Wall, .int .i64 j.Level] 146)) (w.heap.size + 1 + 1) (by simp) #[.slice none 0 0, .slice none 0 0, .slice none 0 0, .slice none 0 0, .slice none 0 0] 44 3)
    have qf4 := ((hb1).frozenEq (a := ⟨w.heap.size + 1 + 1, 4, none⟩) (by simp)).trans (frozen_box_at ((w.alloc (.cells #[.slice A1 ps.length c1, .slice A2 ns.length c2, .slice A3 up.length c3, .slice A4 pl.length c4, .slice A5 lic.length c5] 44)).alloc (.cells #[.int .i64 j.Id, .int .i64 j.Prio, .int .i64 j.Nodes, .int .i64 j.Need.A, .int .i64 j.Need.B, .int .i64 j.Need.C, .int .i64 j.Lic.A, .int .i64 j.Lic.B, .int .i64 j.Lic.C, .int .i64 j.Wall, .int .i64 j.Level] 146)) (w.heap.size + 1 + 1) (by simp) #[.slice none 0 0, .slice none 0 0, .slice none 0 0, .slice none 0 0, .slice none 0 0] 44 4)
    have hql := lt_of_cell q0
    have HXF := Lib.hid (((((Ext.refl w).alloc _).alloc _).alloc _).trans hb1)
    clear HDF HTI HCP HH H3 HNL HR HNI HJW HPLN hcr1 hfr1 hb1
    go_wp2
    exact bodyPost_ret (v := .tuple #[.agg #[.slice none 0 0, .slice none 0 0, .slice none 0 0, .slice none 0 0, .slice none 0 0], .bool false]) (by simp [results, Tryz.results113, go_sem, *]) rfl (retRoomZ_none rfl (HXF.out.five (by omega) _ _ _ _ _))
  · have HNN := Lib.hid (HNI.out hj)
    simp only [Bool.and_self, if_true]
    have HMV := Lib.hid (show moveM fr (fr + j.Wall) j nodes (pl, lic) = (match takeAll fr (fr + j.Wall) j.Need nodes pl with
      | none => none
      | some ps => match takeQ lic fr (fr + j.Wall) j.Lic with
        | none => none
        | some l => some (ps, l)) from rfl)
    generalize moveM fr (fr + j.Wall) j nodes (pl, lic) = R at *
    have hwr0 : IntKind.i64.wrap (fr + j.Wall) = fr + j.Wall := by
      have h1 := jobB_wall (HJW.out hj)
      unfold timeB at hn
      rw [decide_eq_true_iff] at hn
      exact IntWalk.i64_in _ ⟨by omega, by omega⟩
    clear hn
    obtain ⟨te, hwr, hte⟩ : ∃ te, IntKind.i64.wrap (fr + j.Wall) = te ∧ te = fr + j.Wall   := ⟨_, hwr0, rfl⟩
    rw [← hte] at HMV
    clear hte hwr0
    go_enter Tryz.func113, Tryz.ntmps113
    go_wp2_with fail
    refine (HDF.out _ (by repeat (first | exact Ext.refl _ | assumption | apply Ext.alloc | apply Ext.drewN | apply Ext.drew | (refine Ext.setCell ?_ (by first | (simp; done) | (simp; omega) | omega) _) | (refine Ext.trans ?_ (by assumption))))).mono ?_
    rintro e w1 ⟨rfl, hb1⟩
    obtain ⟨hcr1, hfr1, hz1⟩ := hb1.rules
    (try simp at hz1)
    have hy1_w0 : w.heap.size < w1.heap.size := (by omega)
    have hy1_w1 : w.heap.size + 1 < w1.heap.size := (by omega)
    have hy1_w2 : w.heap.size + 1 + 1 < w1.heap.size := (by omega)
    go_wp2_with fail
    refine (HTI.out _).mono ?_
    rintro e w2 ⟨rfl, rfl⟩
    have hx3 : Ext w w1 := (by repeat (first | exact Ext.refl _ | assumption | apply Ext.alloc | apply Ext.drewN | apply Ext.drew | (refine Ext.setCell ?_ (by first | (simp; done) | (simp; omega) | omega) _) | (refine Ext.trans ?_ (by assumption))))
    go_wp2_with fail
    refine (HCP.out _ hx3).mono ?_
    rintro e w5 ⟨B1, d1, B2, d2, B3, d3, B4, d4, B5, d5, rfl, hro, hb5⟩
    have HRM := Lib.hid hro
    have hx5 : Ext w w5 := hx3.trans hb5
    have HX5 := Lib.hid (show Ext (((w.alloc (.cells #[.slice A1 ps.length c1, .slice A2 ns.length c2, .slice A3 up.length c3, .slice A4 pl.length c4, .slice A5 lic.length c5] 44)).alloc (.cells #[.int .i64 j.Id, .int .i64 j.Prio, .int .i64 j.Nodes, .int .i64 j.Need.A, .int .i64 j.Need.B, .int .i64 j.Need.C, .int .i64 j.Lic.A, .int .i64 j.Lic.B, .int .i64 j.Lic.C, .int .i64 j.Wall, .int .i64 j.Level] 146)).alloc (.cells #[.slice none 0 0, .slice none 0 0, .slice none 0 0, .slice none 0 0, .slice none 0 0] 44)) w5 from hb1.trans hb5)
    have hz5 := hb5.le
    have hz9 : w.heap.size + 1 + 1 + 1 ≤ w1.heap.size := by omega
    have HRB := Lib.hid (hro.base (lo' := w.heap.size + 1 + 1 + 1) hz9)
    clear hro hcr1 hfr1 hb1 hb5 hx3
    have HBX5 := Lib.hid (show (w5.alloc (.cells #[.slice B1 ps.length d1, .slice B2 ns.length d2, .slice B3 up.length d3, .slice B4 pl.length d4, .slice B5 lic.length d5] 44)).ownsRow (w.heap.size + 1 + 1 + 1) 44 5 (.slice (some ⟨w5.heap.size, 0, none⟩) 1 1) 1 [.slice B1 ps.length d1, .slice B2 ns.length d2, .slice B3 up.length d3, .slice B4 pl.length d4, .slice B5 lic.length d5] from owns_base (gbox w5 [.slice B1 ps.length d1, .slice B2 ns.length d2, .slice B3 up.length d3, .slice B4 pl.length d4, .slice B5 lic.length d5] 44 5 rfl) (by omega))
    have hzb : (w.heap.size + 1 + 1 + 1) ≤ w5.heap.size := by omega
    go_wp2
    go_loopw [32] (fun iv wr => ∃ (k : Nat) (ql : List (List Pt)), k ≤ n ∧ iv = .int .i64 k ∧ Hid (takeAll fr te j.Need nodes pl = takeAll fr te j.Need (nodes.drop k) ql) ∧ Hid (RoomS wr (w.heap.size + 1 + 1 + 1) ps ns up (ql, lic) B1 d1 B2 d2 B3 d3 B4 d4 B5 d5) ∧ Hid (ql.length = ns.length ∧ ∀ p ∈ ql, profB p = true) ∧ Hid (wr.ownsRow (w.heap.size + 1 + 1 + 1) 44 5 (.slice (some ⟨w5.heap.size, 0, none⟩) 1 1) 1 [.slice B1 ps.length d1, .slice B2 ns.length d2, .slice B3 up.length d3, .slice B4 pl.length d4, .slice B5 lic.length d5]) ∧ Ext (((w.alloc (.cells #[.slice A1 ps.length c1, .slice A2 ns.length c2, .slice A3 up.length c3, .slice A4 pl.length c4, .slice A5 lic.length c5] 44)).alloc (.cells #[.int .i64 j.Id, .int .i64 j.Prio, .int .i64 j.Nodes, .int .i64 j.Need.A, .int .i64 j.Need.B, .int .i64 j.Need.C, .int .i64 j.Lic.A, .int .i64 j.Lic.B, .int .i64 j.Lic.C, .int .i64 j.Wall, .int .i64 j.Level] 146)).alloc (.cells #[.slice none 0 0, .slice none 0 0, .slice none 0 0, .slice none 0 0, .slice none 0 0] 44)) wr) (fun iv _ => n - (intOf iv).toNat)
    case atStart => exact ⟨0, pl, Nat.zero_le _, rfl, Lib.hid rfl, Lib.hid (HRB.out.ext ((Ext.refl _).alloc _)), Lib.hid ⟨HPLN.out, HR.out.2.1⟩, HBX5, HX5.out.alloc _⟩
    case round =>
      clear HBX5 hx5 HCP HDF HTI HH HNI HJW HRM HRB hy1_w0 hy1_w1 hy1_w2 hz1 hz5 hM hl3'
      obtain ⟨k, ql, hk, rfl, HTA, HRO2, HQ, HBX, hb⟩ := hrel
      by_cases hlt : k < n
      · obtain ⟨bq, oq, x, cs, rfl, hbw, hx2, _, hc, rfl, hok⟩ := (H3.out wr ((((((Ext.refl w).alloc _).alloc _).alloc _)).trans hb)).at_ hlt
        have g0 := hc 0 _ rfl
        simp only [Nat.mul_one, Nat.add_zero] at g0
        have HST := Lib.hid (take_step (fr := fr) (te := te) (v := j.Need) (pl := ql) hx2)
        obtain ⟨hxa, hxb⟩ := nodesIn_at HNN.out (List.mem_of_getElem? hx2)
        obtain ⟨i, rfl⟩ := Int.eq_ofNat_of_zero_le hxa
        obtain ⟨p, hp⟩ : ∃ p, ql[i]? = some p := ⟨_, List.getElem?_eq_getElem (by have := HQ.out.1; omega)⟩
        obtain ⟨g, rfl, hg1, hg2⟩ := HRO2.out.pro.form (by have := HQ.out.1; simp only []; omega)
        obtain ⟨Ap, cp, hcell, hsp, hfz, _, _⟩ := HRO2.out.pro.get hp
        have HPV := Lib.hid (HQ.out.2 p (List.mem_of_getElem? hp))
        have hpl200 := (profB_parts HPV.out).2.1
        have HTK := Lib.hid (fun (u : World) (e : Ext wr u) => sProfTake_c p fr te j.Need Ap p.length cp u (hsp.ext (Flat.mono _ _) e) (by unfold maxLen; omega))
        have HIL := Lib.hid (show (i : Int) < (pl.length : Int) by rw [HPLN.out]; omega)
        have hil := HIL.out
        have HII := Lib.hid (show i < ql.length by have h1 := HQ.out.1; omega)
        have hil2 : i < pl.length := by omega
        have HGD := Lib.hid (show ql.getD ((i : Int)).toNat [] = p by simp [List.getD, hp])
        rw [HGD.out] at HST
        have HTV := Lib.hid (fun (o : List Pt) (h : takeQ p fr te j.Need = some o) => takeQ_valid h)
        generalize takeQ p fr te j.Need = tq at *
        obtain ⟨t0, t1, t2, t3, t4, tf0, tf1, tf2, tf3, tf4, tl⟩ := gcells5 HBX.out
        have hx2b := HX5.out
        have hbw2 := hb
        have j3 := (((Ext.refl _).alloc _).trans hb).cell (cell_box_at (w.alloc (.cells #[.slice A1 ps.length c1, .slice A2 ns.length c2, .slice A3 up.length c3, .slice A4 pl.length c4, .slice A5 lic.length c5] 44)) (w.heap.size + 1) (by simp) [.int .i64 j.Id, .int .i64 j.Prio, .int .i64 j.Nodes, .int .i64 j.Need.A, .int .i64 j.Need.B, .int .i64 j.Need.C, .int .i64 j.Lic.A, .int .i64 j.Lic.B, .int .i64 j.Lic.C, .int .i64 j.Wall, .int .i64 j.Level] 146 3 _ rfl)
        have j4 := (((Ext.refl _).alloc _).trans hb).cell (cell_box_at (w.alloc (.cells #[.slice A1 ps.length c1, .slice A2 ns.length c2, .slice A3 up.length c3, .slice A4 pl.length c4, .slice A5 lic.length c5] 44)) (w.heap.size + 1) (by simp) [.int .i64 j.Id, .int .i64 j.Prio, .int .i64 j.Nodes, .int .i64 j.Need.A, .int .i64 j.Need.B, .int .i64 j.Need.C, .int .i64 j.Lic.A, .int .i64 j.Lic.B, .int .i64 j.Lic.C, .int .i64 j.Wall, .int .i64 j.Level] 146 4 _ rfl)
        have j5 := (((Ext.refl _).alloc _).trans hb).cell (cell_box_at (w.alloc (.cells #[.slice A1 ps.length c1, .slice A2 ns.length c2, .slice A3 up.length c3, .slice A4 pl.length c4, .slice A5 lic.length c5] 44)) (w.heap.size + 1) (by simp) [.int .i64 j.Id, .int .i64 j.Prio, .int .i64 j.Nodes, .int .i64 j.Need.A, .int .i64 j.Need.B, .int .i64 j.Need.C, .int .i64 j.Lic.A, .int .i64 j.Lic.B, .int .i64 j.Lic.C, .int .i64 j.Wall, .int .i64 j.Level] 146 5 _ rfl)
        have j9 := (((Ext.refl _).alloc _).trans hb).cell (cell_box_at (w.alloc (.cells #[.slice A1 ps.length c1, .slice A2 ns.length c2, .slice A3 up.length c3, .slice A4 pl.length c4, .slice A5 lic.length c5] 44)) (w.heap.size + 1) (by simp) [.int .i64 j.Id, .int .i64 j.Prio, .int .i64 j.Nodes, .int .i64 j.Need.A, .int .i64 j.Need.B, .int .i64 j.Need.C, .int .i64 j.Lic.A, .int .i64 j.Lic.B, .int .i64 j.Lic.C, .int .i64 j.Wall, .int .i64 j.Level] 146 9 _ rfl)
        have hj3 := lt_of_cell j3
        have HCELL := Lib.hid hcell
        have HFZ := Lib.hid hfz
        have HT3 := Lib.hid t3
        have HLW := Lib.hid (show (w.heap.size + 1 + 1 + 1) ≤ wr.heap.size from by have := hb.le; simp at this; omega)
        clear hx2 hc hok hsp hp hx2b t0 t1 t2 t4 tf0 tf1 tf2 tf4 hbw2
        have HKS := Lib.hid (fun (u : World) (e : Ext wr u) => show Ext wr u ∧ u.cell? ⟨w5.heap.size, 3, none⟩ = some (.slice (some ⟨g, 0, none⟩) pl.length d4) ∧ u.cell? ⟨g, i, none⟩ = some (.slice Ap p.length cp) ∧ u.cell? ⟨w.heap.size + 1, 3, none⟩ = some (.int .i64 j.Need.A) ∧ u.cell? ⟨w.heap.size + 1, 4, none⟩ = some (.int .i64 j.Need.B) ∧ u.cell? ⟨w.heap.size + 1, 5, none⟩ = some (.int .i64 j.Need.C) ∧ u.cell? ⟨w.heap.size + 1, 9, none⟩ = some (.int .i64 j.Wall) from ⟨e, e.cell HT3.out, e.cell HCELL.out, e.cell j3, e.cell j4, e.cell j5, e.cell j9⟩)
        go_upto_region 7 with fail
        go_cut [13, 14, 32] from 32 to 60 (fun s13 s14 s32 wx => ∃ bz A6 c6 n6, s13 = .pointer (some ⟨bz, 0, none⟩) ∧ s14 = .bool tq.isSome ∧ s32 = .int .i64 (k : Int) ∧ wr.heap.size ≤ bz ∧ Hid (∀ l, tq = some l → n6 = l.length ∧ wx.ownsRow (w.heap.size + 1 + 1 + 1) 107 4 (.slice A6 l.length c6) l.length (l.flatMap Pt.enc) ∧ ∀ y ∈ l, y.ok) ∧ Hid (wx.ownsRow wr.heap.size 42 1 (.slice (some ⟨bz, 0, none⟩) 1 1) 1 [.slice A6 n6 c6]) ∧ Ext wr wx)
        case first =>
          go_region_held3 (fun u => Ext wr u ∧ u.cell? ⟨w5.heap.size, 3, none⟩ = some (.slice (some ⟨g, 0, none⟩) pl.length d4) ∧ u.cell? ⟨g, i, none⟩ = some (.slice Ap p.length cp) ∧ u.cell? ⟨w.heap.size + 1, 3, none⟩ = some (.int .i64 j.Need.A) ∧ u.cell? ⟨w.heap.size + 1, 4, none⟩ = some (.int .i64 j.Need.B) ∧ u.cell? ⟨w.heap.size + 1, 5, none⟩ = some (.int .i64 j.Need.C) ∧ u.cell? ⟨w.heap.size + 1, 9, none⟩ = some (.int .i64 j.Wall)) ((refine HKS.out _ ?_; first | exact (Ext.refl _).drew | assumption | exact ((Ext.refl _).drew).alloc _ | exact HE6.out | exact HE6.out.alloc _ | exact HE6.out.setCell (Nat.le_refl _) _)) (first | (go_at_call 135; (with_reducible refine (HTK.out _ (by repeat (first | exact Ext.refl _ | apply Ext.alloc | apply Ext.drew))).mono ?_); rintro e w6 ⟨A6, c6, l, rfl, hR6, ho6, hy6, hb6⟩; have HE6 := Lib.hid (show Ext wr w6 from Ext.trans (by repeat (first | exact Ext.refl _ | apply Ext.alloc | apply Ext.drew)) hb6); have hl6 := HE6.out.le; have HO6 := Lib.hid (owns_base ho6 (show (w.heap.size + 1 + 1 + 1) ≤ _ from (by first | omega | (simp; omega)))); have HR6 := Lib.hid hR6; (first | (have HB6 := Lib.hid (owns_ext (gbox wr [.slice none 0 0] 42 1 rfl) hb6); obtain ⟨m0, mf0, ml0⟩ := gcells1 HB6.out) | (have HB6 := Lib.hid (owns_ext (gbox wr [.slice none 0 0] 42 1 rfl) (((Ext.refl _).drew).trans hb6)); obtain ⟨m0, mf0, ml0⟩ := gcells1 HB6.out) | skip); clear hR6 ho6))
          all_goals
            go_wp2_with fail
            go_meet
            first
              | exact ⟨_, A6, c6, l.length, rfl, rfl, rfl, by first | omega | (simp; omega), Lib.hid (fun l2 h2 => by rcases HR6.out with h6 | ⟨h6, _⟩; (rw [h6] at h2; injection h2 with h2; subst h2; exact ⟨rfl, owns_ext HO6.out ((Ext.refl _).alloc _), hy6⟩); (rw [h6] at h2; cases h2)), Lib.hid (owns_base (gbox w6 [.slice A6 l.length c6] 42 1 rfl) hl6), HE6.out.alloc _⟩
              | exact ⟨_, A6, c6, l.length, rfl, rfl, rfl, Nat.le_refl _, Lib.hid (fun l2 h2 => by rcases HR6.out with h6 | ⟨h6, _⟩; (rw [h6] at h2; injection h2 with h2; subst h2; exact ⟨rfl, g_far HO6.out (fun e => g_apart HO6.out HB6.out (by decide) _ e rfl), hy6⟩); (rw [h6] at h2; cases h2)), Lib.hid (HB6.out.stored 0 _).1, HE6.out.setCell (Nat.le_refl _) _⟩
        case rest =>
          obtain ⟨bz, A6, c6, n6, rfl, rfl, rfl, hbz, HFT, HFB, hx⟩ := hcut
          have hlz := HLW.out
          have hbz1 : w5.heap.size ≠ bz := by omega
          have hbz2 : g ≠ bz := by omega
          have hbz3 : w.heap.size + 1 + 1 ≠ bz := by omega
          have HBW := Lib.hid (hb.trans hx)
          have hxz := hx.le
          obtain ⟨m0, mf0, ml0⟩ := gcells1 HFB.out
          clear hcell hfz t3 tf3 j3 j4 j5 j9
          rcases tq with _ | l
          · have HRN := Lib.hid (show R = none by rw [HMV.out, HTA.out, HST.out])
            have HXF := Lib.hid (((((Ext.refl w).alloc _).alloc _).alloc _).trans (hb.trans hx))
            clear hb hx
            clear tl hg2 HFT HFB HRO2 HBX HTK HKS HST HTA HQ HCELL HFZ HT3 HGD HTV HPV HIL HNN HX5 HPLN HR H3 HMV m0 mf0 ml0 hil hil2
            have q0 := (HBW.out).cell (cell_box_at ((w.alloc (.cells #[.slice A1 ps.length c1, .slice A2 ns.length c2, .slice A3 up.length c3, .slice A4 pl.length c4, .slice A5 lic.length c5] 44)).alloc (.cells #[.int .i64 j.Id, .int .i64 j.Prio, .int .i64 j.Nodes, .int .i64 j.Need.A, .int .i64 j.Need.B, .int .i64 j.Need.C, .int .i64 j.Lic.A, .int .i64 j.Lic.B, .int .i64 j.Lic.C, .int .i64 j.Wall, .int .i64 j.Level] 146)) (w.heap.size + 1 + 1) (by simp) [.slice none 0 0, .slice none 0 0, .slice none 0 0, .slice none 0 0, .slice none 0 0] 44 0 _ rfl)
            have q1 := (HBW.out).cell (cell_box_at ((w.alloc (.cells #[.slice A1 ps.length c1, .slice A2 ns.length c2, .slice A3 up.length c3, .slice A4 pl.length c4, .slice A5 lic.length c5] 44)).alloc (.cells #[.int .i64 j.Id, .int .i64 j.Prio, .int .i64 j.Nodes, .int .i64 j.Need.A, .int .i64 j.Need.B, .int .i64 j.Need.C, .int .i64 j.Lic.A, .int .i64 j.Lic.B, .int .i64 j.Lic.C, .int .i64 j.Wall, .int .i64 j.Level] 146)) (w.heap.size + 1 + 1) (by simp) [.slice none 0 0, .slice none 0 0, .slice none 0 0, .slice none 0 0, .slice none 0 0] 44 1 _ rfl)
            have q2 := (HBW.out).cell (cell_box_at ((w.alloc (.cells #[.slice A1 ps.length c1, .slice A2 ns.length c2, .slice A3 up.length c3, .slice A4 pl.length c4, .slice A5 lic.length c5] 44)).alloc (.cells #[.int .i64 j.Id, .int .i64 j.Prio, .int .i64 j.Nodes, .int .i64 j.Need.A, .int .i64 j.Need.B, .int .i64 j.Need.C, .int .i64 j.Lic.A, .int .i64 j.Lic.B, .int .i64 j.Lic.C, .int .i64 j.Wall, .int .i64 j.Level] 146)) (w.heap.size + 1 + 1) (by simp) [.slice none 0 0, .slice none 0 0, .slice none 0 0, .slice none 0 0, .slice none 0 0] 44 2 _ rfl)
            have q3 := (HBW.out).cell (cell_box_at ((w.alloc (.cells #[.slice A1 ps.length c1, .slice A2 ns.length c2, .slice A3 up.length c3, .slice A4 pl.length c4, .slice A5 lic.length c5] 44)).alloc (.cells #[.int .i64 j.Id, .int .i64 j.Prio, .int .i64 j.Nodes, .int .i64 j.Need.A, .int .i64 j.Need.B, .int .i64 j.Need.C, .int .i64 j.Lic.A, .int .i64 j.Lic.B, .int .i64 j.Lic.C, .int .i64 j.Wall, .int .i64 j.Level] 146)) (w.heap.size + 1 + 1) (by simp) [.slice none 0 0, .slice none 0 0, .slice none 0 0, .slice none 0 0, .slice none 0 0] 44 3 _ rfl)
            have q4 := (HBW.out).cell (cell_box_at ((w.alloc (.cells #[.slice A1 ps.length c1, .slice A2 ns.length c2, .slice A3 up.length c3, .slice A4 pl.length c4, .slice A5 lic.length c5] 44)).alloc (.cells #[.int .i64 j.Id, .int .i64 j.Prio, .int .i64 j.Nodes, .int .i64 j.Need.A, .int .i64 j.Need.B, .int .i64 j.Need.C, .int .i64 j.Lic.A, .int .i64 j.Lic.B, .int .i64 j.Lic.C, .int .i64 j.Wall, .int .i64 j.Level] 146)) (w.heap.size + 1 + 1) (by simp) [.slice none 0 0, .slice none 0 0, .slice none 0 0, .slice none 0 0, .slice none 0 0] 44 4 _ rfl)
            have qf0 := ((HBW.out).frozenEq (a := ⟨w.heap.size + 1 + 1, 0, none⟩) (by simp)).trans (frozen_box_at ((w.alloc (.cells #[.slice A1 ps.length c1, .slice A2 ns.length c2, .slice A3 up.length c3, .slice A4 pl.length c4, .slice A5 lic.length c5] 44)).alloc (.cells #[.int .i64 j.Id, .int .i64 j.Prio, .int .i64 j.Nodes, .int .i64 j.Need.A, .int .i64 j.Need.B, .int .i64 j.Need.C, .int .i64 j.Lic.A, .int .i64 j.Lic.B, .int .i64 j.Lic.C, .int .i64 j.Wall, .int .i64 j.Level] 146)) (w.heap.size + 1 + 1) (by simp) #[.slice none 0 0, .slice none 0 0, .slice none 0 0, .slice none 0 0, .slice none 0 0] 44 0)
            have qf1 := ((HBW.out).frozenEq (a := ⟨w.heap.size + 1 + 1, 1, none⟩) (by simp)).trans (frozen_box_at ((w.alloc (.cells #[.slice A1 ps.length c1, .slice A2 ns.length c2, .slice A3 up.length c3, .slice A4 pl.length c4, .slice A5 lic.length c5] 44)).alloc (.cells #[.int .i64 j.Id, .int .i64 j.Prio, .int .i64 j.Nodes, .int .i64 j.Need.A, .int .i64 j.Need.B, .int .i64 j.Need.C, .int .i64 j.Lic.A, .int .i64 j.Lic.B, .int .i64 j.Lic.C, .int .i64 j.Wall, .int .i64 j.Level] 146)) (w.heap.size + 1 + 1) (by simp) #[.slice none 0 0, .slice none 0 0, .slice none 0 0, .slice none 0 0, .slice none 0 0] 44 1)
            have qf2 := ((HBW.out).frozenEq (a := ⟨w.heap.size + 1 + 1, 2, none⟩) (by simp)).trans (frozen_box_at ((w.alloc (.cells #[.slice A1 ps.length c1, .slice A2 ns.length c2, .slice A3 up.length c3, .slice A4 pl.length c4, .slice A5 lic.length c5] 44)).alloc (.cells #[.int .i64 j.Id, .int .i64 j.Prio, .int .i64 j.Nodes, .int .i64 j.Need.A, .int .i64 j.Need.B, .int .i64 j.Need.C, .int .i64 j.Lic.A, .int .i64 j.Lic.B, .int .i64 j.Lic.C, .int .i64 j.Wall, .int .i64 j.Level] 146)) (w.heap.size + 1 + 1) (by simp) #[.slice none 0 0, .slice none 0 0, .slice none 0 0, .slice none 0 0, .slice none 0 0] 44 2)
            have qf3 := ((HBW.out).frozenEq (a := ⟨w.heap.size + 1 + 1, 3, none⟩) (by simp)).trans (frozen_box_at ((w.alloc (.cells #[.slice A1 ps.length c1, .slice A2 ns.length c2, .slice A3 up.length c3, .slice A4 pl.length c4, .slice A5 lic.length c5] 44)).alloc (.cells #[.int .i64 j.Id, .int .i64 j.Prio, .int .i64 j.Nodes, .int .i64 j.Need.A, .int .i64 j.Need.B, .int .i64 j.Need.C, .int .i64 j.Lic.A, .int .i64 j.Lic.B, .int .i64 j.Lic.C, .int .i64 j.Wall, .int .i64 j.Level] 146)) (w.heap.size + 1 + 1) (by simp) #[.slice none 0 0, .slice none 0 0, .slice none 0 0, .slice none 0 0, .slice none 0 0] 44 3)
            have qf4 := ((HBW.out).frozenEq (a := ⟨w.heap.size + 1 + 1, 4, none⟩) (by simp)).trans (frozen_box_at ((w.alloc (.cells #[.slice A1 ps.length c1, .slice A2 ns.length c2, .slice A3 up.length c3, .slice A4 pl.length c4, .slice A5 lic.length c5] 44)).alloc (.cells #[.int .i64 j.Id, .int .i64 j.Prio, .int .i64 j.Nodes, .int .i64 j.Need.A, .int .i64 j.Need.B, .int .i64 j.Need.C, .int .i64 j.Lic.A, .int .i64 j.Lic.B, .int .i64 j.Lic.C, .int .i64 j.Wall, .int .i64 j.Level] 146)) (w.heap.size + 1 + 1) (by simp) #[.slice none 0 0, .slice none 0 0, .slice none 0 0, .slice none 0 0, .slice none 0 0] 44 4)
            have hql := lt_of_cell q0
            go_wp2
            exact bodyPost_ret (v := .tuple #[.agg #[.slice none 0 0, .slice none 0 0, .slice none 0 0, .slice none 0 0, .slice none 0 0], .bool false]) (by simp [results, Tryz.results113, go_sem, *]) rfl (retRoomZ_none HRN.out (HXF.out.five (by omega) _ _ _ _ _))
          · obtain rfl := (HFT.out l rfl).1
            have HOL := Lib.hid (HFT.out l rfl).2
            have hcl2 := hx.cell HCELL.out
            have hfz2 := (hx.frozenEq (a := ⟨g, i, none⟩) hg2).trans HFZ.out
            have u3 := hx.cell HT3.out
            have hg3 : g < wc.heap.size := by omega
            have hb3 : w5.heap.size < wc.heap.size := by omega
            clear HTK HKS HCELL HFZ HT3 HGD HPV HX5 HR H3 HMV HBW
            go_wp2
            go_roundw
            case rel => exact ⟨k + 1, ql.set i l, by omega, by go_num, Lib.hid (by rw [HTA.out, HST.out]; simp), Lib.hid ((HRO2.out.ext hx).setp HII.out HOL.out.1 HOL.out.2), Lib.hid ⟨by rw [List.length_set]; exact HQ.out.1, fun q hq => (List.mem_or_eq_of_mem_set hq).elim (HQ.out.2 q) (fun e => by rw [e]; exact HTV.out l rfl)⟩, Lib.hid ((HRO2.out.ext hx).box_far (owns_ext HBX.out hx)), (hb.trans hx).setCell (by simp; omega) _⟩
            case measure => simp [intOf]; omega
      · obtain rfl : k = n := by omega
        have HTN := Lib.hid (show takeAll fr te j.Need nodes pl = some ql by rw [HTA.out, List.drop_eq_nil_of_le (by have := HNL.out; omega)]; rfl)
        have HLW := Lib.hid (show (w.heap.size + 1 + 1 + 1) ≤ wr.heap.size from by have := hb.le; simp at this; omega)
        have hl200 := (profB_parts HR.out.2.2).2.1
        have HTL := Lib.hid (fun (u : World) (e : Ext wr u) => sProfTake_c lic fr te j.Lic B5 lic.length d5 u ((owns_sl Pt.size HRO2.out.lic HRO2.out.ok3).ext (Flat.mono _ _) e) (by unfold maxLen; simp only [] at hl200; omega))
        have HMW := Lib.hid (show R = (match takeQ lic fr te j.Lic with | none => none | some l => some (ql, l)) by rw [HMV.out, HTN.out])
        generalize takeQ lic fr te j.Lic = tq at *
        obtain ⟨t0, t1, t2, t3, t4, tf0, tf1, tf2, tf3, tf4, tl⟩ := gcells5 HBX.out
        have j6 := (((Ext.refl _).alloc _).trans hb).cell (cell_box_at (w.alloc (.cells #[.slice A1 ps.length c1, .slice A2 ns.length c2, .slice A3 up.length c3, .slice A4 pl.length c4, .slice A5 lic.length c5] 44)) (w.heap.size + 1) (by simp) [.int .i64 j.Id, .int .i64 j.Prio, .int .i64 j.Nodes, .int .i64 j.Need.A, .int .i64 j.Need.B, .int .i64 j.Need.C, .int .i64 j.Lic.A, .int .i64 j.Lic.B, .int .i64 j.Lic.C, .int .i64 j.Wall, .int .i64 j.Level] 146 6 _ rfl)
        have j7 := (((Ext.refl _).alloc _).trans hb).cell (cell_box_at (w.alloc (.cells #[.slice A1 ps.length c1, .slice A2 ns.length c2, .slice A3 up.length c3, .slice A4 pl.length c4, .slice A5 lic.length c5] 44)) (w.heap.size + 1) (by simp) [.int .i64 j.Id, .int .i64 j.Prio, .int .i64 j.Nodes, .int .i64 j.Need.A, .int .i64 j.Need.B, .int .i64 j.Need.C, .int .i64 j.Lic.A, .int .i64 j.Lic.B, .int .i64 j.Lic.C, .int .i64 j.Wall, .int .i64 j.Level] 146 7 _ rfl)
        have j8 := (((Ext.refl _).alloc _).trans hb).cell (cell_box_at (w.alloc (.cells #[.slice A1 ps.length c1, .slice A2 ns.length c2, .slice A3 up.length c3, .slice A4 pl.length c4, .slice A5 lic.length c5] 44)) (w.heap.size + 1) (by simp) [.int .i64 j.Id, .int .i64 j.Prio, .int .i64 j.Nodes, .int .i64 j.Need.A, .int .i64 j.Need.B, .int .i64 j.Need.C, .int .i64 j.Lic.A, .int .i64 j.Lic.B, .int .i64 j.Lic.C, .int .i64 j.Wall, .int .i64 j.Level] 146 8 _ rfl)
        have j9 := (((Ext.refl _).alloc _).trans hb).cell (cell_box_at (w.alloc (.cells #[.slice A1 ps.length c1, .slice A2 ns.length c2, .slice A3 up.length c3, .slice A4 pl.length c4, .slice A5 lic.length c5] 44)) (w.heap.size + 1) (by simp) [.int .i64 j.Id, .int .i64 j.Prio, .int .i64 j.Nodes, .int .i64 j.Need.A, .int .i64 j.Need.B, .int .i64 j.Need.C, .int .i64 j.Lic.A, .int .i64 j.Lic.B, .int .i64 j.Lic.C, .int .i64 j.Wall, .int .i64 j.Level] 146 9 _ rfl)
        have hj6 := lt_of_cell j6
        clear t0 t1 t2 t3 tf0 tf1 tf2 tf3 tf4
        go_wp2_with fail
        refine (HTL.out _ (Ext.refl _)).mono ?_
        rintro e w6 ⟨A6, c6, l, rfl, hR6, ho6, hy6, hb6⟩
        have hlz := HLW.out
        have hz6 := hb6.le
        have HO6 := Lib.hid (owns_base ho6 hlz)
        have HBW := Lib.hid (hb.trans hb6)
        have HR6 := Lib.hid hR6
        clear t4 j6 j7 j8 j9 ho6 hR6
        have q0 := (HBW.out).cell (cell_box_at ((w.alloc (.cells #[.slice A1 ps.length c1, .slice A2 ns.length c2, .slice A3 up.length c3, .slice A4 pl.length c4, .slice A5 lic.length c5] 44)).alloc (.cells #[.int .i64 j.Id, .int .i64 j.Prio, .int .i64 j.Nodes, .int .i64 j.Need.A, .int .i64 j.Need.B, .int .i64 j.Need.C, .int .i64 j.Lic.A, .int .i64 j.Lic.B, .int .i64 j.Lic.C, .int .i64 j.Wall, .int .i64 j.Level] 146)) (w.heap.size + 1 + 1) (by simp) [.slice none 0 0, .slice none 0 0, .slice none 0 0, .slice none 0 0, .slice none 0 0] 44 0 _ rfl)
        have q1 := (HBW.out).cell (cell_box_at ((w.alloc (.cells #[.slice A1 ps.length c1, .slice A2 ns.length c2, .slice A3 up.length c3, .slice A4 pl.length c4, .slice A5 lic.length c5] 44)).alloc (.cells #[.int .i64 j.Id, .int .i64 j.Prio, .int .i64 j.Nodes, .int .i64 j.Need.A, .int .i64 j.Need.B, .int .i64 j.Need.C, .int .i64 j.Lic.A, .int .i64 j.Lic.B, .int .i64 j.Lic.C, .int .i64 j.Wall, .int .i64 j.Level] 146)) (w.heap.size + 1 + 1) (by simp) [.slice none 0 0, .slice none 0 0, .slice none 0 0, .slice none 0 0, .slice none 0 0] 44 1 _ rfl)
        have q2 := (HBW.out).cell (cell_box_at ((w.alloc (.cells #[.slice A1 ps.length c1, .slice A2 ns.length c2, .slice A3 up.length c3, .slice A4 pl.length c4, .slice A5 lic.length c5] 44)).alloc (.cells #[.int .i64 j.Id, .int .i64 j.Prio, .int .i64 j.Nodes, .int .i64 j.Need.A, .int .i64 j.Need.B, .int .i64 j.Need.C, .int .i64 j.Lic.A, .int .i64 j.Lic.B, .int .i64 j.Lic.C, .int .i64 j.Wall, .int .i64 j.Level] 146)) (w.heap.size + 1 + 1) (by simp) [.slice none 0 0, .slice none 0 0, .slice none 0 0, .slice none 0 0, .slice none 0 0] 44 2 _ rfl)
        have q3 := (HBW.out).cell (cell_box_at ((w.alloc (.cells #[.slice A1 ps.length c1, .slice A2 ns.length c2, .slice A3 up.length c3, .slice A4 pl.length c4, .slice A5 lic.length c5] 44)).alloc (.cells #[.int .i64 j.Id, .int .i64 j.Prio, .int .i64 j.Nodes, .int .i64 j.Need.A, .int .i64 j.Need.B, .int .i64 j.Need.C, .int .i64 j.Lic.A, .int .i64 j.Lic.B, .int .i64 j.Lic.C, .int .i64 j.Wall, .int .i64 j.Level] 146)) (w.heap.size + 1 + 1) (by simp) [.slice none 0 0, .slice none 0 0, .slice none 0 0, .slice none 0 0, .slice none 0 0] 44 3 _ rfl)
        have q4 := (HBW.out).cell (cell_box_at ((w.alloc (.cells #[.slice A1 ps.length c1, .slice A2 ns.length c2, .slice A3 up.length c3, .slice A4 pl.length c4, .slice A5 lic.length c5] 44)).alloc (.cells #[.int .i64 j.Id, .int .i64 j.Prio, .int .i64 j.Nodes, .int .i64 j.Need.A, .int .i64 j.Need.B, .int .i64 j.Need.C, .int .i64 j.Lic.A, .int .i64 j.Lic.B, .int .i64 j.Lic.C, .int .i64 j.Wall, .int .i64 j.Level] 146)) (w.heap.size + 1 + 1) (by simp) [.slice none 0 0, .slice none 0 0, .slice none 0 0, .slice none 0 0, .slice none 0 0] 44 4 _ rfl)
        have qf0 := ((HBW.out).frozenEq (a := ⟨w.heap.size + 1 + 1, 0, none⟩) (by simp)).trans (frozen_box_at ((w.alloc (.cells #[.slice A1 ps.length c1, .slice A2 ns.length c2, .slice A3 up.length c3, .slice A4 pl.length c4, .slice A5 lic.length c5] 44)).alloc (.cells #[.int .i64 j.Id, .int .i64 j.Prio, .int .i64 j.Nodes, .int .i64 j.Need.A, .int .i64 j.Need.B, .int .i64 j.Need.C, .int .i64 j.Lic.A, .int .i64 j.Lic.B, .int .i64 j.Lic.C, .int .i64 j.Wall, .int .i64 j.Level] 146)) (w.heap.size + 1 + 1) (by simp) #[.slice none 0 0, .slice none 0 0, .slice none 0 0, .slice none 0 0, .slice none 0 0] 44 0)
        have qf1 := ((HBW.out).frozenEq (a := ⟨w.heap.size + 1 + 1, 1, none⟩) (by simp)).trans (frozen_box_at ((w.alloc (.cells #[.slice A1 ps.length c1, .slice A2 ns.length c2, .slice A3 up.length c3, .slice A4 pl.length c4, .slice A5 lic.length c5] 44)).alloc (.cells #[.int .i64 j.Id, .int .i64 j.Prio, .int .i64 j.Nodes, .int .i64 j.Need.A, .int .i64 j.Need.B, .int .i64 j.Need.C, .int .i64 j.Lic.A, .int .i64 j.Lic.B, .int .i64 j.Lic.C, .int .i64 j.Wall, .int .i64 j.Level] 146)) (w.heap.size + 1 + 1) (by simp) #[.slice none 0 0, .slice none 0 0, .slice none 0 0, .slice none 0 0, .slice none 0 0] 44 1)
        have qf2 := ((HBW.out).frozenEq (a := ⟨w.heap.size + 1 + 1, 2, none⟩) (by simp)).trans (frozen_box_at ((w.alloc (.cells #[.slice A1 ps.length c1, .slice A2 ns.length c2, .slice A3 up.length c3, .slice A4 pl.length c4, .slice A5 lic.length c5] 44)).alloc (.cells #[.int .i64 j.Id, .int .i64 j.Prio, .int .i64 j.Nodes, .int .i64 j.Need.A, .int .i64 j.Need.B, .int .i64 j.Need.C, .int .i64 j.Lic.A, .int .i64 j.Lic.B, .int .i64 j.Lic.C, .int .i64 j.Wall, .int .i64 j.Level] 146)) (w.heap.size + 1 + 1) (by simp) #[.slice none 0 0, .slice none 0 0, .slice none 0 0, .slice none 0 0, .slice none 0 0] 44 2)
        have qf3 := ((HBW.out).frozenEq (a := ⟨w.heap.size + 1 + 1, 3, none⟩) (by simp)).trans (frozen_box_at ((w.alloc (.cells #[.slice A1 ps.length c1, .slice A2 ns.length c2, .slice A3 up.length c3, .slice A4 pl.length c4, .slice A5 lic.length c5] 44)).alloc (.cells #[.int .i64 j.Id, .int .i64 j.Prio, .int .i64 j.Nodes, .int .i64 j.Need.A, .int .i64 j.Need.B, .int .i64 j.Need.C, .int .i64 j.Lic.A, .int .i64 j.Lic.B, .int .i64 j.Lic.C, .int .i64 j.Wall, .int .i64 j.Level] 146)) (w.heap.size + 1 + 1) (by simp) #[.slice none 0 0, .slice none 0 0, .slice none 0 0, .slice none 0 0, .slice none 0 0] 44 3)
        have qf4 := ((HBW.out).frozenEq (a := ⟨w.heap.size + 1 + 1, 4, none⟩) (by simp)).trans (frozen_box_at ((w.alloc (.cells #[.slice A1 ps.length c1, .slice A2 ns.length c2, .slice A3 up.length c3, .slice A4 pl.length c4, .slice A5 lic.length c5] 44)).alloc (.cells #[.int .i64 j.Id, .int .i64 j.Prio, .int .i64 j.Nodes, .int .i64 j.Need.A, .int .i64 j.Need.B, .int .i64 j.Need.C, .int .i64 j.Lic.A, .int .i64 j.Lic.B, .int .i64 j.Lic.C, .int .i64 j.Wall, .int .i64 j.Level] 146)) (w.heap.size + 1 + 1) (by simp) #[.slice none 0 0, .slice none 0 0, .slice none 0 0, .slice none 0 0, .slice none 0 0] 44 4)
        have hql := lt_of_cell q0
        have hbz4 : w.heap.size + 1 + 1 ≠ w5.heap.size := by omega
        rcases tq with _ | l2
        · have HRN := Lib.hid (show R = none by rw [HMW.out])
          have HXF := Lib.hid (((((Ext.refl w).alloc _).alloc _).alloc _).trans (hb.trans hb6))
          clear tl HTA HRO2 HQ HBX HTN HLW HTL HMW HR6 HO6 hb6 hlz hy6 HPLN HR H3 HMV HX5 HNN hb hj6
          go_wp2
          exact bodyPost_ret (v := .tuple #[.agg #[.slice none 0 0, .slice none 0 0, .slice none 0 0, .slice none 0 0, .slice none 0 0], .bool false]) (by simp [results, Tryz.results113, go_sem, *]) rfl (retRoomZ_none HRN.out ((HXF.out.five (by omega) _ _ _ _ _).alloc _))
        · obtain rfl : l2 = l := by rcases HR6.out with h6 | ⟨h6, _⟩; (injection h6); (cases h6)
          have HRN := Lib.hid (show R = some (ql, l2) by rw [HMW.out])
          have HBY := Lib.hid (owns_ext HBX.out hb6)
          obtain ⟨t0, t1, t2, t3, t4, tf0, tf1, tf2, tf3, tf4, tl2⟩ := gcells5 HBY.out
          have HRO3 := Lib.hid ((HRO2.out.ext hb6).lics HO6.out hy6)
          have HRO4 := Lib.hid ((((((HRO3.out.far HBY.out (p := 4) (u := .slice A6 l2.length c6)).low (b := w.heap.size + 1 + 1) (p := 0) (u := .slice B1 ps.length d1) (by omega)).low (b := w.heap.size + 1 + 1) (p := 1) (u := .slice B2 ns.length d2) (by omega)).low (b := w.heap.size + 1 + 1) (p := 2) (u := .slice B3 up.length d3) (by omega)).low (b := w.heap.size + 1 + 1) (p := 3) (u := .slice B4 pl.length d4) (by omega)).low (b := w.heap.size + 1 + 1) (p := 4) (u := .slice A6 l2.length c6) (by omega))
          have HXF := Lib.hid ((((((Ext.refl w).alloc _).alloc _).alloc _).trans (hb.trans hb6)).setCell (p := ⟨w5.heap.size, 4, none⟩) (by simp only []; omega) (.slice A6 l2.length c6))
          clear hb hb6
          clear HRO3 HBW HBX HBY HRO2 tl HTA HTN HLW HTL HMW HR6 HO6 hlz hy6 HR H3 HMV HX5 HNN hj6
          go_wp2
          exact bodyPost_ret (v := .tuple #[.agg #[.slice B1 ps.length d1, .slice B2 ns.length d2, .slice B3 up.length d3, .slice B4 pl.length d4, .slice A6 l2.length c6], .bool true]) (by simp [results, Tryz.results113, go_sem, *]) rfl ⟨B1, ps.length, d1, B2, ns.length, d2, B3, up.length, d3, B4, pl.length, d4, A6, l2.length, c6, by rw [HRN.out]; rfl, fun r hr => by rw [HRN.out] at hr; injection hr with hr; subst hr; exact ⟨rfl, rfl, rfl, by rw [HPLN.out]; exact HQ.out.1.symm, rfl, (HRO4.out.ext ((Ext.refl _).alloc _)).base (by omega)⟩, (fun h => by rw [HRN.out] at h; cases h), ((HXF.out.five (by omega) _ _ _ _ _).alloc _)⟩
theorem sReserve_c (ps : List Int) (ns : List Node) (up : List Bool) (pl : List (List Pt)) (lic : List Pt) (j : Job) (fr : Int) (nodes : List Int) (A : Option Addr) (n c : Nat) (v : Value) (w : World) (h : RoomAt w ps ns up (pl, lic) v) (ht : topoB ps ns = true) (hu : up.length = ns.length) (hr : roomOkM ns.length (pl, lic)) (h3 : SlAt RInt 1 w A n nodes) (hl3 : n ≤ maxLen) (hcap : n ≤ c) (hfr : In64 fr) : Calls Tryz.prog 113 #[v, .agg #[.int .i64 j.Id, .int .i64 j.Prio, .int .i64 j.Nodes, .int .i64 j.Need.A, .int .i64 j.Need.B, .int .i64 j.Need.C, .int .i64 j.Lic.A, .int .i64 j.Lic.B, .int .i64 j.Lic.C, .int .i64 j.Wall, .int .i64 j.Level], .int .i64 fr, .slice A n c] w (RetRoomSB w ps ns up (if (jobB j && jobNodesB ns.length j nodes && timeB fr) = true then moveM fr (fr + j.Wall) j nodes (pl, lic) else none)) := by
  refine (sReserveZ_c ps ns up pl lic j fr nodes A n c v w h ht hu hr h3 hl3 hcap hfr).mono ?_
  rintro e w1 ⟨A1, n1, c1, A2, n2, c2, A3, n3, c3, A4, n4, c4, A5, n5, c5, rfl, h1, _, hb⟩
  exact ⟨A1, n1, c1, A2, n2, c2, A3, n3, c3, A4, n4, c4, A5, n5, c5, rfl, h1, hb⟩
end Go.Proofs.YtgmlcohffdeplaaGreat
