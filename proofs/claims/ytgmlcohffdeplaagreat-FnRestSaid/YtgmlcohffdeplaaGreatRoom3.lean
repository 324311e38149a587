/- Contract: a room copied, the given way. Written by genroom.py. -/
import Derived.Test.YtgmlcohffdeplaaGreatRoom2
namespace Go.Proofs.YtgmlcohffdeplaaGreat
open Go.RowKit
set_option linter.unusedVariables false
def encS (t : Option Addr × Nat × Nat) : List Value := [.slice t.1 t.2.1 t.2.2]
theorem encS_one (t : Option Addr × Nat × Nat) : ∀ u ∈ encS t, u.oneCell' = true := by
  intro u hu; simp [encS] at hu; subst hu; rfl
def RetRoom (w : World) (ps : List Int) (ns : List Node) (up : List Bool) (r : List (List Pt) × List Pt) : Ending → World → Prop := fun e w' => ∃ A1 c1 A2 c2 A3 c3 A4 c4 A5 c5, e = .returned (.agg #[.slice A1 ps.length c1, .slice A2 ns.length c2, .slice A3 up.length c3, .slice A4 r.1.length c4, .slice A5 r.2.length c5]) ∧ RoomO w' w.heap.size ps ns up r A1 c1 A2 c2 A3 c3 A4 c4 A5 c5 ∧ Ext w w'
/-- What is known of two slices, a slice, a profile, a box, that were made. -/
def gTopo (lo : Nat) (ps : List Int) (ns : List Node) : GSp := ⟨fun v => ∃ A c B d, v = .agg #[.slice A ps.length c, .slice B ns.length d], fun v w => ∀ A c B d, v = .agg #[.slice A ps.length c, .slice B ns.length d] → w.ownsRow lo 3 1 (.slice A ps.length c) ps.length (ps.flatMap encInt) ∧ w.ownsRow lo 130 4 (.slice B ns.length d) ns.length (ns.flatMap Node.enc)⟩
def gUp (lo : Nat) (up : List Bool) : GSp := ⟨fun v => ∃ A c, v = .slice A up.length c, fun v w => ∀ A c, v = .slice A up.length c → w.ownsRow lo 4 1 (.slice A up.length c) up.length (up.flatMap encB)⟩
def gProf (lo : Nat) (l : List Pt) : GSp := ⟨fun v => ∃ A c, v = .agg #[.slice A l.length c], fun v w => ∀ A c, v = .agg #[.slice A l.length c] → w.ownsRow lo 107 4 (.slice A l.length c) l.length (l.flatMap Pt.enc)⟩
def gBox (lo : Nat) (e : TypeId) (sz : Nat) (cs : List Value) : GSp := ⟨fun v => ∃ b, lo ≤ b ∧ v = .pointer (some ⟨b, 0, none⟩), fun v w => ∀ b, v = .pointer (some ⟨b, 0, none⟩) → w.ownsRow lo e sz (.slice (some ⟨b, 0, none⟩) 1 1) 1 cs⟩
theorem gTopo_ok (lo : Nat) (ps : List Int) (ns : List Node) : (∀ v, FMono ((gTopo lo ps ns).F v)) ∧ ∃ v, (gTopo lo ps ns).V v := ⟨fun v w w' hb h A c B d e => ⟨owns_ext (h A c B d e).1 hb, owns_ext (h A c B d e).2 hb⟩, _, none, 0, none, 0, rfl⟩
theorem gUp_ok (lo : Nat) (up : List Bool) : (∀ v, FMono ((gUp lo up).F v)) ∧ ∃ v, (gUp lo up).V v := ⟨fun v w w' hb h A c e => owns_ext (h A c e) hb, _, none, 0, rfl⟩
theorem gProf_ok (lo : Nat) (l : List Pt) : (∀ v, FMono ((gProf lo l).F v)) ∧ ∃ v, (gProf lo l).V v := ⟨fun v w w' hb h A c e => owns_ext (h A c e) hb, _, none, 0, rfl⟩
theorem gBox_ok (lo : Nat) (e : TypeId) (sz : Nat) (cs : List Value) : (∀ v, FMono ((gBox lo e sz cs).F v)) ∧ ∃ v, (gBox lo e sz cs).V v := ⟨fun v w w' hb h b e => owns_ext (h b e) hb, _, lo, Nat.le_refl _, rfl⟩
set_option maxHeartbeats 16000000 in
set_option maxRecDepth 10000 in
theorem copyRoom_c (ps : List Int) (ns : List Node) (up : List Bool) (pl : List (List Pt)) (lic : List Pt) (v : Value) (w : World) (h : RoomAt w ps ns up (pl, lic) v) (hps : ps.length ≤ 24) (hns : ns.length ≤ 24) (hup : up.length ≤ 24) (hpl : pl.length ≤ 24) (hpi : ∀ p ∈ pl, p.length ≤ 200) (hli : lic.length ≤ 200) : Calls Tryz.prog 35 #[v] w (RetRoom w ps ns up (pl, lic)) := by
  obtain ⟨A1, c1, A2, c2, A3, c3, A4, c4, A5, c5, rfl, h1, h2, h3, h4, h5⟩ := h
  simp only [] at h4 h5 ⊢
  obtain ⟨i0, hi, hI0, hI1, hI2⟩ := info_parts CBool.info
  obtain ⟨i1, hi1, hJ0, hJ1, hJ2⟩ := info_parts CProf.info
  have HT := Lib.hid (fun (u : World) (e : Ext w u) => copyTopo_c ps ns A1 ps.length c1 A2 ns.length c2 u (h1.ext (Flat.mono _ _) e) (by omega) (h2.ext (Flat.mono _ _) e) (by omega))
  have HU := Lib.hid (fun (u : World) (e : Ext w u) => h3.ext (Flat.mono encB (fun _ => True)) e)
  have HL := Lib.hid (fun (u : World) (e : Ext w u) => copyProf_c lic A5 lic.length c5 u (h5.ext (Flat.mono _ _) e) (by omega))
  have H4 := Lib.hid (fun (u : World) (e : Ext w u) => h4.ext RPf.mono e)
  have HK := Lib.hid (show (∀ x ∈ ps, In64 x) ∧ (∀ x ∈ ns, x.ok) ∧ ∀ x ∈ lic, x.ok from ⟨h1.all, h2.all, h5.all⟩)
  have HPI := Lib.hid hpi
  clear h1 h2 h3 h4 h5 hpi
  generalize hpm : pl.length = pm at *
  have HPM := Lib.hid hpm
  clear hpm
  go_enter Tryz.func35, Tryz.ntmps35
  go_upto_region 1 with fail
  refine wp_region_grow_tab 11 [(2, gTopo (w.heap.size + 1 + 1) ps ns), (5, gUp (w.heap.size + 1 + 1) up), (8, gProf (w.heap.size + 1 + 1) lic), (10, gBox (w.heap.size + 1 + 1) 44 5 [.slice none 0 0, .slice none 0 0, .slice none 0 0, .slice none 0 0, .slice none 0 0])] (by kernel_rfl) (by kernel_rfl) (by simp only [List.forall_mem_cons]; exact ⟨gTopo_ok _ _ _, gUp_ok _ _, gProf_ok _ _, gBox_ok _ _ _ _, fun p hp => by cases hp⟩) ?_
  simp only [List.take, List.drop]
  have HLO := Lib.hid (fun (u : World) (hu : Ext ((w.alloc (.cells #[.slice A1 ps.length c1, .slice A2 ns.length c2, .slice A3 up.length c3, .slice A4 pm c4, .slice A5 lic.length c5] 44)).alloc (.cells #[.slice none 0 0, .slice none 0 0, .slice none 0 0, .slice none 0 0, .slice none 0 0] 44)) u) => show (w.heap.size + 1 + 1) ≤ u.heap.size from by have := hu.le; simpa using this)
  refine grow_constE (by rfl) (by rfl) ?_
  apply Exists.intro
  refine ⟨fun u hu => ?_, ?_⟩
  · (obtain ⟨hcu, hfu, hzu⟩ := hu.rules; go_simp; exact ⟨rfl, rfl⟩)
  intro Φ0 hΦ0
  simp only [Act.put, List.setIfInBounds_toArray, List.set_cons_succ, List.set_cons_zero]
  refine grow_constE (by rfl) (by rfl) ?_
  apply Exists.intro
  refine ⟨fun u hu => ?_, ?_⟩
  · (obtain ⟨hcu, hfu, hzu⟩ := hu.rules; go_simp; exact ⟨rfl, rfl⟩)
  intro Φ1 hΦ1
  simp only [Act.put, List.setIfInBounds_toArray, List.set_cons_succ, List.set_cons_zero]
  refine grow_make _ _ (by rfl) (by rfl) (fun u hu => ?_) ?_
  · go_simp
    refine ⟨Ext.refl _, (HT.out u ((((Ext.refl w).alloc _).alloc _).trans hu)).mono ?_⟩
    rintro e w2 ⟨A6, c6, A7, c7, rfl, ho2, ho2', hb2⟩
    exact ⟨_, rfl, hb2, ⟨A6, c6, A7, c7, rfl⟩, fun A c B d e => by cases e; exact ⟨owns_base ho2 (HLO.out u hu), owns_base ho2' (HLO.out u hu)⟩⟩
  rintro v2 ⟨A6, c6, A7, c7, rfl⟩ Φ2 hΦ2
  simp only [Act.put, List.setIfInBounds_toArray, List.set_cons_succ, List.set_cons_zero]
  refine grow_constE (by rfl) (by rfl) ?_
  apply Exists.intro
  refine ⟨fun u hu => ?_, ?_⟩
  · (obtain ⟨hcu, hfu, hzu⟩ := hu.rules; go_simp; exact ⟨rfl, rfl⟩)
  intro Φ3 hΦ3
  simp only [Act.put, List.setIfInBounds_toArray, List.set_cons_succ, List.set_cons_zero]
  refine grow_constE (by rfl) (by rfl) ?_
  apply Exists.intro
  refine ⟨fun u hu => ?_, ?_⟩
  · (obtain ⟨hcu, hfu, hzu⟩ := hu.rules; go_simp; exact ⟨rfl, rfl⟩)
  intro Φ4 hΦ4
  simp only [Act.put, List.setIfInBounds_toArray, List.set_cons_succ, List.set_cons_zero]
  refine grow_make _ _ (by rfl) (by rfl) (fun u hu => ?_) ?_
  · refine grow_append (enc := encB) (ok := fun _ => True) _ _ _ (by rfl) (w.heap.size + 1 + 1) 4 i0 _ 1 1 Tryz.underlying26 hi hI0 hI1 hI2 rfl (by omega) (.slice none 0 0) 0 [] A3 up.length c3 up up.length (by simp) (by rfl) (by rfl) (World.ownsRow_nil _ _ _ _) (HU.out u ((((Ext.refl w).alloc _).alloc _).trans hu)) (fun _ => rfl) encB_one (by unfold maxLen; omega) (by omega) (HLO.out u hu) ?_
    intro A' c' w' hr
    exact ⟨hr.nil_ext, ⟨A', c', rfl⟩, fun A c e => by cases e; exact hr.row⟩
  rintro v5 ⟨A8, c8, rfl⟩ Φ5 hΦ5
  simp only [Act.put, List.setIfInBounds_toArray, List.set_cons_succ, List.set_cons_zero]
  refine grow_constE (by rfl) (by rfl) ?_
  apply Exists.intro
  refine ⟨fun u hu => ?_, ?_⟩
  · (obtain ⟨hcu, hfu, hzu⟩ := hu.rules; go_simp; exact ⟨rfl, rfl⟩)
  intro Φ6 hΦ6
  simp only [Act.put, List.setIfInBounds_toArray, List.set_cons_succ, List.set_cons_zero]
  refine grow_constE (by rfl) (by rfl) ?_
  apply Exists.intro
  refine ⟨fun u hu => ?_, ?_⟩
  · (obtain ⟨hcu, hfu, hzu⟩ := hu.rules; go_simp; exact ⟨rfl, rfl⟩)
  intro Φ7 hΦ7
  simp only [Act.put, List.setIfInBounds_toArray, List.set_cons_succ, List.set_cons_zero]
  refine grow_make _ _ (by rfl) (by rfl) (fun u hu => ?_) ?_
  · go_simp
    refine ⟨Ext.refl _, (HL.out u ((((Ext.refl w).alloc _).alloc _).trans hu)).mono ?_⟩
    rintro e w2 ⟨A9, c9, rfl, ho2, hb2⟩
    exact ⟨_, rfl, hb2, ⟨A9, c9, rfl⟩, fun A c e => by cases e; exact owns_base ho2 (HLO.out u hu)⟩
  rintro v8 ⟨A9, c9, rfl⟩ Φ8 hΦ8
  simp only [Act.put, List.setIfInBounds_toArray, List.set_cons_succ, List.set_cons_zero]
  refine grow_constE (by rfl) (by rfl) ?_
  apply Exists.intro
  refine ⟨fun u hu => ?_, ?_⟩
  · (obtain ⟨hcu, hfu, hzu⟩ := hu.rules; go_simp; exact ⟨rfl, rfl⟩)
  intro Φ9 hΦ9
  simp only [Act.put, List.setIfInBounds_toArray, List.set_cons_succ, List.set_cons_zero]
  refine grow_make _ _ (by rfl) (by rfl) (fun u hu => ?_) ?_
  · go_simp
    exact ⟨(Ext.refl u).alloc _, ⟨u.heap.size, HLO.out u hu, rfl⟩, fun b e => by cases e; exact owns_base (gbox u [.slice none 0 0, .slice none 0 0, .slice none 0 0, .slice none 0 0, .slice none 0 0] 44 5 rfl) (HLO.out u hu)⟩
  rintro v10 ⟨b, hb, rfl⟩ Φ10 hΦ10
  simp only [Act.put, List.setIfInBounds_toArray, List.set_cons_succ, List.set_cons_zero]
  refine grow_nil ?_
  intro wx hx hΦ
  have p10 := hΦ10 wx hΦ
  have p9 := hΦ9 wx p10.1
  have p8 := hΦ8 wx p9
  have p7 := hΦ7 wx p8.1
  have p6 := hΦ6 wx p7
  have p5 := hΦ5 wx p6
  have p4 := hΦ4 wx p5.1
  have p3 := hΦ3 wx p4
  have p2 := hΦ2 wx p3
  have HBX := Lib.hid (p10.2 b rfl)
  have HF := Lib.hid (room_fill (w := wx) (lo := (w.heap.size + 1 + 1)) (r := ([], lic)) (A4 := none) (c4 := 0) ⟨(p2.2 A6 c6 A7 c7 rfl).1, (p2.2 A6 c6 A7 c7 rfl).2, p5.2 A8 c8 rfl, PO.nil _ _, p8.2 A9 c9 rfl, HK.out.1, HK.out.2.1, HK.out.2.2⟩ HBX.out (.slice A6 ps.length c6) (.slice A7 ns.length c7) (.slice A8 up.length c8) (.slice none 0 0) (.slice A9 lic.length c9))
  clear hΦ p10 p9 p8 p7 p6 p5 p4 p3 p2 hΦ0 hΦ1 hΦ2 hΦ3 hΦ4 hΦ5 hΦ6 hΦ7 hΦ8 hΦ9 hΦ10 Φ0 Φ1 Φ2 Φ3 Φ4 Φ5 Φ6 Φ7 Φ8 Φ9 Φ10
  obtain ⟨t0, t1, t2, t3, t4, tf0, tf1, tf2, tf3, tf4, tl⟩ := gcells5 HBX.out
  have hbb := (HBX.out.lt b rfl).1
  have y0 := (((Ext.refl _).alloc _).trans hx).cell (cell_box_at w (w.heap.size) (by simp) [.slice A1 ps.length c1, .slice A2 ns.length c2, .slice A3 up.length c3, .slice A4 pm c4, .slice A5 lic.length c5] 44 0 _ rfl)
  have y1 := (((Ext.refl _).alloc _).trans hx).cell (cell_box_at w (w.heap.size) (by simp) [.slice A1 ps.length c1, .slice A2 ns.length c2, .slice A3 up.length c3, .slice A4 pm c4, .slice A5 lic.length c5] 44 1 _ rfl)
  have y2 := (((Ext.refl _).alloc _).trans hx).cell (cell_box_at w (w.heap.size) (by simp) [.slice A1 ps.length c1, .slice A2 ns.length c2, .slice A3 up.length c3, .slice A4 pm c4, .slice A5 lic.length c5] 44 2 _ rfl)
  have y3 := (((Ext.refl _).alloc _).trans hx).cell (cell_box_at w (w.heap.size) (by simp) [.slice A1 ps.length c1, .slice A2 ns.length c2, .slice A3 up.length c3, .slice A4 pm c4, .slice A5 lic.length c5] 44 3 _ rfl)
  have y4 := (((Ext.refl _).alloc _).trans hx).cell (cell_box_at w (w.heap.size) (by simp) [.slice A1 ps.length c1, .slice A2 ns.length c2, .slice A3 up.length c3, .slice A4 pm c4, .slice A5 lic.length c5] 44 4 _ rfl)
  have yf0 := ((((Ext.refl _).alloc _).trans hx).frozenEq (a := ⟨w.heap.size, 0, none⟩) (by simp)).trans (frozen_box_at w (w.heap.size) (by simp) #[.slice A1 ps.length c1, .slice A2 ns.length c2, .slice A3 up.length c3, .slice A4 pm c4, .slice A5 lic.length c5] 44 0)
  have yf1 := ((((Ext.refl _).alloc _).trans hx).frozenEq (a := ⟨w.heap.size, 1, none⟩) (by simp)).trans (frozen_box_at w (w.heap.size) (by simp) #[.slice A1 ps.length c1, .slice A2 ns.length c2, .slice A3 up.length c3, .slice A4 pm c4, .slice A5 lic.length c5] 44 1)
  have yf2 := ((((Ext.refl _).alloc _).trans hx).frozenEq (a := ⟨w.heap.size, 2, none⟩) (by simp)).trans (frozen_box_at w (w.heap.size) (by simp) #[.slice A1 ps.length c1, .slice A2 ns.length c2, .slice A3 up.length c3, .slice A4 pm c4, .slice A5 lic.length c5] 44 2)
  have yf3 := ((((Ext.refl _).alloc _).trans hx).frozenEq (a := ⟨w.heap.size, 3, none⟩) (by simp)).trans (frozen_box_at w (w.heap.size) (by simp) #[.slice A1 ps.length c1, .slice A2 ns.length c2, .slice A3 up.length c3, .slice A4 pm c4, .slice A5 lic.length c5] 44 3)
  have yf4 := ((((Ext.refl _).alloc _).trans hx).frozenEq (a := ⟨w.heap.size, 4, none⟩) (by simp)).trans (frozen_box_at w (w.heap.size) (by simp) #[.slice A1 ps.length c1, .slice A2 ns.length c2, .slice A3 up.length c3, .slice A4 pm c4, .slice A5 lic.length c5] 44 4)
  have hyl := lt_of_cell y0
  have hyb : w.heap.size ≠ b := by omega
  go_wp2
  go_loopw [19] (fun iv wr => ∃ (k : Nat) (A10 : Option Addr) (c10 : Nat), k ≤ pm ∧ iv = .int .i64 k ∧ Hid (RoomO wr (w.heap.size + 1 + 1) ps ns up (pl.take k, lic) A6 c6 A7 c7 A8 c8 A10 c10 A9 c9) ∧ Hid (wr.ownsRow (w.heap.size + 1 + 1) 44 5 (.slice (some ⟨b, 0, none⟩) 1 1) 1 [.slice A6 ps.length c6, .slice A7 ns.length c7, .slice A8 up.length c8, .slice A10 k c10, .slice A9 lic.length c9]) ∧ Ext ((w.alloc (.cells #[.slice A1 ps.length c1, .slice A2 ns.length c2, .slice A3 up.length c3, .slice A4 pm c4, .slice A5 lic.length c5] 44)).alloc (.cells #[.slice none 0 0, .slice none 0 0, .slice none 0 0, .slice none 0 0, .slice none 0 0] 44)) wr) (fun iv _ => pm - (intOf iv).toNat)
  case atStart => exact ⟨0, none, 0, Nat.zero_le _, rfl, Lib.hid HF.out.1, Lib.hid HF.out.2, (by repeat (first | exact Ext.refl _ | assumption | apply Ext.alloc | apply Ext.drewN | apply Ext.drew | (refine Ext.setCell ?_ (by first | (simp; done) | (simp; omega) | omega) _) | (refine Ext.trans ?_ (by assumption))))⟩
  case round =>
    clear t0 t1 t2 t3 t4 tf0 tf1 tf2 tf3 tf4 tl HBX HF y0 y1 y2 y3 y4 yf0 yf1 yf2 yf3 yf4 hyl
    obtain ⟨k, A10, c10, hk, rfl, HRO, HBX, hb⟩ := hrel
    by_cases hlt : k < pm
    · obtain ⟨bq, oq, x, cs, rfl, hbw, hx2, _, hc, Aq, cq, rfl, hs⟩ := (H4.out wr ((((Ext.refl w).alloc _).alloc _).trans hb)).at_ hlt
      have g0 := hc 0 _ rfl
      simp only [Nat.mul_one, Nat.add_zero] at g0
      have HX := Lib.hid hx2
      have HXL := Lib.hid (HPI.out x (List.mem_of_getElem? hx2))
      have hxl := HXL.out
      have HXK := Lib.hid hs.all
      have HCP := Lib.hid (fun (u : World) (e : Ext wr u) => copyProf_c x Aq x.length cq u (hs.ext (Flat.mono _ _) e) (by omega))
      obtain ⟨hpl1, L, hL, hLi⟩ := HRO.out.pro
      have HTK := Lib.hid (show (pl.take k).length = k by rw [List.length_take, HPM.out]; omega)
      have HLL := Lib.hid (show wr.ownsRow (w.heap.size + 1 + 1) 42 1 (.slice A10 k c10) k L by rw [← HTK.out]; exact hL)
      have HLI := Lib.hid hLi
      have t3 := (gcells5 HBX.out).2.2.2.1
      have tl := (HBX.out.lt b rfl).2
      have hbb2 := (HBX.out.lt b rfl).1
      clear hx2 hc hs hpl1 hL hLi
      go_wp2
      go_region_law (first | (go_simp; go_at_call 77; (with_reducible refine (HCP.out _ (by repeat (first | exact Ext.refl _ | apply Ext.alloc | apply Ext.drew))).mono ?_); rintro e w4 ⟨A11, c11, rfl, ho4, hb4⟩; have HE4 := Lib.hid (show Ext wr w4 from Ext.trans (by repeat (first | exact Ext.refl _ | apply Ext.alloc | apply Ext.drew)) hb4); have HO4 := Lib.hid (owns_base ho4 (show (w.heap.size + 1 + 1) ≤ _ from (by simp; omega))); have x4 := HE4.out.cell t3; have hl4 := Nat.lt_of_lt_of_le tl HE4.out.le; clear ho4 hb4) | (refine step_append_r (enc := encS) (ok := fun _ => True) (by rfl) _ _ _ (by rfl) (w.heap.size + 1 + 1) 42 i1 _ 1 24 Tryz.underlying39 hi1 hJ0 hJ1 hJ2 rfl (by omega) (.slice A10 k c10) k L _ 1 1 [(A11, x.length, c11)] (k + 1) rfl (by rfl) (by rfl) (owns_ext HLL.out (HE4.out.alloc _)) (by exact sl_one_r (enc := encS) w4 (A11, x.length, c11) 42 rfl trivial) (fun _ => rfl) encS_one (by unfold maxLen; omega) (by omega) (by simp; omega) ?_; intro A12 c12 w5 hr5; have HB5 := Lib.hid (hr5.other (owns_ext HBX.out (HE4.out.alloc (.cells (encS (A11, x.length, c11)).toArray 42))) (g_apart HBX.out HLL.out (by decide))); have x5 := (gcells5 HB5.out).2.2.2.1; have xf5 := HB5.out.frozenAt 3; have hl5 := (HB5.out.lt b rfl).2))
      all_goals
        have HR5 := Lib.hid hr5
        have HRN := Lib.hid ((HRO.out.ext (HE4.out.alloc (.cells (encS (A11, x.length, c11)).toArray 42))).push HTK.out (owns_ext HLL.out (HE4.out.alloc _)) (fun j p hj => by obtain ⟨Ap, cp, e1, e2, e3⟩ := HLI.out j p hj; exact ⟨Ap, cp, e1, owns_ext e2 (HE4.out.alloc _), e3⟩) HR5.out (by simp [encS]) (owns_ext HO4.out ((Ext.refl w4).alloc _)) HXK.out)
        have HXT := Lib.hid (ext_turned (hb.trans (HE4.out.alloc (.cells (encS (A11, x.length, c11)).toArray 42))) (HR5.out.turned (lo := (w.heap.size + 1 + 1)) (fun q hq => (HLL.out.lt q hq).1)) (by simp))
        clear hr5 x4 t3 tl
        go_wp2
        go_roundw
        case rel => exact ⟨k + 1, A12, c12, by omega, by go_num, Lib.hid (by rw [take_succ HX.out]; exact HRN.out.far HB5.out), Lib.hid (HB5.out.stored 3 _).1, HXT.out.setCell (by simp; omega) _⟩
        case measure => simp [intOf]; omega
    · obtain rfl : k = pm := by omega
      have HPT := Lib.hid (show pl.take k = pl by rw [List.take_of_length_le (by have := HPM.out; omega)])
      rw [HPT.out] at HRO
      obtain ⟨t0, t1, t2, t3, t4, tf0, tf1, tf2, tf3, tf4, tl⟩ := gcells5 HBX.out
      have q0 := (hb).cell (cell_box_at (w.alloc (.cells #[.slice A1 ps.length c1, .slice A2 ns.length c2, .slice A3 up.length c3, .slice A4 k c4, .slice A5 lic.length c5] 44)) (w.heap.size + 1) (by simp) [.slice none 0 0, .slice none 0 0, .slice none 0 0, .slice none 0 0, .slice none 0 0] 44 0 _ rfl)
      have q1 := (hb).cell (cell_box_at (w.alloc (.cells #[.slice A1 ps.length c1, .slice A2 ns.length c2, .slice A3 up.length c3, .slice A4 k c4, .slice A5 lic.length c5] 44)) (w.heap.size + 1) (by simp) [.slice none 0 0, .slice none 0 0, .slice none 0 0, .slice none 0 0, .slice none 0 0] 44 1 _ rfl)
      have q2 := (hb).cell (cell_box_at (w.alloc (.cells #[.slice A1 ps.length c1, .slice A2 ns.length c2, .slice A3 up.length c3, .slice A4 k c4, .slice A5 lic.length c5] 44)) (w.heap.size + 1) (by simp) [.slice none 0 0, .slice none 0 0, .slice none 0 0, .slice none 0 0, .slice none 0 0] 44 2 _ rfl)
      have q3 := (hb).cell (cell_box_at (w.alloc (.cells #[.slice A1 ps.length c1, .slice A2 ns.length c2, .slice A3 up.length c3, .slice A4 k c4, .slice A5 lic.length c5] 44)) (w.heap.size + 1) (by simp) [.slice none 0 0, .slice none 0 0, .slice none 0 0, .slice none 0 0, .slice none 0 0] 44 3 _ rfl)
      have q4 := (hb).cell (cell_box_at (w.alloc (.cells #[.slice A1 ps.length c1, .slice A2 ns.length c2, .slice A3 up.length c3, .slice A4 k c4, .slice A5 lic.length c5] 44)) (w.heap.size + 1) (by simp) [.slice none 0 0, .slice none 0 0, .slice none 0 0, .slice none 0 0, .slice none 0 0] 44 4 _ rfl)
      have qf0 := ((hb).frozenEq (a := ⟨w.heap.size + 1, 0, none⟩) (by simp)).trans (frozen_box_at (w.alloc (.cells #[.slice A1 ps.length c1, .slice A2 ns.length c2, .slice A3 up.length c3, .slice A4 k c4, .slice A5 lic.length c5] 44)) (w.heap.size + 1) (by simp) #[.slice none 0 0, .slice none 0 0, .slice none 0 0, .slice none 0 0, .slice none 0 0] 44 0)
      have qf1 := ((hb).frozenEq (a := ⟨w.heap.size + 1, 1, none⟩) (by simp)).trans (frozen_box_at (w.alloc (.cells #[.slice A1 ps.length c1, .slice A2 ns.length c2, .slice A3 up.length c3, .slice A4 k c4, .slice A5 lic.length c5] 44)) (w.heap.size + 1) (by simp) #[.slice none 0 0, .slice none 0 0, .slice none 0 0, .slice none 0 0, .slice none 0 0] 44 1)
      have qf2 := ((hb).frozenEq (a := ⟨w.heap.size + 1, 2, none⟩) (by simp)).trans (frozen_box_at (w.alloc (.cells #[.slice A1 ps.length c1, .slice A2 ns.length c2, .slice A3 up.length c3, .slice A4 k c4, .slice A5 lic.length c5] 44)) (w.heap.size + 1) (by simp) #[.slice none 0 0, .slice none 0 0, .slice none 0 0, .slice none 0 0, .slice none 0 0] 44 2)
      have qf3 := ((hb).frozenEq (a := ⟨w.heap.size + 1, 3, none⟩) (by simp)).trans (frozen_box_at (w.alloc (.cells #[.slice A1 ps.length c1, .slice A2 ns.length c2, .slice A3 up.length c3, .slice A4 k c4, .slice A5 lic.length c5] 44)) (w.heap.size + 1) (by simp) #[.slice none 0 0, .slice none 0 0, .slice none 0 0, .slice none 0 0, .slice none 0 0] 44 3)
      have qf4 := ((hb).frozenEq (a := ⟨w.heap.size + 1, 4, none⟩) (by simp)).trans (frozen_box_at (w.alloc (.cells #[.slice A1 ps.length c1, .slice A2 ns.length c2, .slice A3 up.length c3, .slice A4 k c4, .slice A5 lic.length c5] 44)) (w.heap.size + 1) (by simp) #[.slice none 0 0, .slice none 0 0, .slice none 0 0, .slice none 0 0, .slice none 0 0] 44 4)
      have hql := lt_of_cell q0
      have hqb : w.heap.size + 1 ≠ b := by omega
      have HRB := Lib.hid (((((HRO.out.low (b := w.heap.size + 1) (p := 0) (u := .slice A6 ps.length c6) (by omega)).low (b := w.heap.size + 1) (p := 1) (u := .slice A7 ns.length c7) (by omega)).low (b := w.heap.size + 1) (p := 2) (u := .slice A8 up.length c8) (by omega)).low (b := w.heap.size + 1) (p := 3) (u := .slice A10 k c10) (by omega)).low (b := w.heap.size + 1) (p := 4) (u := .slice A9 lic.length c9) (by omega))
      have hxx : Ext w wr := (((Ext.refl w).alloc _).alloc _).trans hb
      clear HRO hb
      go_wp2
      exact bodyPost_ret (v := .agg #[.slice A6 ps.length c6, .slice A7 ns.length c7, .slice A8 up.length c8, .slice A10 k c10, .slice A9 lic.length c9]) (by simp [results, Tryz.results35, go_sem, *]) rfl ⟨A6, c6, A7, c7, A8, c8, A10, c10, A9, c9, by rw [HPM.out], HRB.out.base (by omega), (by repeat (first | exact Ext.refl _ | assumption | apply Ext.alloc | apply Ext.drewN | apply Ext.drew | (refine Ext.setCell ?_ (by first | (simp; done) | (simp; omega) | omega) _) | (refine Ext.trans ?_ (by assumption))))⟩
end Go.Proofs.YtgmlcohffdeplaaGreat
