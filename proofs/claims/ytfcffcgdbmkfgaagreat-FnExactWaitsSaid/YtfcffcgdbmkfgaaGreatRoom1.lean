/- Contracts: a profile taken, made, copied; a tree copied, the given way. -/
import Derived.Test.YtfcffcgdbmkfgaaGreatPRow
import Derived.Deep.RegionLaw
namespace Go.Proofs.YtfcffcgdbmkfgaaGreat
open Go.RowKit
set_option linter.unusedVariables false
set_option maxHeartbeats 8000000 in
set_option maxRecDepth 8000 in
theorem ProfTake_c (xs : List Pt) (fr to : Int) (v : Vec) (A : Option Addr) (n c : Nat) (w : World) (h : SlAt RPt 4 w A n xs) (hl : n ≤ maxLen) : Calls Tryz.prog 89 #[.agg #[.slice A n c], .int .i64 fr, .int .i64 to, .agg #[.int .i64 v.A, .int .i64 v.B, .int .i64 v.C]] w (RetP w (takeQ xs fr to v)) := by
  have hM := Flat.mono Pt.enc Pt.ok
  have HPO := Lib.hid (fun (u : World) (e : Ext w u) => ProfOk_c xs A n c u (h.ext hM e) hl)
  have HCH := Lib.hid (fun (u : World) (e : Ext w u) (hp : profB xs = true) (hs : spanT fr to = true) => changed_c xs fr to (fun x => subV x v) (fitsB v) 114 #[.pointer (some ⟨w.heap.size + 1, 0, none⟩)] A n c u (h.ext hM e) hp hs (fun x hx hb => byV_ok (v := v) (x := x) (by unfold byV; rw [if_pos hb])) Take1_run)
  have HSP := Lib.hid (fun u : World => isSpan_c fr to u)
  have HVO := Lib.hid (fun u : World => VecOk_c v u)
  have HQ := Lib.hid (show takeQ xs fr to v = if (profB xs && spanB fr to && vecB v) = true then takeP xs fr to v else none from rfl)
  have HTP := Lib.hid (show takeP xs fr to v = takeG xs fr to (byG (fun x => subV x v) (fitsB v)) from rfl)
  clear h
  generalize takeQ xs fr to v = R at *
  rcases (Bool.eq_false_or_eq_true (profB xs)).symm with h1 | h1
  all_goals rw [h1] at HPO HQ
  · have HN := Lib.hid (show R = none by rw [HQ.out]; rfl)
    clear HQ HTP h1 HCH
    go_enter Tryz.func89, Tryz.ntmps89
    go_wp2_with fail
    refine (HPO.out _ (by repeat (first | exact Ext.refl _ | assumption | apply Ext.alloc | apply Ext.drewN | apply Ext.drew | (refine Ext.setCell ?_ (by first | (simp; done) | (simp; omega) | omega) _) | (refine Ext.trans ?_ (by assumption))))).mono ?_
    rintro e w1 ⟨rfl, hb1⟩
    obtain ⟨hcr1, hfr1, hz1⟩ := hb1.rules
    (try simp at hz1)
    have hy1_w0 : w.heap.size < w1.heap.size := (by omega)
    have hy1_w1 : w.heap.size + 1 < w1.heap.size := (by omega)
    have hy1_w2 : w.heap.size + 1 + 1 < w1.heap.size := (by omega)
    have q0 := (hb1).cell (cell_box_at ((w.alloc (.cells #[.slice A n c] 96)).alloc (.cells #[.int .i64 v.A, .int .i64 v.B, .int .i64 v.C] 39)) (w.heap.size + 1 + 1) (by simp) [.slice none 0 0] 96 0 _ rfl)
    have qf0 := ((hb1).frozenEq (a := ⟨w.heap.size + 1 + 1, 0, none⟩) (by simp)).trans (frozen_box_at ((w.alloc (.cells #[.slice A n c] 96)).alloc (.cells #[.int .i64 v.A, .int .i64 v.B, .int .i64 v.C] 39)) (w.heap.size + 1 + 1) (by simp) #[.slice none 0 0] 96 0)
    go_wp2
    exact bodyPost_ret (v := .tuple #[.agg #[.slice none 0 0], .bool false]) (by simp [results, Tryz.results89, go_sem, *]) rfl (retP_none HN.out (by repeat (first | exact Ext.refl _ | assumption | apply Ext.alloc | apply Ext.drewN | apply Ext.drew | (refine Ext.setCell ?_ (by first | (simp; done) | (simp; omega) | omega) _) | (refine Ext.trans ?_ (by assumption)))))
  rcases (Bool.eq_false_or_eq_true (spanB fr to)).symm with h2 | h2
  all_goals rw [h2] at HSP HQ
  · have HN := Lib.hid (show R = none by rw [HQ.out]; rfl)
    clear HQ HTP h1 h2 HCH
    go_enter Tryz.func89, Tryz.ntmps89
    go_wp2_with fail
    refine (HPO.out _ (by repeat (first | exact Ext.refl _ | assumption | apply Ext.alloc | apply Ext.drewN | apply Ext.drew | (refine Ext.setCell ?_ (by first | (simp; done) | (simp; omega) | omega) _) | (refine Ext.trans ?_ (by assumption))))).mono ?_
    rintro e w1 ⟨rfl, hb1⟩
    obtain ⟨hcr1, hfr1, hz1⟩ := hb1.rules
    (try simp at hz1)
    have hy1_w0 : w.heap.size < w1.heap.size := (by omega)
    have hy1_w1 : w.heap.size + 1 < w1.heap.size := (by omega)
    have hy1_w2 : w.heap.size + 1 + 1 < w1.heap.size := (by omega)
    go_wp2_with fail
    refine (HSP.out _).mono ?_
    rintro e w2 ⟨rfl, rfl⟩
    have q0 := (hb1).cell (cell_box_at ((w.alloc (.cells #[.slice A n c] 96)).alloc (.cells #[.int .i64 v.A, .int .i64 v.B, .int .i64 v.C] 39)) (w.heap.size + 1 + 1) (by simp) [.slice none 0 0] 96 0 _ rfl)
    have qf0 := ((hb1).frozenEq (a := ⟨w.heap.size + 1 + 1, 0, none⟩) (by simp)).trans (frozen_box_at ((w.alloc (.cells #[.slice A n c] 96)).alloc (.cells #[.int .i64 v.A, .int .i64 v.B, .int .i64 v.C] 39)) (w.heap.size + 1 + 1) (by simp) #[.slice none 0 0] 96 0)
    go_wp2
    exact bodyPost_ret (v := .tuple #[.agg #[.slice none 0 0], .bool false]) (by simp [results, Tryz.results89, go_sem, *]) rfl (retP_none HN.out (by repeat (first | exact Ext.refl _ | assumption | apply Ext.alloc | apply Ext.drewN | apply Ext.drew | (refine Ext.setCell ?_ (by first | (simp; done) | (simp; omega) | omega) _) | (refine Ext.trans ?_ (by assumption)))))
  rcases (Bool.eq_false_or_eq_true (vecB v)).symm with h3 | h3
  all_goals rw [h3] at HVO HQ
  · have HN := Lib.hid (show R = none by rw [HQ.out]; rfl)
    clear HQ HTP h1 h2 h3 HCH
    go_enter Tryz.func89, Tryz.ntmps89
    go_wp2_with fail
    refine (HPO.out _ (by repeat (first | exact Ext.refl _ | assumption | apply Ext.alloc | apply Ext.drewN | apply Ext.drew | (refine Ext.setCell ?_ (by first | (simp; done) | (simp; omega) | omega) _) | (refine Ext.trans ?_ (by assumption))))).mono ?_
    rintro e w1 ⟨rfl, hb1⟩
    obtain ⟨hcr1, hfr1, hz1⟩ := hb1.rules
    (try simp at hz1)
    have hy1_w0 : w.heap.size < w1.heap.size := (by omega)
    have hy1_w1 : w.heap.size + 1 < w1.heap.size := (by omega)
    have hy1_w2 : w.heap.size + 1 + 1 < w1.heap.size := (by omega)
    go_wp2_with fail
    refine (HSP.out _).mono ?_
    rintro e w2 ⟨rfl, rfl⟩
    go_wp2_with fail
    refine (HVO.out _).mono ?_
    rintro e w3 ⟨rfl, hb3⟩
    obtain ⟨hcr3, hfr3, hz3⟩ := hb3.rules
    (try simp at hz3)
    have hy3_w0 : w.heap.size < w3.heap.size := (by omega)
    have hy3_w1 : w.heap.size + 1 < w3.heap.size := (by omega)
    have hy3_w2 : w.heap.size + 1 + 1 < w3.heap.size := (by omega)
    have q0 := (hb1.trans hb3).cell (cell_box_at ((w.alloc (.cells #[.slice A n c] 96)).alloc (.cells #[.int .i64 v.A, .int .i64 v.B, .int .i64 v.C] 39)) (w.heap.size + 1 + 1) (by simp) [.slice none 0 0] 96 0 _ rfl)
    have qf0 := ((hb1.trans hb3).frozenEq (a := ⟨w.heap.size + 1 + 1, 0, none⟩) (by simp)).trans (frozen_box_at ((w.alloc (.cells #[.slice A n c] 96)).alloc (.cells #[.int .i64 v.A, .int .i64 v.B, .int .i64 v.C] 39)) (w.heap.size + 1 + 1) (by simp) #[.slice none 0 0] 96 0)
    go_wp2
    exact bodyPost_ret (v := .tuple #[.agg #[.slice none 0 0], .bool false]) (by simp [results, Tryz.results89, go_sem, *]) rfl (retP_none HN.out (by repeat (first | exact Ext.refl _ | assumption | apply Ext.alloc | apply Ext.drewN | apply Ext.drew | (refine Ext.setCell ?_ (by first | (simp; done) | (simp; omega) | omega) _) | (refine Ext.trans ?_ (by assumption)))))
  · have HN := Lib.hid (show R = takeG xs fr to (byG (fun x => subV x v) (fitsB v)) by rw [HQ.out, HTP.out]; rfl)
    have HCG := Lib.hid (fun (u : World) (e : Ext w u) => HCH.out u e h1 (show spanB fr to = true from h2))
    rw [← HN.out] at HCG
    clear HQ HTP h1 h2 h3 HCH HN
    go_enter Tryz.func89, Tryz.ntmps89
    go_wp2_with fail
    refine (HPO.out _ (by repeat (first | exact Ext.refl _ | assumption | apply Ext.alloc | apply Ext.drewN | apply Ext.drew | (refine Ext.setCell ?_ (by first | (simp; done) | (simp; omega) | omega) _) | (refine Ext.trans ?_ (by assumption))))).mono ?_
    rintro e w1 ⟨rfl, hb1⟩
    obtain ⟨hcr1, hfr1, hz1⟩ := hb1.rules
    (try simp at hz1)
    have hy1_w0 : w.heap.size < w1.heap.size := (by omega)
    have hy1_w1 : w.heap.size + 1 < w1.heap.size := (by omega)
    have hy1_w2 : w.heap.size + 1 + 1 < w1.heap.size := (by omega)
    go_wp2_with fail
    refine (HSP.out _).mono ?_
    rintro e w2 ⟨rfl, rfl⟩
    go_wp2_with fail
    refine (HVO.out _).mono ?_
    rintro e w3 ⟨rfl, hb3⟩
    obtain ⟨hcr3, hfr3, hz3⟩ := hb3.rules
    (try simp at hz3)
    have hy3_w0 : w.heap.size < w3.heap.size := (by omega)
    have hy3_w1 : w.heap.size + 1 < w3.heap.size := (by omega)
    have hy3_w2 : w.heap.size + 1 + 1 < w3.heap.size := (by omega)
    have hx3 : Ext w w3 := (by repeat (first | exact Ext.refl _ | assumption | apply Ext.alloc | apply Ext.drewN | apply Ext.drew | (refine Ext.setCell ?_ (by first | (simp; done) | (simp; omega) | omega) _) | (refine Ext.trans ?_ (by assumption))))
    have p0 := (((Ext.refl _).alloc _).trans (hb1.trans hb3)).cell (cell_box_at (w.alloc (.cells #[.slice A n c] 96)) (w.heap.size + 1) (by simp) [.int .i64 v.A, .int .i64 v.B, .int .i64 v.C] 39 0 _ rfl)
    have p1 := (((Ext.refl _).alloc _).trans (hb1.trans hb3)).cell (cell_box_at (w.alloc (.cells #[.slice A n c] 96)) (w.heap.size + 1) (by simp) [.int .i64 v.A, .int .i64 v.B, .int .i64 v.C] 39 1 _ rfl)
    have p2 := (((Ext.refl _).alloc _).trans (hb1.trans hb3)).cell (cell_box_at (w.alloc (.cells #[.slice A n c] 96)) (w.heap.size + 1) (by simp) [.int .i64 v.A, .int .i64 v.B, .int .i64 v.C] 39 2 _ rfl)
    have pf0 := ((((Ext.refl _).alloc _).trans (hb1.trans hb3)).frozenEq (a := ⟨w.heap.size + 1, 0, none⟩) (by simp)).trans (frozen_box_at (w.alloc (.cells #[.slice A n c] 96)) (w.heap.size + 1) (by simp) #[.int .i64 v.A, .int .i64 v.B, .int .i64 v.C] 39 0)
    have pf1 := ((((Ext.refl _).alloc _).trans (hb1.trans hb3)).frozenEq (a := ⟨w.heap.size + 1, 1, none⟩) (by simp)).trans (frozen_box_at (w.alloc (.cells #[.slice A n c] 96)) (w.heap.size + 1) (by simp) #[.int .i64 v.A, .int .i64 v.B, .int .i64 v.C] 39 1)
    have pf2 := ((((Ext.refl _).alloc _).trans (hb1.trans hb3)).frozenEq (a := ⟨w.heap.size + 1, 2, none⟩) (by simp)).trans (frozen_box_at (w.alloc (.cells #[.slice A n c] 96)) (w.heap.size + 1) (by simp) #[.int .i64 v.A, .int .i64 v.B, .int .i64 v.C] 39 2)
    have hp1 : w.heap.size + 1 < w3.heap.size := by omega
    go_wp2_with fail
    refine (HCG.out _ hx3 (fun x u hu => Take1_c x v (w.heap.size + 1) u (Nat.lt_of_lt_of_le hp1 hu.le) (hu.cell p0) (hu.cell p1) (hu.cell p2))).mono ?_
    rintro e w5 ⟨A5, c5, l, rfl, hr, ho5, hy5, hb5⟩
    have HR := Lib.hid hr
    have HO5 := Lib.hid ho5
    have HY5 := Lib.hid hy5
    have hz5 := hb5.le
    have hq5 : w.heap.size + 1 + 1 < w5.heap.size := by omega
    clear hr ho5 hy5
    have q0 := (hb1.trans (hb3.trans hb5)).cell (cell_box_at ((w.alloc (.cells #[.slice A n c] 96)).alloc (.cells #[.int .i64 v.A, .int .i64 v.B, .int .i64 v.C] 39)) (w.heap.size + 1 + 1) (by simp) [.slice none 0 0] 96 0 _ rfl)
    have qf0 := ((hb1.trans (hb3.trans hb5)).frozenEq (a := ⟨w.heap.size + 1 + 1, 0, none⟩) (by simp)).trans (frozen_box_at ((w.alloc (.cells #[.slice A n c] 96)).alloc (.cells #[.int .i64 v.A, .int .i64 v.B, .int .i64 v.C] 39)) (w.heap.size + 1 + 1) (by simp) #[.slice none 0 0] 96 0)
    go_wp2
    exact bodyPost_ret (v := .tuple #[.agg #[.slice A5 l.length c5], .bool R.isSome]) (by simp [results, Tryz.results89, go_sem, *]) rfl ⟨A5, c5, l, rfl, HR.out, owns_base (own_set HO5.out (by omega)) (by omega), HY5.out, (by repeat (first | exact Ext.refl _ | assumption | apply Ext.alloc | apply Ext.drewN | apply Ext.drew | (refine Ext.setCell ?_ (by first | (simp; done) | (simp; omega) | omega) _) | (refine Ext.trans ?_ (by assumption))))⟩
set_option maxHeartbeats 4000000 in
theorem ProfNew_c (v : Vec) (w : World) : Calls Tryz.prog 107 #[.agg #[.int .i64 v.A, .int .i64 v.B, .int .i64 v.C]] w (RetP w (if vecB v = true then some [⟨0, v⟩] else none)) := by
  have HVO := Lib.hid (fun u : World => VecOk_c v u)
  have HOK := Lib.hid (fun (h : vecB v = true) => show Pt.ok ⟨0, v⟩ from pt_ok (t := 0) rfl h)
  rcases (Bool.eq_false_or_eq_true (vecB v)).symm with h1 | h1
  all_goals rw [h1] at HVO ⊢
  · clear h1 HOK
    go_enter Tryz.func107, Tryz.ntmps107
    go_wp2_with fail
    refine (HVO.out _).mono ?_
    rintro e w1 ⟨rfl, hb1⟩
    obtain ⟨hcr1, hfr1, hz1⟩ := hb1.rules
    (try simp at hz1)
    have hy1_w0 : w.heap.size < w1.heap.size := (by omega)
    have hy1_w1 : w.heap.size + 1 < w1.heap.size := (by omega)
    have q0 := (hb1).cell (cell_box_at (w.alloc (.cells #[.int .i64 v.A, .int .i64 v.B, .int .i64 v.C] 39)) (w.heap.size + 1) (by simp) [.slice none 0 0] 96 0 _ rfl)
    have qf0 := ((hb1).frozenEq (a := ⟨w.heap.size + 1, 0, none⟩) (by simp)).trans (frozen_box_at (w.alloc (.cells #[.int .i64 v.A, .int .i64 v.B, .int .i64 v.C] 39)) (w.heap.size + 1) (by simp) #[.slice none 0 0] 96 0)
    go_wp2
    exact bodyPost_ret (v := .tuple #[.agg #[.slice none 0 0], .bool false]) (by simp [results, Tryz.results107, go_sem, *]) rfl (retP_none rfl (by repeat (first | exact Ext.refl _ | assumption | apply Ext.alloc | apply Ext.drewN | apply Ext.drew | (refine Ext.setCell ?_ (by first | (simp; done) | (simp; omega) | omega) _) | (refine Ext.trans ?_ (by assumption)))))
  · have HK := Lib.hid (HOK.out h1)
    clear h1 HOK
    go_enter Tryz.func107, Tryz.ntmps107
    go_wp2_with fail
    refine (HVO.out _).mono ?_
    rintro e w1 ⟨rfl, hb1⟩
    obtain ⟨hcr1, hfr1, hz1⟩ := hb1.rules
    (try simp at hz1)
    have hy1_w0 : w.heap.size < w1.heap.size := (by omega)
    have hy1_w1 : w.heap.size + 1 < w1.heap.size := (by omega)
    have q0 := (hb1).cell (cell_box_at (w.alloc (.cells #[.int .i64 v.A, .int .i64 v.B, .int .i64 v.C] 39)) (w.heap.size + 1) (by simp) [.slice none 0 0] 96 0 _ rfl)
    have qf0 := ((hb1).frozenEq (a := ⟨w.heap.size + 1, 0, none⟩) (by simp)).trans (frozen_box_at (w.alloc (.cells #[.int .i64 v.A, .int .i64 v.B, .int .i64 v.C] 39)) (w.heap.size + 1) (by simp) #[.slice none 0 0] 96 0)
    go_wp2
    exact bodyPost_ret (v := .tuple #[.agg #[.slice (some ⟨w1.heap.size, 0, none⟩) 1 1], .bool true]) (by simp [results, Tryz.results107, go_sem, *]) rfl ⟨_, _, [⟨0, v⟩], rfl, .inl rfl, box_after w1 _ _ (Pt.enc ⟨0, v⟩) 150 4 rfl (by omega), fun y hy => by rw [List.mem_singleton.1 hy]; exact HK.out, (by repeat (first | exact Ext.refl _ | assumption | apply Ext.alloc | apply Ext.drewN | apply Ext.drew | (refine Ext.setCell ?_ (by first | (simp; done) | (simp; omega) | omega) _) | (refine Ext.trans ?_ (by assumption))))⟩
theorem CInt.info : (Tryz.prog.info? 3).map (fun i => (i.zero, i.size, i.bytes)) = some (some (.int .i64 0), 1, 8) := by kernel_rfl
theorem CNode.info : (Tryz.prog.info? 84).map (fun i => (i.zero, i.size, i.bytes)) = some (some (.agg #[.int .i64 0, .int .i64 0, .int .i64 0, .int .i64 0]), 4, 32) := by kernel_rfl
theorem CPt.info : (Tryz.prog.info? 150).map (fun i => (i.zero, i.size, i.bytes)) = some (some (.agg #[.int .i64 0, .int .i64 0, .int .i64 0, .int .i64 0]), 4, 32) := by kernel_rfl
theorem CBool.info : (Tryz.prog.info? 4).map (fun i => (i.zero, i.size, i.bytes)) = some (some (.bool false), 1, 1) := by kernel_rfl
theorem CProf.info : (Tryz.prog.info? 96).map (fun i => (i.zero, i.size, i.bytes)) = some (some (.agg #[.slice none 0 0]), 1, 24) := by kernel_rfl
theorem node_one (y : Node) : ∀ u ∈ y.enc, u.oneCell' = true := by
  intro u hu; simp [Node.enc] at hu; rcases hu with rfl | rfl | rfl | rfl <;> rfl
def RetInts (w : World) (xs : List Int) : Ending → World → Prop := fun e w' => ∃ A c, e = .returned (.slice A xs.length c) ∧ w'.ownsRow w.heap.size 3 1 (.slice A xs.length c) xs.length (xs.flatMap encInt) ∧ Ext w w'
def RetProf (w : World) (xs : List Pt) : Ending → World → Prop := fun e w' => ∃ A c, e = .returned (.agg #[.slice A xs.length c]) ∧ w'.ownsRow w.heap.size 150 4 (.slice A xs.length c) xs.length (xs.flatMap Pt.enc) ∧ Ext w w'
def RetTopo (w : World) (ps : List Int) (ns : List Node) : Ending → World → Prop := fun e w' => ∃ A c B d, e = .returned (.agg #[.slice A ps.length c, .slice B ns.length d]) ∧ w'.ownsRow w.heap.size 3 1 (.slice A ps.length c) ps.length (ps.flatMap encInt) ∧ w'.ownsRow w.heap.size 84 4 (.slice B ns.length d) ns.length (ns.flatMap Node.enc) ∧ Ext w w'
set_option maxRecDepth 8000 in
theorem copyInts_r (xs : List Int) (A : Option Addr) (n c : Nat) (w : World) (h : SlAt RInt 1 w A n xs) (hl : n ≤ 1048576) : Calls Tryz.prog 123 #[.slice A n c] w (RetInts w xs) := by
  obtain ⟨i0, hi, hI0, hI1, hI2⟩ := info_parts CInt.info
  obtain rfl := h.len
  go_enter Tryz.func123, Tryz.ntmps123
  go_wp2_with (at_builtin; go_must (refine wpList_append_r (.const (.slice none 0 0)) (.tmp 3) _ w.heap.size 3 i0 _ 1 8 (.slice none 0 0) 0 [] A xs.length c xs rfl rfl Tryz.underlying22 hi hI0 hI1 hI2 rfl (by omega) rfl (World.ownsRow_nil _ _ _ _) rfl h (fun _ => rfl) cInt_one (by unfold maxLen; omega) (by omega) (Nat.le_refl _) ?_); intro A1 c1 w1 hr1)
  have hb1 := hr1.ext_nil
  have HO := Lib.hid hr1.row
  simp only [Nat.zero_add, List.nil_append] at HO
  clear hr1
  go_wp2
  exact bodyPost_ret (results_tmp rfl _ _ _) rfl ⟨A1, c1, by simp, HO.out, hb1⟩
set_option maxRecDepth 8000 in
theorem copyProf_c (xs : List Pt) (A : Option Addr) (n c : Nat) (w : World) (h : SlAt RPt 4 w A n xs) (hl : n ≤ 1048576) : Calls Tryz.prog 124 #[.agg #[.slice A n c]] w (RetProf w xs) := by
  obtain ⟨i0, hi, hI0, hI1, hI2⟩ := info_parts CPt.info
  obtain rfl := h.len
  have HS := Lib.hid (fun (u : World) (e : Ext w u) => h.ext (Flat.mono Pt.enc Pt.ok) e)
  clear h
  go_enter Tryz.func124, Tryz.ntmps124
  go_wp2_with (at_builtin; go_must (refine wpList_append_r (enc := Pt.enc) (ok := Pt.ok) (.const (.slice none 0 0)) (.tmp 4) _ (w.heap.size + 1 + 1) 150 i0 _ 4 32 (.slice none 0 0) 0 [] A xs.length c xs rfl rfl Tryz.underlying94 hi hI0 hI1 hI2 rfl (by omega) rfl (World.ownsRow_nil _ _ _ _) rfl (HS.out _ (by repeat (first | exact Ext.refl _ | assumption | apply Ext.alloc | apply Ext.drewN | apply Ext.drew | (refine Ext.setCell ?_ (by first | (simp; done) | (simp; omega) | omega) _) | (refine Ext.trans ?_ (by assumption))))) Pt.size pt_one (by unfold maxLen; omega) (by omega) (by simp) ?_); intro A1 c1 w1 hr1; have hb1 := hr1.ext_nil; have HO := Lib.hid hr1.row; have hz1 := hb1.le; simp at hz1; clear hr1; have q0 := hb1.cell (cell_box_at (w.alloc (.cells #[.slice A xs.length c] 96)) (w.heap.size + 1) (by simp) [.slice none 0 0] 96 0 _ rfl); have qf0 := (hb1.frozenEq (a := ⟨w.heap.size + 1, 0, none⟩) (by simp)).trans (frozen_box_at (w.alloc (.cells #[.slice A xs.length c] 96)) (w.heap.size + 1) (by simp) #[.slice none 0 0] 96 0); have hq := lt_of_cell q0)
  simp only [Nat.zero_add, List.nil_append] at HO ⊢
  go_wp2
  exact bodyPost_ret (v := .agg #[.slice A1 xs.length c1]) (by simp [results, Tryz.results124, go_sem, *]) rfl ⟨A1, c1, rfl, owns_base (own_set HO.out (by omega)) (by omega), (by repeat (first | exact Ext.refl _ | assumption | apply Ext.alloc | apply Ext.drewN | apply Ext.drew | (refine Ext.setCell ?_ (by first | (simp; done) | (simp; omega) | omega) _) | (refine Ext.trans ?_ (by assumption))))⟩
set_option maxHeartbeats 4000000 in
set_option maxRecDepth 8000 in
theorem copyTopo_c (ps : List Int) (ns : List Node) (A : Option Addr) (n c : Nat) (B : Option Addr) (m d : Nat) (w : World) (h : SlAt RInt 1 w A n ps) (hl : n ≤ 1048576) (h2 : SlAt RNode 4 w B m ns) (hl2 : m ≤ 1048576) : Calls Tryz.prog 106 #[.agg #[.slice A n c, .slice B m d]] w (RetTopo w ps ns) := by
  obtain ⟨i0, hi, hI0, hI1, hI2⟩ := info_parts CNode.info
  obtain rfl := h.len
  obtain rfl := h2.len
  have HS := Lib.hid (fun (u : World) (e : Ext w u) => h2.ext (Flat.mono Node.enc Node.ok) e)
  have HC := Lib.hid (fun (u : World) (e : Ext w u) => copyInts_r ps A ps.length c u (h.ext (Flat.mono _ _) e) hl)
  clear h h2
  go_enter Tryz.func106, Tryz.ntmps106
  go_wp2
  go_region_law (first | (go_simp; go_at_call 123; (with_reducible refine (HC.out _ (by repeat (first | exact Ext.refl _ | assumption | apply Ext.alloc | apply Ext.drewN | apply Ext.drew | (refine Ext.setCell ?_ (by first | (simp; done) | (simp; omega) | omega) _) | (refine Ext.trans ?_ (by assumption))))).mono ?_); rintro e w2 ⟨A2, c2, rfl, ho2, hb2⟩; have HO2 := Lib.hid (owns_base ho2 (show w.heap.size + 1 + 1 ≤ _ from (by first | omega | (simp; omega) | simp))); have hz2 := hb2.le; (try simp at hz2); have HZ2 := Lib.hid (show Ext ((w.alloc (.cells #[.slice A ps.length c, .slice B ns.length d] 38)).alloc (.cells #[.slice none 0 0, .slice none 0 0] 38)) w2 from (by first | exact ((Ext.refl _).drew).trans hb2 | exact HZ3.out.trans hb2)); have HX2 := Lib.hid (((Ext.refl (w.alloc (.cells #[.slice A ps.length c, .slice B ns.length d] 38))).alloc _).trans HZ2.out); have y20 := HX2.out.cell (cell_box_at w w.heap.size rfl [.slice A ps.length c, .slice B ns.length d] 38 0 _ rfl); have y21 := HX2.out.cell (cell_box_at w w.heap.size rfl [.slice A ps.length c, .slice B ns.length d] 38 1 _ rfl); have q20 := HZ2.out.cell (cell_box_at (w.alloc (.cells #[.slice A ps.length c, .slice B ns.length d] 38)) (w.heap.size + 1) (by simp) [.slice none 0 0, .slice none 0 0] 38 0 _ rfl); have q21 := HZ2.out.cell (cell_box_at (w.alloc (.cells #[.slice A ps.length c, .slice B ns.length d] 38)) (w.heap.size + 1) (by simp) [.slice none 0 0, .slice none 0 0] 38 1 _ rfl); have qf20 := (HZ2.out.frozenEq (a := ⟨w.heap.size + 1, 0, none⟩) (by simp)).trans (frozen_box_at (w.alloc (.cells #[.slice A ps.length c, .slice B ns.length d] 38)) (w.heap.size + 1) (by simp) #[.slice none 0 0, .slice none 0 0] 38 0); have qf21 := (HZ2.out.frozenEq (a := ⟨w.heap.size + 1, 1, none⟩) (by simp)).trans (frozen_box_at (w.alloc (.cells #[.slice A ps.length c, .slice B ns.length d] 38)) (w.heap.size + 1) (by simp) #[.slice none 0 0, .slice none 0 0] 38 1); have hq2 := lt_of_cell q20; have hy2 := lt_of_cell y20; have e2 : Ext w w2 := ((Ext.refl w).alloc _).trans HX2.out; clear ho2) | (refine step_append_r (enc := Node.enc) (ok := Node.ok) (by rfl) _ _ _ (by rfl) (w.heap.size + 1 + 1) 84 i0 _ 4 32 Tryz.underlying36 hi hI0 hI1 hI2 rfl (by omega) (.slice none 0 0) 0 [] B ns.length d ns ns.length (by simp) (by rfl) (by rfl) (World.ownsRow_nil _ _ _ _) (HS.out _ (by repeat (first | exact Ext.refl _ | assumption | apply Ext.alloc | apply Ext.drewN | apply Ext.drew | (refine Ext.setCell ?_ (by first | (simp; done) | (simp; omega) | omega) _) | (refine Ext.trans ?_ (by assumption))))) Node.size node_one (by unfold maxLen; omega) (by omega) (by first | omega | (simp; omega)) ?_; intro A3 c3 w3 hr3; have hb3 := hr3.ext_nil; have HO3 := Lib.hid hr3.row; have hz3 := hb3.le; (try simp at hz3); have HZ3 := Lib.hid (show Ext ((w.alloc (.cells #[.slice A ps.length c, .slice B ns.length d] 38)).alloc (.cells #[.slice none 0 0, .slice none 0 0] 38)) w3 from (by first | exact ((Ext.refl _).drew).trans hb3 | exact HZ2.out.trans hb3)); have HX3 := Lib.hid (((Ext.refl (w.alloc (.cells #[.slice A ps.length c, .slice B ns.length d] 38))).alloc _).trans HZ3.out); have y30 := HX3.out.cell (cell_box_at w w.heap.size rfl [.slice A ps.length c, .slice B ns.length d] 38 0 _ rfl); have y31 := HX3.out.cell (cell_box_at w w.heap.size rfl [.slice A ps.length c, .slice B ns.length d] 38 1 _ rfl); have q30 := HZ3.out.cell (cell_box_at (w.alloc (.cells #[.slice A ps.length c, .slice B ns.length d] 38)) (w.heap.size + 1) (by simp) [.slice none 0 0, .slice none 0 0] 38 0 _ rfl); have q31 := HZ3.out.cell (cell_box_at (w.alloc (.cells #[.slice A ps.length c, .slice B ns.length d] 38)) (w.heap.size + 1) (by simp) [.slice none 0 0, .slice none 0 0] 38 1 _ rfl); have qf30 := (HZ3.out.frozenEq (a := ⟨w.heap.size + 1, 0, none⟩) (by simp)).trans (frozen_box_at (w.alloc (.cells #[.slice A ps.length c, .slice B ns.length d] 38)) (w.heap.size + 1) (by simp) #[.slice none 0 0, .slice none 0 0] 38 0); have qf31 := (HZ3.out.frozenEq (a := ⟨w.heap.size + 1, 1, none⟩) (by simp)).trans (frozen_box_at (w.alloc (.cells #[.slice A ps.length c, .slice B ns.length d] 38)) (w.heap.size + 1) (by simp) #[.slice none 0 0, .slice none 0 0] 38 1); have hq3 := lt_of_cell q30; have hy3 := lt_of_cell y30; have e3 : Ext w w3 := ((Ext.refl w).alloc _).trans HX3.out; clear hr3))
  all_goals
    simp only [List.nil_append] at HO3
    go_wp2
    exact bodyPost_ret (v := .agg #[.slice A2 ps.length c2, .slice A3 ns.length c3]) (by simp [results, Tryz.results106, go_sem, *]) rfl ⟨A2, c2, A3, c3, rfl, owns_base (own_set (own_set (by first | exact HO2.out | exact owns_ext HO2.out hb3) (by omega)) (by omega)) (by omega), owns_base (own_set (own_set (by first | exact HO3.out | exact owns_ext HO3.out hb2) (by omega)) (by omega)) (by omega), (by repeat (first | exact Ext.refl _ | assumption | apply Ext.alloc | apply Ext.drewN | apply Ext.drew | (refine Ext.setCell ?_ (by first | (simp; done) | (simp; omega) | omega) _) | (refine Ext.trans ?_ (by assumption))))⟩
end Go.Proofs.YtfcffcgdbmkfgaaGreat
