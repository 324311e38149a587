/- Merged by mergelean.py: RoomG, Elig, LTimes, LCan, Earl. -/
import Derived.Test.YtgmlcohffdeplaaGreatMChg
import Derived.Test.YtgmlcohffdeplaaGreatMChoose
import Derived.Test.YtgmlcohffdeplaaGreatMOver
import Derived.Test.YtgmlcohffdeplaaGreatFits
import Derived.Test.YtgmlcohffdeplaaGreatMMoved
import Derived.Deep.RegionLaw
import Derived.Test.YtgmlcohffdeplaaGreatMRes
import Derived.Deep.RegionHeld3
/-! RoomG -/
namespace Go.Proofs.YtgmlcohffdeplaaGreat
open Go.RowKit
set_option linter.unusedVariables false
def roomB (ps : List Int) (ns : List Node) (up : List Bool) (pl : List (List Pt)) (lic : List Pt) : Bool := topoB ps ns && (decide (up.length = ns.length) && (decide (pl.length = ns.length) && (pl.all profB && profB lic)))
def roomSm (ps : List Int) (ns : List Node) (up : List Bool) (pl : List (List Pt)) (lic : List Pt) : Prop := (ps.length ≤ 1000 ∧ ns.length ≤ 1000 ∧ up.length ≤ 1000) ∧ (pl.length ≤ 1000 ∧ lic.length ≤ 1000 ∧ ∀ p ∈ pl, p.length ≤ 1000)
theorem roomB_parts {ps : List Int} {ns : List Node} {up : List Bool} {pl : List (List Pt)} {lic : List Pt} (h : roomB ps ns up pl lic = true) : topoB ps ns = true ∧ up.length = ns.length ∧ roomOkM ns.length (pl, lic) := by
  unfold roomB at h
  simp only [Bool.and_eq_true, decide_eq_true_iff, List.all_eq_true] at h
  exact ⟨h.1, h.2.1, h.2.2.1, h.2.2.2.1, h.2.2.2.2⟩
theorem roomB_topo {ps : List Int} {ns : List Node} {up : List Bool} {pl : List (List Pt)} {lic : List Pt} (h : topoB ps ns = false) : roomB ps ns up pl lic = false := by unfold roomB; rw [h]; rfl
theorem roomB_up {ps : List Int} {ns : List Node} {up : List Bool} {pl : List (List Pt)} {lic : List Pt} (h : ¬ up.length = ns.length) : roomB ps ns up pl lic = false := by unfold roomB; rw [decide_eq_false h]; simp
theorem roomB_pl {ps : List Int} {ns : List Node} {up : List Bool} {pl : List (List Pt)} {lic : List Pt} (h : ¬ pl.length = ns.length) : roomB ps ns up pl lic = false := by unfold roomB; rw [decide_eq_false h]; simp
theorem roomB_lic {ps : List Int} {ns : List Node} {up : List Bool} {pl : List (List Pt)} {lic : List Pt} (h : profB lic = false) : roomB ps ns up pl lic = false := by unfold roomB; rw [h]; simp
theorem roomB_rest {ps : List Int} {ns : List Node} {up : List Bool} {pl : List (List Pt)} {lic : List Pt} (h1 : topoB ps ns = true) (h2 : up.length = ns.length) (h3 : pl.length = ns.length) : roomB ps ns up pl lic = (pl.all profB && profB lic) := by unfold roomB; rw [h1, decide_eq_true h2, decide_eq_true h3]; rfl
theorem all_next {α : Type} {p : α → Bool} {l : List α} {k : Nat} {x : α} (hx : l[k]? = some x) : (l.drop k).all p = (p x && (l.drop (k + 1)).all p) := by rw [drop_cons hx, List.all_cons]
set_option maxHeartbeats 8000000 in
set_option maxRecDepth 8000 in
theorem RoomOkG_c (ps : List Int) (ns : List Node) (up : List Bool) (pl : List (List Pt)) (lic : List Pt) (v : Value) (w : World) (h : RoomAt w ps ns up (pl, lic) v) (hz : roomSm ps ns up pl lic) : Calls Tryz.prog 19 #[v] w (Ret w (.bool (roomB ps ns up pl lic))) := by
  obtain ⟨A1, c1, A2, c2, A3, c3, A4, c4, A5, c5, rfl, h1, h2, h3, h4, h5⟩ := h
  simp only [] at h4 h5 ⊢
  obtain ⟨⟨hz1, hz2, hz3⟩, hz4, hz5, hz6⟩ := hz
  have HT := Lib.hid (fun (u : World) (e : Ext w u) => TopoOk_c ps ns A1 ps.length c1 A2 ns.length c2 u (h1.ext (Flat.mono _ _) e) (by unfold maxLen; omega) (h2.ext (Flat.mono _ _) e) (by unfold maxLen; omega))
  have HL := Lib.hid (fun (u : World) (e : Ext w u) => ProfOk_c lic A5 lic.length c5 u (h5.ext (Flat.mono _ _) e) (by unfold maxLen; omega))
  have HP := Lib.hid (fun (p : List Pt) (hp : p ∈ pl) (A : Option Addr) (c : Nat) (u : World) (hs : SlAt RPt 4 u A p.length p) => ProfOk_c p A p.length c u hs (by have := hz6 p hp; unfold maxLen; omega))
  have H4 := Lib.hid (fun (u : World) (e : Ext w u) => h4.ext RPf.mono e)
  clear h1 h2 h3 h4 h5 hz6
  rcases htb : topoB ps ns with _ | _
  · rw [htb] at HT
    rw [roomB_topo htb]
    clear htb H4 HL HP
    generalize ps.length = n at *
    generalize ns.length = m at *
    generalize up.length = U at *
    generalize pl.length = Q at *
    generalize lic.length = q at *
    go_enter Tryz.func19, Tryz.ntmps19
    go_wp2_with fail
    refine (HT.out _ (by repeat (first | exact Ext.refl _ | assumption | apply Ext.alloc | apply Ext.drewN | apply Ext.drew | (refine Ext.setCell ?_ (by first | (simp; done) | (simp; omega) | omega) _) | (refine Ext.trans ?_ (by assumption))))).mono ?_
    rintro e w1 ⟨rfl, hb1⟩
    obtain ⟨hcr1, hfr1, hz1⟩ := hb1.rules
    (try simp at hz1)
    have hy1_w0 : w.heap.size < w1.heap.size := (by omega)
    go_wp2
    exact ret_bool rfl rfl rfl rfl (((Ext.refl w).alloc _).trans hb1)
  rw [htb] at HT
  by_cases hu : ¬ up.length = ns.length
  · have hue : ((up.length : Int) == (ns.length : Int)) = false := by rw [beq_eq_false_iff_ne]; omega
    have hue2 : ((up.length : Int) != (ns.length : Int)) = true := by simp; omega
    rw [roomB_up hu]
    clear htb H4 HL HP
    generalize ps.length = n at *
    generalize ns.length = m at *
    generalize up.length = U at *
    generalize pl.length = Q at *
    generalize lic.length = q at *
    go_enter Tryz.func19, Tryz.ntmps19
    go_wp2_with fail
    refine (HT.out _ (by repeat (first | exact Ext.refl _ | assumption | apply Ext.alloc | apply Ext.drewN | apply Ext.drew | (refine Ext.setCell ?_ (by first | (simp; done) | (simp; omega) | omega) _) | (refine Ext.trans ?_ (by assumption))))).mono ?_
    rintro e w1 ⟨rfl, hb1⟩
    obtain ⟨hcr1, hfr1, hz1⟩ := hb1.rules
    (try simp at hz1)
    have hy1_w0 : w.heap.size < w1.heap.size := (by omega)
    go_wp2
    exact ret_bool rfl rfl rfl rfl (((Ext.refl w).alloc _).trans hb1)
  have hu := Classical.not_not.1 hu
  by_cases hp : ¬ pl.length = ns.length
  · have hue : ((pl.length : Int) == (ns.length : Int)) = false := by rw [beq_eq_false_iff_ne]; omega
    have hue2 : ((pl.length : Int) != (ns.length : Int)) = true := by simp; omega
    rw [roomB_pl hp, hu]
    clear htb H4 HL HP hu hp
    generalize ps.length = n at *
    generalize pl.length = Q at *
    generalize lic.length = q at *
    generalize ns.length = m at *
    go_enter Tryz.func19, Tryz.ntmps19
    go_wp2_with fail
    refine (HT.out _ (by repeat (first | exact Ext.refl _ | assumption | apply Ext.alloc | apply Ext.drewN | apply Ext.drew | (refine Ext.setCell ?_ (by first | (simp; done) | (simp; omega) | omega) _) | (refine Ext.trans ?_ (by assumption))))).mono ?_
    rintro e w1 ⟨rfl, hb1⟩
    obtain ⟨hcr1, hfr1, hz1⟩ := hb1.rules
    (try simp at hz1)
    have hy1_w0 : w.heap.size < w1.heap.size := (by omega)
    go_wp2
    exact ret_bool rfl rfl rfl rfl (((Ext.refl w).alloc _).trans hb1)
  have hp := Classical.not_not.1 hp
  have HRB := Lib.hid (roomB_rest (lic := lic) htb hu hp)
  have HPL := Lib.hid hp
  rw [hp] at H4
  rw [hu, hp]
  clear hu hp htb
  generalize hR : roomB ps ns up pl lic = R at *
  clear hR
  generalize ns.length = m at *
  generalize ps.length = n at *
  generalize lic.length = q at *
  go_enter Tryz.func19, Tryz.ntmps19
  go_wp2_with fail
  refine (HT.out _ (by repeat (first | exact Ext.refl _ | assumption | apply Ext.alloc | apply Ext.drewN | apply Ext.drew | (refine Ext.setCell ?_ (by first | (simp; done) | (simp; omega) | omega) _) | (refine Ext.trans ?_ (by assumption))))).mono ?_
  rintro e w1 ⟨rfl, hb1⟩
  obtain ⟨hcr1, hfr1, hz1⟩ := hb1.rules
  (try simp at hz1)
  have hy1_w0 : w.heap.size < w1.heap.size := (by omega)
  have b0 := (hb1).cell (cell_box_at w (w.heap.size) (by simp) [.slice A1 n c1, .slice A2 m c2, .slice A3 m c3, .slice A4 m c4, .slice A5 q c5] 44 0 _ rfl)
  have b1 := (hb1).cell (cell_box_at w (w.heap.size) (by simp) [.slice A1 n c1, .slice A2 m c2, .slice A3 m c3, .slice A4 m c4, .slice A5 q c5] 44 1 _ rfl)
  have b2 := (hb1).cell (cell_box_at w (w.heap.size) (by simp) [.slice A1 n c1, .slice A2 m c2, .slice A3 m c3, .slice A4 m c4, .slice A5 q c5] 44 2 _ rfl)
  have b3 := (hb1).cell (cell_box_at w (w.heap.size) (by simp) [.slice A1 n c1, .slice A2 m c2, .slice A3 m c3, .slice A4 m c4, .slice A5 q c5] 44 3 _ rfl)
  have b4 := (hb1).cell (cell_box_at w (w.heap.size) (by simp) [.slice A1 n c1, .slice A2 m c2, .slice A3 m c3, .slice A4 m c4, .slice A5 q c5] 44 4 _ rfl)
  have bf0 := ((hb1).frozenEq (a := ⟨w.heap.size, 0, none⟩) (by simp)).trans (frozen_box_at w (w.heap.size) (by simp) #[.slice A1 n c1, .slice A2 m c2, .slice A3 m c3, .slice A4 m c4, .slice A5 q c5] 44 0)
  have bf1 := ((hb1).frozenEq (a := ⟨w.heap.size, 1, none⟩) (by simp)).trans (frozen_box_at w (w.heap.size) (by simp) #[.slice A1 n c1, .slice A2 m c2, .slice A3 m c3, .slice A4 m c4, .slice A5 q c5] 44 1)
  have bf2 := ((hb1).frozenEq (a := ⟨w.heap.size, 2, none⟩) (by simp)).trans (frozen_box_at w (w.heap.size) (by simp) #[.slice A1 n c1, .slice A2 m c2, .slice A3 m c3, .slice A4 m c4, .slice A5 q c5] 44 2)
  have bf3 := ((hb1).frozenEq (a := ⟨w.heap.size, 3, none⟩) (by simp)).trans (frozen_box_at w (w.heap.size) (by simp) #[.slice A1 n c1, .slice A2 m c2, .slice A3 m c3, .slice A4 m c4, .slice A5 q c5] 44 3)
  have bf4 := ((hb1).frozenEq (a := ⟨w.heap.size, 4, none⟩) (by simp)).trans (frozen_box_at w (w.heap.size) (by simp) #[.slice A1 n c1, .slice A2 m c2, .slice A3 m c3, .slice A4 m c4, .slice A5 q c5] 44 4)
  go_wp2
  go_loopw [32] (fun i wr => ∃ k : Nat, k ≤ m ∧ i = .int .i64 k ∧ Hid (R = ((pl.drop k).all profB && profB lic)) ∧ Ext (w.alloc (.cells #[.slice A1 n c1, .slice A2 m c2, .slice A3 m c3, .slice A4 m c4, .slice A5 q c5] 44)) wr) (fun i _ => m - (intOf i).toNat)
  case atStart => exact ⟨0, Nat.zero_le _, rfl, HRB, hb1⟩
  case round =>
    obtain ⟨k, hk, rfl, HG, hb⟩ := hrel
    clear b0 b1 b2 b3 b4 bf0 bf1 bf2 bf3 bf4 hcr1 hfr1
    by_cases hlt : k < m
    · obtain ⟨b, o, x, cs, rfl, hbw, hx, _, hc, A', c', rfl, hs⟩ := (H4.out wr (((Ext.refl w).alloc _).trans hb)).at_ hlt
      have g0 := hc 0 _ rfl
      simp only [Nat.mul_one, Nat.add_zero] at g0
      have HX := Lib.hid (List.mem_of_getElem? hx)
      have HN := Lib.hid (all_next (p := profB) hx)
      have HS := Lib.hid (fun (u : World) (e : Ext wr u) => HP.out x HX.out A' c' u (hs.ext (Flat.mono _ _) e))
      clear hx hc hs
      generalize x.length = xl at *
      generalize profB x = pb at *
      rcases pb with _ | _
      · have HF := Lib.hid (show R = false by rw [HG.out, HN.out]; rfl)
        go_wp2_with fail
        refine (HS.out _ ((Ext.refl _).alloc _)).mono ?_
        rintro e w4 ⟨rfl, hb4⟩
        go_wp2
        exact ret_bool rfl rfl rfl HF.out.symm ((((Ext.refl w).alloc _).trans hb).trans (((Ext.refl _).alloc _).trans hb4))
      · have HF := Lib.hid (show R = ((pl.drop (k + 1)).all profB && profB lic) by rw [HG.out, HN.out, Bool.true_and])
        go_wp2_with fail
        refine (HS.out _ ((Ext.refl _).alloc _)).mono ?_
        rintro e w4 ⟨rfl, hb4⟩
        go_wp2
        go_roundw
        case rel => exact ⟨k + 1, by omega, by go_num, HF, hb.trans (((Ext.refl _).alloc _).trans hb4)⟩
        case measure => simp [intOf]; omega
    · obtain rfl : k = m := by omega
      have HF := Lib.hid (show R = profB lic by rw [HG.out, List.drop_eq_nil_of_le (by have := HPL.out; omega)]; rfl)
      have b0 := (hb).cell (cell_box_at w (w.heap.size) (by simp) [.slice A1 n c1, .slice A2 k c2, .slice A3 k c3, .slice A4 k c4, .slice A5 q c5] 44 0 _ rfl)
      have b1 := (hb).cell (cell_box_at w (w.heap.size) (by simp) [.slice A1 n c1, .slice A2 k c2, .slice A3 k c3, .slice A4 k c4, .slice A5 q c5] 44 1 _ rfl)
      have b2 := (hb).cell (cell_box_at w (w.heap.size) (by simp) [.slice A1 n c1, .slice A2 k c2, .slice A3 k c3, .slice A4 k c4, .slice A5 q c5] 44 2 _ rfl)
      have b3 := (hb).cell (cell_box_at w (w.heap.size) (by simp) [.slice A1 n c1, .slice A2 k c2, .slice A3 k c3, .slice A4 k c4, .slice A5 q c5] 44 3 _ rfl)
      have b4 := (hb).cell (cell_box_at w (w.heap.size) (by simp) [.slice A1 n c1, .slice A2 k c2, .slice A3 k c3, .slice A4 k c4, .slice A5 q c5] 44 4 _ rfl)
      have bf0 := ((hb).frozenEq (a := ⟨w.heap.size, 0, none⟩) (by simp)).trans (frozen_box_at w (w.heap.size) (by simp) #[.slice A1 n c1, .slice A2 k c2, .slice A3 k c3, .slice A4 k c4, .slice A5 q c5] 44 0)
      have bf1 := ((hb).frozenEq (a := ⟨w.heap.size, 1, none⟩) (by simp)).trans (frozen_box_at w (w.heap.size) (by simp) #[.slice A1 n c1, .slice A2 k c2, .slice A3 k c3, .slice A4 k c4, .slice A5 q c5] 44 1)
      have bf2 := ((hb).frozenEq (a := ⟨w.heap.size, 2, none⟩) (by simp)).trans (frozen_box_at w (w.heap.size) (by simp) #[.slice A1 n c1, .slice A2 k c2, .slice A3 k c3, .slice A4 k c4, .slice A5 q c5] 44 2)
      have bf3 := ((hb).frozenEq (a := ⟨w.heap.size, 3, none⟩) (by simp)).trans (frozen_box_at w (w.heap.size) (by simp) #[.slice A1 n c1, .slice A2 k c2, .slice A3 k c3, .slice A4 k c4, .slice A5 q c5] 44 3)
      have bf4 := ((hb).frozenEq (a := ⟨w.heap.size, 4, none⟩) (by simp)).trans (frozen_box_at w (w.heap.size) (by simp) #[.slice A1 n c1, .slice A2 k c2, .slice A3 k c3, .slice A4 k c4, .slice A5 q c5] 44 4)
      have hb0 := lt_of_cell b0
      generalize profB lic = lb at *
      go_wp2_with fail
      refine (HL.out _ (((Ext.refl w).alloc _).trans hb)).mono ?_
      rintro e w4 ⟨rfl, hb4⟩
      go_wp2
      exact ret_bool rfl rfl rfl HF.out.symm ((((Ext.refl w).alloc _).trans hb).trans hb4)
set_option maxHeartbeats 8000000 in
set_option maxRecDepth 8000 in
theorem sRoomOkG_c (ps : List Int) (ns : List Node) (up : List Bool) (pl : List (List Pt)) (lic : List Pt) (v : Value) (w : World) (h : RoomAt w ps ns up (pl, lic) v) (hz : roomSm ps ns up pl lic) : Calls Tryz.prog 25 #[v] w (Ret w (.bool (roomB ps ns up pl lic))) := by
  obtain ⟨A1, c1, A2, c2, A3, c3, A4, c4, A5, c5, rfl, h1, h2, h3, h4, h5⟩ := h
  simp only [] at h4 h5 ⊢
  obtain ⟨⟨hz1, hz2, hz3⟩, hz4, hz5, hz6⟩ := hz
  have HT := Lib.hid (fun (u : World) (e : Ext w u) => sTopoOk_c ps ns A1 ps.length c1 A2 ns.length c2 u (h1.ext (Flat.mono _ _) e) (by unfold maxLen; omega) (h2.ext (Flat.mono _ _) e) (by unfold maxLen; omega))
  have HL := Lib.hid (fun (u : World) (e : Ext w u) => sProfOk_c lic A5 lic.length c5 u (h5.ext (Flat.mono _ _) e) (by unfold maxLen; omega))
  have HP := Lib.hid (fun (p : List Pt) (hp : p ∈ pl) (A : Option Addr) (c : Nat) (u : World) (hs : SlAt RPt 4 u A p.length p) => sProfOk_c p A p.length c u hs (by have := hz6 p hp; unfold maxLen; omega))
  have H4 := Lib.hid (fun (u : World) (e : Ext w u) => h4.ext RPf.mono e)
  clear h1 h2 h3 h4 h5 hz6
  rcases htb : topoB ps ns with _ | _
  · rw [htb] at HT
    rw [roomB_topo htb]
    clear htb H4 HL HP
    generalize ps.length = n at *
    generalize ns.length = m at *
    generalize up.length = U at *
    generalize pl.length = Q at *
    generalize lic.length = q at *
    go_enter Tryz.func25, Tryz.ntmps25
    go_wp2_with fail
    refine (HT.out _ (by repeat (first | exact Ext.refl _ | assumption | apply Ext.alloc | apply Ext.drewN | apply Ext.drew | (refine Ext.setCell ?_ (by first | (simp; done) | (simp; omega) | omega) _) | (refine Ext.trans ?_ (by assumption))))).mono ?_
    rintro e w1 ⟨rfl, hb1⟩
    obtain ⟨hcr1, hfr1, hz1⟩ := hb1.rules
    (try simp at hz1)
    have hy1_w0 : w.heap.size < w1.heap.size := (by omega)
    go_wp2
    exact ret_bool rfl rfl rfl rfl (((Ext.refl w).alloc _).trans hb1)
  rw [htb] at HT
  by_cases hu : ¬ up.length = ns.length
  · have hue : ((up.length : Int) == (ns.length : Int)) = false := by rw [beq_eq_false_iff_ne]; omega
    have hue2 : ((up.length : Int) != (ns.length : Int)) = true := by simp; omega
    rw [roomB_up hu]
    clear htb H4 HL HP
    generalize ps.length = n at *
    generalize ns.length = m at *
    generalize up.length = U at *
    generalize pl.length = Q at *
    generalize lic.length = q at *
    go_enter Tryz.func25, Tryz.ntmps25
    go_wp2_with fail
    refine (HT.out _ (by repeat (first | exact Ext.refl _ | assumption | apply Ext.alloc | apply Ext.drewN | apply Ext.drew | (refine Ext.setCell ?_ (by first | (simp; done) | (simp; omega) | omega) _) | (refine Ext.trans ?_ (by assumption))))).mono ?_
    rintro e w1 ⟨rfl, hb1⟩
    obtain ⟨hcr1, hfr1, hz1⟩ := hb1.rules
    (try simp at hz1)
    have hy1_w0 : w.heap.size < w1.heap.size := (by omega)
    go_wp2
    exact ret_bool rfl rfl rfl rfl (((Ext.refl w).alloc _).trans hb1)
  have hu := Classical.not_not.1 hu
  by_cases hp : ¬ pl.length = ns.length
  · have hue : ((pl.length : Int) == (ns.length : Int)) = false := by rw [beq_eq_false_iff_ne]; omega
    have hue2 : ((pl.length : Int) != (ns.length : Int)) = true := by simp; omega
    rw [roomB_pl hp, hu]
    clear htb H4 HL HP hu hp
    generalize ps.length = n at *
    generalize pl.length = Q at *
    generalize lic.length = q at *
    generalize ns.length = m at *
    go_enter Tryz.func25, Tryz.ntmps25
    go_wp2_with fail
    refine (HT.out _ (by repeat (first | exact Ext.refl _ | assumption | apply Ext.alloc | apply Ext.drewN | apply Ext.drew | (refine Ext.setCell ?_ (by first | (simp; done) | (simp; omega) | omega) _) | (refine Ext.trans ?_ (by assumption))))).mono ?_
    rintro e w1 ⟨rfl, hb1⟩
    obtain ⟨hcr1, hfr1, hz1⟩ := hb1.rules
    (try simp at hz1)
    have hy1_w0 : w.heap.size < w1.heap.size := (by omega)
    go_wp2
    exact ret_bool rfl rfl rfl rfl (((Ext.refl w).alloc _).trans hb1)
  have hp := Classical.not_not.1 hp
  have HRB := Lib.hid (roomB_rest (lic := lic) htb hu hp)
  have HPL := Lib.hid hp
  rcases hlb : profB lic with _ | _
  · rw [hlb] at HL
    rw [roomB_lic hlb, hu, hp]
    clear htb H4 HP HRB hlb HPL hu hp
    generalize ps.length = n at *
    generalize lic.length = q at *
    generalize ns.length = m at *
    go_enter Tryz.func25, Tryz.ntmps25
    go_wp2_with fail
    refine (HT.out _ (by repeat (first | exact Ext.refl _ | assumption | apply Ext.alloc | apply Ext.drewN | apply Ext.drew | (refine Ext.setCell ?_ (by first | (simp; done) | (simp; omega) | omega) _) | (refine Ext.trans ?_ (by assumption))))).mono ?_
    rintro e w1 ⟨rfl, hb1⟩
    obtain ⟨hcr1, hfr1, hz1⟩ := hb1.rules
    (try simp at hz1)
    have hy1_w0 : w.heap.size < w1.heap.size := (by omega)
    go_wp2_with fail
    refine (HL.out _ (((Ext.refl w).alloc _).trans hb1)).mono ?_
    rintro e w2 ⟨rfl, hb2⟩
    obtain ⟨hcr2, hfr2, hz2⟩ := hb2.rules
    (try simp at hz2)
    have hy2_w0 : w.heap.size < w2.heap.size := (by omega)
    go_wp2
    exact ret_bool rfl rfl rfl rfl ((((Ext.refl w).alloc _).trans hb1).trans hb2)
  rw [hlb] at HL
  rw [hlb, Bool.and_true] at HRB
  rw [hp] at H4
  rw [hu, hp]
  clear hu hp htb
  generalize hR : roomB ps ns up pl lic = R at *
  clear hR
  generalize ns.length = m at *
  generalize ps.length = n at *
  generalize lic.length = q at *
  go_enter Tryz.func25, Tryz.ntmps25
  go_wp2_with fail
  refine (HT.out _ (by repeat (first | exact Ext.refl _ | assumption | apply Ext.alloc | apply Ext.drewN | apply Ext.drew | (refine Ext.setCell ?_ (by first | (simp; done) | (simp; omega) | omega) _) | (refine Ext.trans ?_ (by assumption))))).mono ?_
  rintro e w1 ⟨rfl, hb1⟩
  obtain ⟨hcr1, hfr1, hz1⟩ := hb1.rules
  (try simp at hz1)
  have hy1_w0 : w.heap.size < w1.heap.size := (by omega)
  go_wp2_with fail
  refine (HL.out _ (((Ext.refl w).alloc _).trans hb1)).mono ?_
  rintro e w2 ⟨rfl, hb2⟩
  obtain ⟨hcr2, hfr2, hz2⟩ := hb2.rules
  (try simp at hz2)
  have hy2_w0 : w.heap.size < w2.heap.size := (by omega)
  have b0 := (hb1.trans hb2).cell (cell_box_at w (w.heap.size) (by simp) [.slice A1 n c1, .slice A2 m c2, .slice A3 m c3, .slice A4 m c4, .slice A5 q c5] 44 0 _ rfl)
  have b1 := (hb1.trans hb2).cell (cell_box_at w (w.heap.size) (by simp) [.slice A1 n c1, .slice A2 m c2, .slice A3 m c3, .slice A4 m c4, .slice A5 q c5] 44 1 _ rfl)
  have b2 := (hb1.trans hb2).cell (cell_box_at w (w.heap.size) (by simp) [.slice A1 n c1, .slice A2 m c2, .slice A3 m c3, .slice A4 m c4, .slice A5 q c5] 44 2 _ rfl)
  have b3 := (hb1.trans hb2).cell (cell_box_at w (w.heap.size) (by simp) [.slice A1 n c1, .slice A2 m c2, .slice A3 m c3, .slice A4 m c4, .slice A5 q c5] 44 3 _ rfl)
  have b4 := (hb1.trans hb2).cell (cell_box_at w (w.heap.size) (by simp) [.slice A1 n c1, .slice A2 m c2, .slice A3 m c3, .slice A4 m c4, .slice A5 q c5] 44 4 _ rfl)
  have bf0 := ((hb1.trans hb2).frozenEq (a := ⟨w.heap.size, 0, none⟩) (by simp)).trans (frozen_box_at w (w.heap.size) (by simp) #[.slice A1 n c1, .slice A2 m c2, .slice A3 m c3, .slice A4 m c4, .slice A5 q c5] 44 0)
  have bf1 := ((hb1.trans hb2).frozenEq (a := ⟨w.heap.size, 1, none⟩) (by simp)).trans (frozen_box_at w (w.heap.size) (by simp) #[.slice A1 n c1, .slice A2 m c2, .slice A3 m c3, .slice A4 m c4, .slice A5 q c5] 44 1)
  have bf2 := ((hb1.trans hb2).frozenEq (a := ⟨w.heap.size, 2, none⟩) (by simp)).trans (frozen_box_at w (w.heap.size) (by simp) #[.slice A1 n c1, .slice A2 m c2, .slice A3 m c3, .slice A4 m c4, .slice A5 q c5] 44 2)
  have bf3 := ((hb1.trans hb2).frozenEq (a := ⟨w.heap.size, 3, none⟩) (by simp)).trans (frozen_box_at w (w.heap.size) (by simp) #[.slice A1 n c1, .slice A2 m c2, .slice A3 m c3, .slice A4 m c4, .slice A5 q c5] 44 3)
  have bf4 := ((hb1.trans hb2).frozenEq (a := ⟨w.heap.size, 4, none⟩) (by simp)).trans (frozen_box_at w (w.heap.size) (by simp) #[.slice A1 n c1, .slice A2 m c2, .slice A3 m c3, .slice A4 m c4, .slice A5 q c5] 44 4)
  go_wp2
  go_loopw [38] (fun i wr => ∃ k : Nat, k ≤ m ∧ i = .int .i64 k ∧ Hid (R = ((pl.drop k).all profB)) ∧ Ext (w.alloc (.cells #[.slice A1 n c1, .slice A2 m c2, .slice A3 m c3, .slice A4 m c4, .slice A5 q c5] 44)) wr) (fun i _ => m - (intOf i).toNat)
  case atStart => exact ⟨0, Nat.zero_le _, rfl, HRB, hb1.trans hb2⟩
  case round =>
    obtain ⟨k, hk, rfl, HG, hb⟩ := hrel
    clear b0 b1 b2 b3 b4 bf0 bf1 bf2 bf3 bf4 hcr1 hfr1 hcr2 hfr2
    by_cases hlt : k < m
    · obtain ⟨b, o, x, cs, rfl, hbw, hx, _, hc, A', c', rfl, hs⟩ := (H4.out wr (((Ext.refl w).alloc _).trans hb)).at_ hlt
      have g0 := hc 0 _ rfl
      simp only [Nat.mul_one, Nat.add_zero] at g0
      have HX := Lib.hid (List.mem_of_getElem? hx)
      have HN := Lib.hid (all_next (p := profB) hx)
      have HS := Lib.hid (fun (u : World) (e : Ext wr u) => HP.out x HX.out A' c' u (hs.ext (Flat.mono _ _) e))
      clear hx hc hs
      generalize x.length = xl at *
      generalize profB x = pb at *
      rcases pb with _ | _
      · have HF := Lib.hid (show R = false by rw [HG.out, HN.out]; rfl)
        go_wp2_with fail
        refine (HS.out _ ((Ext.refl _).alloc _)).mono ?_
        rintro e w4 ⟨rfl, hb4⟩
        go_wp2
        exact ret_bool rfl rfl rfl HF.out.symm ((((Ext.refl w).alloc _).trans hb).trans (((Ext.refl _).alloc _).trans hb4))
      · have HF := Lib.hid (show R = ((pl.drop (k + 1)).all profB) by rw [HG.out, HN.out, Bool.true_and])
        go_wp2_with fail
        refine (HS.out _ ((Ext.refl _).alloc _)).mono ?_
        rintro e w4 ⟨rfl, hb4⟩
        go_wp2
        go_roundw
        case rel => exact ⟨k + 1, by omega, by go_num, HF, hb.trans (((Ext.refl _).alloc _).trans hb4)⟩
        case measure => simp [intOf]; omega
    · obtain rfl : k = m := by omega
      have HF := Lib.hid (show true = R by rw [HG.out, List.drop_eq_nil_of_le (by have := HPL.out; omega)]; rfl)
      go_wp2
      exact ret_bool rfl rfl rfl HF.out (((Ext.refl w).alloc _).trans hb)
end Go.Proofs.YtgmlcohffdeplaaGreat
/-! Elig -/
namespace Go.Proofs.YtgmlcohffdeplaaGreat
open Go.RowKit
set_option linter.unusedVariables false
/-- Numbers are handed back. -/
def RetNums (w : World) (m : Nat) : Ending → World → Prop := fun e w' => ∃ (A : Option Addr) (n c : Nat) (xs : List Int), e = .returned (.slice A n c) ∧ SlAt RInt 1 w' A n xs ∧ n ≤ m ∧ Ext w w'
theorem ret_nums {w w0 : World} {P : Program} {fn : Func} {a : Act} {t : Tmp} {A : Option Addr} {n c m : Nat} {xs : List Int} (hr : fn.results = #[.tmp t]) (h : SlAt RInt 1 w A n xs) (hn : n ≤ m) (hb : Ext w0 w) (hv : a.tmps.getD t undef = .slice A n c := by rfl) (hd : a.defers = [] := by rfl) : bodyPost P fn (RetNums w0 m) .ret a w :=
  bodyPost_ret (results_tmp hr _ _ _) hd ⟨A, n, c, xs, by rw [hv], h, hn, hb⟩
theorem roomB_sm {ps : List Int} {ns : List Node} {up : List Bool} {pl : List (List Pt)} {lic : List Pt} (h : roomB ps ns up pl lic = true) : roomSm ps ns up pl lic ∧ pl.length ≤ 24 ∧ ps.length ≤ 24 ∧ ns.length ≤ 24 := by
  obtain ⟨ht, hu, hl, hp, hq⟩ := roomB_parts h
  obtain ⟨⟨_, h1⟩, ⟨h2, _⟩⟩ := topo_parts ht
  simp only [] at hl hp hq
  have h3 := (profB_parts hq).2.1
  exact ⟨⟨⟨by omega, by omega, by omega⟩, by omega, by omega, fun p hm => by have := (profB_parts (hp p hm)).2.1; omega⟩, by omega, by omega, by omega⟩
set_option maxHeartbeats 8000000 in
set_option maxRecDepth 10000 in
theorem Eligible_c (ps : List Int) (ns : List Node) (up : List Bool) (pl : List (List Pt)) (lic : List Pt) (need : Vec) (fr te : Int) (v : Value) (w : World) (h : RoomAt w ps ns up (pl, lic) v) (hr : roomB ps ns up pl lic = true) : Calls Tryz.prog 148 #[v, .agg #[.int .i64 need.A, .int .i64 need.B, .int .i64 need.C], .int .i64 fr, .int .i64 te] w (RetNums w 24) := by
  obtain ⟨i0, hi, hI0, hI1, hI2⟩ := info_parts TInt.info
  obtain ⟨hsm, hQ, _, _⟩ := roomB_sm hr
  have HRO := Lib.hid (fun (u : World) (e : Ext w u) => sRoomOkG_c ps ns up pl lic v u (h.ext e) hsm)
  rw [hr] at HRO
  obtain ⟨ht, hu, hl, hp, hq⟩ := roomB_parts hr
  simp only [] at hl hp hq
  obtain ⟨A1, c1, A2, c2, A3, c3, A4, c4, A5, c5, rfl, h1, h2, h3, h4, h5⟩ := h
  simp only [] at h4 h5 ⊢
  have H3 := Lib.hid (fun (u : World) (e : Ext w u) => h3.ext (Flat.mono _ _) e)
  have H4 := Lib.hid (fun (u : World) (e : Ext w u) => h4.ext RPf.mono e)
  have HPM := Lib.hid (fun (p : List Pt) (hm : p ∈ pl) (A : Option Addr) (c : Nat) (u : World) (hs : SlAt RPt 4 u A p.length p) => sProfMin_c p fr te A p.length c u hs (by have := (profB_parts (hp p hm)).2.1; unfold maxLen; omega))
  have HUL : up.length = pl.length := by omega
  rw [HUL] at H3 ⊢
  simp only [] at HRO
  rw [HUL] at HRO
  clear h1 h2 h3 h4 h5 hr hsm ht hu hl hp hq HUL
  generalize ps.length = np at *
  generalize ns.length = nn at *
  generalize lic.length = nq at *
  generalize pl.length = m at *
  go_enter Tryz.func148, Tryz.ntmps148
  go_wp2_with fail
  refine (HRO.out _ (by repeat (first | exact Ext.refl _ | assumption | apply Ext.alloc | apply Ext.drewN | apply Ext.drew | (refine Ext.setCell ?_ (by first | (simp; done) | (simp; omega) | omega) _) | (refine Ext.trans ?_ (by assumption))))).mono ?_
  rintro e w1 ⟨rfl, hb1⟩
  obtain ⟨hcr1, hfr1, hz1⟩ := hb1.rules
  (try simp at hz1)
  have hy1_w0 : w.heap.size < w1.heap.size := (by omega)
  have hy1_w1 : w.heap.size + 1 < w1.heap.size := (by omega)
  have hy1_w2 : w.heap.size + 1 + 1 < w1.heap.size := (by omega)
  have q0 := (((Ext.refl _).alloc (.cells #[.int .i64 need.A, .int .i64 need.B, .int .i64 need.C] 59))).cell (cell_box_at w (w.heap.size) (by simp) [.slice A1 np c1, .slice A2 nn c2, .slice A3 m c3, .slice A4 m c4, .slice A5 nq c5] 44 0 _ rfl)
  have q1 := (((Ext.refl _).alloc (.cells #[.int .i64 need.A, .int .i64 need.B, .int .i64 need.C] 59))).cell (cell_box_at w (w.heap.size) (by simp) [.slice A1 np c1, .slice A2 nn c2, .slice A3 m c3, .slice A4 m c4, .slice A5 nq c5] 44 1 _ rfl)
  have q2 := (((Ext.refl _).alloc (.cells #[.int .i64 need.A, .int .i64 need.B, .int .i64 need.C] 59))).cell (cell_box_at w (w.heap.size) (by simp) [.slice A1 np c1, .slice A2 nn c2, .slice A3 m c3, .slice A4 m c4, .slice A5 nq c5] 44 2 _ rfl)
  have q3 := (((Ext.refl _).alloc (.cells #[.int .i64 need.A, .int .i64 need.B, .int .i64 need.C] 59))).cell (cell_box_at w (w.heap.size) (by simp) [.slice A1 np c1, .slice A2 nn c2, .slice A3 m c3, .slice A4 m c4, .slice A5 nq c5] 44 3 _ rfl)
  have q4 := (((Ext.refl _).alloc (.cells #[.int .i64 need.A, .int .i64 need.B, .int .i64 need.C] 59))).cell (cell_box_at w (w.heap.size) (by simp) [.slice A1 np c1, .slice A2 nn c2, .slice A3 m c3, .slice A4 m c4, .slice A5 nq c5] 44 4 _ rfl)
  have qf0 := ((((Ext.refl _).alloc (.cells #[.int .i64 need.A, .int .i64 need.B, .int .i64 need.C] 59))).frozenEq (a := ⟨w.heap.size, 0, none⟩) (by simp)).trans (frozen_box_at w (w.heap.size) (by simp) #[.slice A1 np c1, .slice A2 nn c2, .slice A3 m c3, .slice A4 m c4, .slice A5 nq c5] 44 0)
  have qf1 := ((((Ext.refl _).alloc (.cells #[.int .i64 need.A, .int .i64 need.B, .int .i64 need.C] 59))).frozenEq (a := ⟨w.heap.size, 1, none⟩) (by simp)).trans (frozen_box_at w (w.heap.size) (by simp) #[.slice A1 np c1, .slice A2 nn c2, .slice A3 m c3, .slice A4 m c4, .slice A5 nq c5] 44 1)
  have qf2 := ((((Ext.refl _).alloc (.cells #[.int .i64 need.A, .int .i64 need.B, .int .i64 need.C] 59))).frozenEq (a := ⟨w.heap.size, 2, none⟩) (by simp)).trans (frozen_box_at w (w.heap.size) (by simp) #[.slice A1 np c1, .slice A2 nn c2, .slice A3 m c3, .slice A4 m c4, .slice A5 nq c5] 44 2)
  have qf3 := ((((Ext.refl _).alloc (.cells #[.int .i64 need.A, .int .i64 need.B, .int .i64 need.C] 59))).frozenEq (a := ⟨w.heap.size, 3, none⟩) (by simp)).trans (frozen_box_at w (w.heap.size) (by simp) #[.slice A1 np c1, .slice A2 nn c2, .slice A3 m c3, .slice A4 m c4, .slice A5 nq c5] 44 3)
  have qf4 := ((((Ext.refl _).alloc (.cells #[.int .i64 need.A, .int .i64 need.B, .int .i64 need.C] 59))).frozenEq (a := ⟨w.heap.size, 4, none⟩) (by simp)).trans (frozen_box_at w (w.heap.size) (by simp) #[.slice A1 np c1, .slice A2 nn c2, .slice A3 m c3, .slice A4 m c4, .slice A5 nq c5] 44 4)
  have y0 := (Ext.refl _).cell (cell_box_at (w.alloc (.cells #[.slice A1 np c1, .slice A2 nn c2, .slice A3 m c3, .slice A4 m c4, .slice A5 nq c5] 44)) (w.heap.size + 1) (by simp) [.int .i64 need.A, .int .i64 need.B, .int .i64 need.C] 59 0 _ rfl)
  have y1 := (Ext.refl _).cell (cell_box_at (w.alloc (.cells #[.slice A1 np c1, .slice A2 nn c2, .slice A3 m c3, .slice A4 m c4, .slice A5 nq c5] 44)) (w.heap.size + 1) (by simp) [.int .i64 need.A, .int .i64 need.B, .int .i64 need.C] 59 1 _ rfl)
  have y2 := (Ext.refl _).cell (cell_box_at (w.alloc (.cells #[.slice A1 np c1, .slice A2 nn c2, .slice A3 m c3, .slice A4 m c4, .slice A5 nq c5] 44)) (w.heap.size + 1) (by simp) [.int .i64 need.A, .int .i64 need.B, .int .i64 need.C] 59 2 _ rfl)
  have yf0 := ((Ext.refl _).frozenEq (a := ⟨w.heap.size + 1, 0, none⟩) (by simp)).trans (frozen_box_at (w.alloc (.cells #[.slice A1 np c1, .slice A2 nn c2, .slice A3 m c3, .slice A4 m c4, .slice A5 nq c5] 44)) (w.heap.size + 1) (by simp) #[.int .i64 need.A, .int .i64 need.B, .int .i64 need.C] 59 0)
  have yf1 := ((Ext.refl _).frozenEq (a := ⟨w.heap.size + 1, 1, none⟩) (by simp)).trans (frozen_box_at (w.alloc (.cells #[.slice A1 np c1, .slice A2 nn c2, .slice A3 m c3, .slice A4 m c4, .slice A5 nq c5] 44)) (w.heap.size + 1) (by simp) #[.int .i64 need.A, .int .i64 need.B, .int .i64 need.C] 59 1)
  have yf2 := ((Ext.refl _).frozenEq (a := ⟨w.heap.size + 1, 2, none⟩) (by simp)).trans (frozen_box_at (w.alloc (.cells #[.slice A1 np c1, .slice A2 nn c2, .slice A3 m c3, .slice A4 m c4, .slice A5 nq c5] 44)) (w.heap.size + 1) (by simp) #[.int .i64 need.A, .int .i64 need.B, .int .i64 need.C] 59 2)
  have EW := ((Ext.refl ((w.alloc (.cells #[.slice A1 np c1, .slice A2 nn c2, .slice A3 m c3, .slice A4 m c4, .slice A5 nq c5] 44)).alloc (.cells #[.int .i64 need.A, .int .i64 need.B, .int .i64 need.C] 59))).alloc (.cells #[] 3)).trans hb1
  have hWs : ((w.alloc (.cells #[.slice A1 np c1, .slice A2 nn c2, .slice A3 m c3, .slice A4 m c4, .slice A5 nq c5] 44)).alloc (.cells #[.int .i64 need.A, .int .i64 need.B, .int .i64 need.C] 59)).heap.size = w.heap.size + 1 + 1 := by simp
  have EW1 : Ext w ((w.alloc (.cells #[.slice A1 np c1, .slice A2 nn c2, .slice A3 m c3, .slice A4 m c4, .slice A5 nq c5] 44)).alloc (.cells #[.int .i64 need.A, .int .i64 need.B, .int .i64 need.C] 59)) := ((Ext.refl w).alloc _).alloc _
  have HO0 := Lib.hid (show w1.ownsRow (w.heap.size + 1 + 1) 3 1 (.slice (some ⟨w.heap.size + 1 + 1, 0, none⟩) 0 0) 0 [] from by
    have h := owns_ext (owns_empty ((w.alloc (.cells #[.slice A1 np c1, .slice A2 nn c2, .slice A3 m c3, .slice A4 m c4, .slice A5 nq c5] 44)).alloc (.cells #[.int .i64 need.A, .int .i64 need.B, .int .i64 need.C] 59)) 3 1) hb1
    simpa using h)
  clear q0 q1 q4 qf0 qf1 qf2 qf3 qf4 yf0 yf1 yf2 hcr1 hfr1 hb1 HRO
  generalize hW : ((w.alloc (.cells #[.slice A1 np c1, .slice A2 nn c2, .slice A3 m c3, .slice A4 m c4, .slice A5 nq c5] 44)).alloc (.cells #[.int .i64 need.A, .int .i64 need.B, .int .i64 need.C] 59)) = W at *
  clear hW
  have z2 := EW.cell q2
  have z3 := EW.cell q3
  go_wp2
  go_loopw [9, 21] (fun l iv wr => ∃ (k a : Nat) (A6 : Option Addr) (c6 : Nat) (acc : List Int), k ≤ m ∧ iv = .int .i64 k ∧ l = .slice A6 a c6 ∧ a ≤ k ∧ Hid (a = acc.length) ∧ Hid (∀ y ∈ acc, In64 y) ∧ Hid (wr.ownsRow (w.heap.size + 1 + 1) 3 1 (.slice A6 a c6) a (acc.flatMap encInt)) ∧ Ext W wr) (fun _ iv _ => m - (intOf iv).toNat)
  case atStart => exact ⟨0, 0, _, 0, [], Nat.zero_le _, rfl, rfl, by omega, Lib.hid rfl, Lib.hid (fun y hy => by cases hy), HO0, EW⟩
  case round =>
    clear HO0 z2 z3
    obtain ⟨k, a, A6, c6, acc, hk, rfl, rfl, hak, HL, HIN, HO, hb⟩ := hrel
    have hxq : Ext w wr := EW1.trans hb
    have z2 := hb.cell q2
    have z3 := hb.cell q3
    have hzr := lt_of_cell z3
    by_cases hlt : k < m
    · obtain ⟨bo, oo, x, cs, hD, hbw, hx, _, hc, Ap, cp, rfl, hs⟩ := (H4.out wr hxq).at_ hlt
      subst hD
      have g0 := hc 0 _ rfl
      simp only [Nat.mul_one, Nat.add_zero] at g0
      obtain ⟨bu, ou, ub, cs2, hD2, hbw2, hx2, _, hc2, rfl, _⟩ := (H3.out wr hxq).at_ hlt
      subst hD2
      have hcu := hc2 0 (.bool ub) rfl
      simp only [Nat.mul_one, Nat.add_zero] at hcu
      have HP := Lib.hid (HPM.out x (List.mem_of_getElem? hx) Ap cp wr hs)
      clear hx hc hs hx2 hc2
      generalize x.length = xl at *
      go_wp2_with fail
      refine HP.out.mono ?_
      rintro e w4 ⟨vv, rfl, hb4⟩
      generalize overB x fr te = ok at *
      have E4 := hb.trans hb4
      have HO4 := Lib.hid (owns_ext HO.out (hb4.alloc (.cells #[.int .i64 vv.A, .int .i64 vv.B, .int .i64 vv.C] 59)))
      have v0 := hb4.cell hcu
      have x2 := hb4.cell z2
      have x3 := hb4.cell z3
      have hx3 := lt_of_cell x3
      have y0' := E4.cell y0
      have y1' := E4.cell y1
      have y2' := E4.cell y2
      have hy0' := lt_of_cell y0'
      have hbu := lt_of_cell v0
      clear z2 z3 hcu g0 HO
      rcases ok with _ | _
      · go_wp2
        go_roundw
        case rel => exact ⟨k + 1, a, A6, c6, acc, by omega, by go_num, rfl, by omega, HL, HIN, HO4, E4.alloc _⟩
        case measure => simp [intOf]; omega
      rcases ub with _ | _
      · go_wp2
        go_roundw
        case rel => exact ⟨k + 1, a, A6, c6, acc, by omega, by go_num, rfl, by omega, HL, HIN, HO4, E4.alloc _⟩
        case measure => simp [intOf]; omega
      go_wp2_with fail
      refine (sVecFits_c need vv _).mono ?_
      rintro e w5 ⟨rfl, hb5⟩
      have E5 := E4.trans (((Ext.refl _).alloc _).trans hb5)
      have HO5 := Lib.hid (owns_ext HO4.out hb5)
      generalize fitsB need vv = fb at *
      clear v0 x2 x3 y0' y1' y2' HO4
      have hle5 := E5.le
      rcases fb with _ | _
      · go_wp2
        go_roundw
        case rel => exact ⟨k + 1, a, A6, c6, acc, by omega, by go_num, rfl, by omega, HL, HIN, HO5, E5⟩
        case measure => simp [intOf]; omega
      · go_wp2_with (at_builtin; go_must (refine wpList_append_r (enc := encInt) (ok := In64) (.tmp 48) (.tmp 50) _ (w.heap.size + 1 + 1) 3 i0 _ 1 8 (.slice A6 a c6) a _ (some ⟨w5.heap.size, 0, none⟩) 1 1 [(k : Int)] rfl rfl Tryz.underlying22 hi hI0 hI1 hI2 rfl (by omega) rfl (owns_ext HO5.out ((Ext.refl _).alloc _)) rfl (by exact sl_one_at (enc := encInt) _ _ rfl (k : Int) 3 rfl ⟨by omega, by omega⟩) (fun _ => rfl) TInt.one (by unfold maxLen; omega) (by omega) (by simp; omega) ?_); intro A9 c9 w6 hr6; have HR6 := Lib.hid hr6; clear hr6)
        have HX6 := Lib.hid (ext_turned (E5.alloc _) (HR6.out.turned (lo := w.heap.size + 1 + 1) (fun q hq => (HO5.out.lt q hq).1)) (by omega))
        go_wp2
        go_roundw
        case rel => exact ⟨k + 1, a + 1, A9, c9, acc ++ [(k : Int)], by omega, by go_num, rfl, by omega, Lib.hid (by rw [List.length_append, ← HL.out]; rfl), Lib.hid (fun y hy => by rcases List.mem_append.1 hy with hy | hy; exact HIN.out y hy; (rw [List.mem_singleton.1 hy]; exact ⟨by omega, by omega⟩)), Lib.hid (by have h := HR6.out.row; rw [List.flatMap_append]; simpa using h), HX6.out⟩
        case measure => simp [intOf]; omega
    · obtain rfl : k = m := by omega
      go_wp2
      exact ret_nums rfl (show SlAt RInt 1 wr A6 a acc by have h := HO.out; rw [HL.out] at h ⊢; exact owns_sl encInt_size h HIN.out) (by omega) hxq
end Go.Proofs.YtgmlcohffdeplaaGreat
/-! LTimes -/
namespace Go.Proofs.YtgmlcohffdeplaaGreat
open Go.RowKit
set_option linter.unusedVariables false
/-- The words of a slice. -/
structure HItem where
  A : Option Addr
  n : Nat
  c : Nat
def HItem.v (h : HItem) : Value := .slice h.A h.n h.c
def encH (h : HItem) : List Value := [h.v]
theorem encH_one (h : HItem) : ∀ u ∈ encH h, u.oneCell' = true := by
  intro u hu; simp [encH] at hu; subst hu; rfl
theorem rpf_items {w : World} {A : Option Addr} {n : Nat} {pl : List (List Pt)} (h : SlAt RPf 1 w A n pl) : ∃ hs : List HItem, SlAt (Flat encH (fun _ => True)) 1 w A n hs ∧ ∀ (k : Nat) (p : List Pt), pl[k]? = some p → ∃ A' c', hs[k]? = some ⟨A', p.length, c'⟩ ∧ SlAt RPt 4 w A' p.length p := by
  rcases Nat.eq_zero_or_pos n with h0 | h0
  · subst h0
    exact ⟨[], SlAt.nil A, fun k p hk => by rw [List.eq_nil_of_length_eq_zero h.len] at hk; cases hk⟩
  obtain ⟨b, o, rfl, hb, hc⟩ := h.2 h0
  have hf : ∀ k : Nat, ∃ t : HItem, ∀ p, pl[k]? = some p → t.n = p.length ∧ w.cell? ⟨b, o + k * 1, none⟩ = some t.v ∧ SlAt RPt 4 w t.A t.n p := fun k => by
    cases hk : pl[k]? with
    | none => exact ⟨⟨none, 0, 0⟩, fun p hp => by cases hp⟩
    | some p =>
      obtain ⟨cs, h1, h2, A', c', rfl, h3⟩ := hc k p hk
      refine ⟨⟨A', p.length, c'⟩, fun q hq => ?_⟩
      injection hq with hq; subst hq
      exact ⟨rfl, by have := h2 0 _ rfl; simpa [HItem.v] using this, h3⟩
  refine ⟨(List.range n).map (fun k => (hf k).choose), ⟨by simp, fun _ => ⟨b, o, rfl, hb, fun k x hx => ?_⟩⟩, fun k p hk => ?_⟩
  · have hkn : k < n := by
      have := (List.getElem?_eq_some_iff.1 hx).1; simpa using this
    rw [List.getElem?_map, List.getElem?_range hkn] at hx
    simp only [Option.map_some, Option.some.injEq] at hx
    subst hx
    obtain ⟨p, hp⟩ : ∃ p, pl[k]? = some p := ⟨_, List.getElem?_eq_getElem (by rw [h.len]; exact hkn)⟩
    obtain ⟨_, h2, _⟩ := (hf k).choose_spec p hp
    refine ⟨encH _, rfl, fun j u hu => ?_, rfl, trivial⟩
    cases j with
    | zero => simp [encH] at hu; subst hu; simpa using h2
    | succ j => simp [encH] at hu
  · have hkn : k < n := by rw [← h.len]; exact (List.getElem?_eq_some_iff.1 hk).1
    obtain ⟨h1, h2, h3⟩ := (hf k).choose_spec p hk
    refine ⟨(hf k).choose.A, (hf k).choose.c, ?_, by rw [h1] at h3; exact h3⟩
    rw [List.getElem?_map, List.getElem?_range hkn, ← h1]
    rfl
theorem items_rpf {w : World} {lo : Nat} {e : TypeId} {A : Option Addr} {n c : Nat} {hs : List HItem} {pl : List (List Pt)} (h : w.ownsRow lo e 1 (.slice A n c) n (hs.flatMap encH)) (hn : hs.length = n) (hl : pl.length = n) (h2 : ∀ (k : Nat) (p : List Pt), pl[k]? = some p → ∃ A' c', hs[k]? = some ⟨A', p.length, c'⟩ ∧ SlAt RPt 4 w A' p.length p) : SlAt RPf 1 w A n pl := by
  subst hn
  have h3 := owns_sl (enc := encH) (ok := fun _ => True) (fun _ => rfl) h (fun _ _ => trivial)
  refine ⟨hl, fun h0 => ?_⟩
  obtain ⟨b, o, rfl, hb, hc⟩ := h3.2 h0
  refine ⟨b, o, rfl, hb, fun k p hp => ?_⟩
  obtain ⟨A', c', e1, hs'⟩ := h2 k p hp
  obtain ⟨cs, h4, h5, h6, _⟩ := hc k _ e1
  exact ⟨cs, h4, h5, A', c', h6, hs'⟩
theorem owns_empty_at (w : World) (b : Nat) (hb : w.heap.size = b) (e : TypeId) (sz : Nat) : (w.alloc (.cells #[] e)).ownsRow b e sz (.slice (some ⟨b, 0, none⟩) 0 0) 0 [] := by
  subst hb; exact owns_empty w e sz
theorem SlAt.app {α : Type} {enc : α → List Value} {ok : α → Prop} {sz m b o : Nat} {w w' : World} {base : Nat} {e : TypeId} {size : Nat} {v : Value} {A' : Option Addr} {n' c' : Nat} {L' : List Value} {xs : List α} (h : SlAt (Flat enc ok) sz w (some ⟨b, o, none⟩) m xs) (hr : AppR w w' base e size v A' n' c' L') (hne : v.ownBlock ≠ some b) : SlAt (Flat enc ok) sz w' (some ⟨b, o, none⟩) m xs := by
  refine ⟨h.1, fun hm => ?_⟩
  obtain ⟨b', o', e1, hb, hc⟩ := h.2 hm
  injection e1 with e1; injection e1 with e1 e2; subst e1 e2
  refine ⟨b, o, rfl, Nat.lt_of_lt_of_le hb hr.size, fun k x hx => ?_⟩
  obtain ⟨cs, h1, h2, h3⟩ := hc k x hx
  exact ⟨cs, h1, fun j u hu => hr.cell (h2 j u hu) hne, h3⟩
set_option maxHeartbeats 16000000 in
set_option maxRecDepth 10000 in
theorem l04Times_c (ps : List Int) (ns : List Node) (up : List Bool) (pl : List (List Pt)) (lic : List Pt) (fr : Int) (v : Value) (w : World) (h : RoomAt w ps ns up (pl, lic) v) (hr : roomB ps ns up pl lic = true) (hfr : In64 fr) : Calls Tryz.prog 132 #[v, .int .i64 fr] w (RetNums w 5001) := by
  obtain ⟨i1, hi1, hJ0, hJ1, hJ2⟩ := info_parts CProf.info
  obtain ⟨hsm, hQ, _, _⟩ := roomB_sm hr
  obtain ⟨ht, hu, hl, hp, hq⟩ := roomB_parts hr
  simp only [] at hl hp hq
  obtain ⟨A1, c1, A2, c2, A3, c3, A4, c4, A5, c5, rfl, h1, h2, h3, h4, h5⟩ := h
  simp only [] at h4 h5 ⊢
  have H5 := Lib.hid (fun (u : World) (e : Ext w u) => h5.ext (Flat.mono Pt.enc Pt.ok) e)
  obtain ⟨hs, g4, h4i⟩ := rpf_items h4
  have H4 := Lib.hid (fun (u : World) (e : Ext w u) => g4.ext (Flat.mono encH (fun _ => True)) e)
  have HI4 := Lib.hid (fun (u : World) (e : Ext w u) (k : Nat) (p : List Pt) (hk : pl[k]? = some p) => show ∃ A' c', hs[k]? = some (⟨A', p.length, c'⟩ : HItem) ∧ SlAt RPt 4 u A' p.length p from by
    obtain ⟨A', c', e1, e2⟩ := h4i k p hk
    exact ⟨A', c', e1, e2.ext (Flat.mono _ _) e⟩)
  have HHL := Lib.hid g4.len
  have HPL := Lib.hid (fun (p : List Pt) (hm : p ∈ pl ++ [lic]) => show p.length ≤ 200 from by
    rcases List.mem_append.1 hm with hm | hm
    · exact (profB_parts (hp p hm)).2.1
    · rw [List.mem_singleton.1 hm]; exact (profB_parts hq).2.1)
  have HFR := Lib.hid hfr
  clear h1 h2 h3 h4 h5 g4 h4i hr hsm ht hu hl hp hq hfr
  have HLM := Lib.hid (show (pl ++ [lic]).length = pl.length + 1 by simp)
  generalize ps.length = np at *
  generalize ns.length = nn at *
  generalize up.length = nu at *
  generalize hm' : pl.length = m at *
  have HM := Lib.hid hm'
  clear hm'
  go_enter Tryz.func132, Tryz.ntmps132
  go_upto_region 2 with fail
  have z0 := ((Ext.refl _).alloc (.cells #[.int .i64 fr] 3)).cell (cell_box_at w (w.heap.size) (by simp) [.slice A1 np c1, .slice A2 nn c2, .slice A3 nu c3, .slice A4 m c4, .slice A5 lic.length c5] 44 0 _ rfl)
  have z1 := ((Ext.refl _).alloc (.cells #[.int .i64 fr] 3)).cell (cell_box_at w (w.heap.size) (by simp) [.slice A1 np c1, .slice A2 nn c2, .slice A3 nu c3, .slice A4 m c4, .slice A5 lic.length c5] 44 1 _ rfl)
  have z2 := ((Ext.refl _).alloc (.cells #[.int .i64 fr] 3)).cell (cell_box_at w (w.heap.size) (by simp) [.slice A1 np c1, .slice A2 nn c2, .slice A3 nu c3, .slice A4 m c4, .slice A5 lic.length c5] 44 2 _ rfl)
  have z3 := ((Ext.refl _).alloc (.cells #[.int .i64 fr] 3)).cell (cell_box_at w (w.heap.size) (by simp) [.slice A1 np c1, .slice A2 nn c2, .slice A3 nu c3, .slice A4 m c4, .slice A5 lic.length c5] 44 3 _ rfl)
  have z4 := ((Ext.refl _).alloc (.cells #[.int .i64 fr] 3)).cell (cell_box_at w (w.heap.size) (by simp) [.slice A1 np c1, .slice A2 nn c2, .slice A3 nu c3, .slice A4 m c4, .slice A5 lic.length c5] 44 4 _ rfl)
  have zf0 := (((Ext.refl _).alloc (.cells #[.int .i64 fr] 3)).frozenEq (a := ⟨w.heap.size, 0, none⟩) (by simp)).trans (frozen_box_at w (w.heap.size) (by simp) #[.slice A1 np c1, .slice A2 nn c2, .slice A3 nu c3, .slice A4 m c4, .slice A5 lic.length c5] 44 0)
  have zf1 := (((Ext.refl _).alloc (.cells #[.int .i64 fr] 3)).frozenEq (a := ⟨w.heap.size, 1, none⟩) (by simp)).trans (frozen_box_at w (w.heap.size) (by simp) #[.slice A1 np c1, .slice A2 nn c2, .slice A3 nu c3, .slice A4 m c4, .slice A5 lic.length c5] 44 1)
  have zf2 := (((Ext.refl _).alloc (.cells #[.int .i64 fr] 3)).frozenEq (a := ⟨w.heap.size, 2, none⟩) (by simp)).trans (frozen_box_at w (w.heap.size) (by simp) #[.slice A1 np c1, .slice A2 nn c2, .slice A3 nu c3, .slice A4 m c4, .slice A5 lic.length c5] 44 2)
  have zf3 := (((Ext.refl _).alloc (.cells #[.int .i64 fr] 3)).frozenEq (a := ⟨w.heap.size, 3, none⟩) (by simp)).trans (frozen_box_at w (w.heap.size) (by simp) #[.slice A1 np c1, .slice A2 nn c2, .slice A3 nu c3, .slice A4 m c4, .slice A5 lic.length c5] 44 3)
  have zf4 := (((Ext.refl _).alloc (.cells #[.int .i64 fr] 3)).frozenEq (a := ⟨w.heap.size, 4, none⟩) (by simp)).trans (frozen_box_at w (w.heap.size) (by simp) #[.slice A1 np c1, .slice A2 nn c2, .slice A3 nu c3, .slice A4 m c4, .slice A5 lic.length c5] 44 4)
  have HSO := Lib.hid (show SlAt RInt 1 ((w.alloc (.cells #[.slice A1 np c1, .slice A2 nn c2, .slice A3 nu c3, .slice A4 m c4, .slice A5 lic.length c5] 44)).alloc (.cells #[.int .i64 fr] 3)) (some ⟨w.heap.size + 1, 0, none⟩) 1 [fr] from sl_one_at (enc := encInt) (ok := In64) (w.alloc (.cells #[.slice A1 np c1, .slice A2 nn c2, .slice A3 nu c3, .slice A4 m c4, .slice A5 lic.length c5] 44)) (w.heap.size + 1) (by simp) fr 3 rfl HFR.out)
  have EW := Lib.hid (show Ext w ((w.alloc (.cells #[.slice A1 np c1, .slice A2 nn c2, .slice A3 nu c3, .slice A4 m c4, .slice A5 lic.length c5] 44)).alloc (.cells #[.int .i64 fr] 3)) from ((Ext.refl w).alloc _).alloc _)
  clear z0 z1 z2 zf0 zf1 zf2 zf3 zf4
  generalize ((w.alloc (.cells #[.slice A1 np c1, .slice A2 nn c2, .slice A3 nu c3, .slice A4 m c4, .slice A5 lic.length c5] 44)).alloc (.cells #[.int .i64 fr] 3)) = W at *
  have hz4 := lt_of_cell z4
  simp only [] at hz4
  have HZ3 := Lib.hid z3
  have HZ4 := Lib.hid z4
  go_cut [19, 20, 21] from 12 to 21 (fun s19 s20 s21 wx => ∃ A7 c7, s19 = .slice A7 (m + 1) c7 ∧ s20 = .int .i64 ((m : Int) + 1) ∧ s21 = .int .i64 0 ∧ Hid (SlAt RPf 1 wx A7 (m + 1) (pl ++ [lic])) ∧ Ext W wx)
  case first =>
    go_region_law (first
      | (refine step_append_r (enc := encH) (ok := fun _ => True) (by rfl) _ _ _ (by rfl) W.heap.size 42 i1 _ 1 24 Tryz.underlying39 hi1 hJ0 hJ1 hJ2 rfl (by omega) _ 0 [] A4 m c4 hs m (by simp) (by rfl) (by rfl) (by first | exact owns_empty_at W.drew W.heap.size (by simp) 42 1 | exact owns_ext (owns_empty_at W.drew W.heap.size (by simp) 42 1) ((Ext.refl _).alloc _) | exact owns_base (owns_empty_at (W.drew.alloc (.cells #[.slice A5 lic.length c5] 42)) (W.heap.size + 1) (by simp) 42 1) (by simp)) (H4.out _ (EW.out.trans (by first | exact ((Ext.refl _).drew).alloc _ | exact (((Ext.refl _).drew).alloc _).alloc _))) (fun _ => rfl) encH_one (by unfold maxLen; omega) (by omega) (by simp; try omega) ?_; intro A8 c8 w3 hr3; have HR3 := Lib.hid hr3; simp only [List.nil_append] at hr3; have HX3 := Lib.hid (show Ext W w3 from ext_turned (by first | exact ((Ext.refl _).drew).alloc _ | exact (((Ext.refl _).drew).alloc _).alloc _) (hr3.turned (lo := W.heap.size) (fun q hq => by first | (cases hq; exact Nat.le_refl _) | (cases hq; simp))) (Nat.le_refl _)); have y4 := HX3.out.cell HZ4.out; have hy4 := lt_of_cell y4; clear hr3)
      | (refine step_append_r (enc := encH) (ok := fun _ => True) (by rfl) _ _ _ (by rfl) W.heap.size 42 i1 _ 1 24 Tryz.underlying39 hi1 hJ0 hJ1 hJ2 rfl (by omega) _ m (hs.flatMap encH) _ 1 1 [(⟨A5, lic.length, c5⟩ : HItem)] (m + 1) rfl (by rfl) (by rfl) (by first | exact HR3.out.row | exact owns_ext HR3.out.row ((Ext.refl _).alloc _)) (by first | exact sl_one_r w3 (⟨A5, lic.length, c5⟩ : HItem) 42 rfl trivial | exact SlAt.app (enc := encH) (sl_one_at (W.drew.alloc (.cells #[] 42)) (W.heap.size + 1) (by simp) (⟨A5, lic.length, c5⟩ : HItem) 42 rfl trivial) HR3.out (by intro hh; have h2 := Option.some.inj (show some W.heap.size = some (W.heap.size + 1) from hh); omega) | exact SlAt.app (enc := encH) ((sl_one_at W.drew W.heap.size (by simp) (⟨A5, lic.length, c5⟩ : HItem) 42 rfl trivial).ext (Flat.mono _ _) ((Ext.refl _).alloc _)) HR3.out (by intro hh; have h2 := Option.some.inj (show some (W.heap.size + 1) = some W.heap.size from hh); omega)) (fun _ => rfl) encH_one (by unfold maxLen; omega) (by omega) (by have := HX3.out.le; simp; try omega) ?_; intro A7 c7 w9 hr9; have HR9 := Lib.hid hr9.row; have HX9 := Lib.hid (show Ext W w9 from ext_turned (by first | exact HX3.out | exact HX3.out.alloc _) (hr9.turned (lo := W.heap.size) (fun q hq => (HR3.out.row.lt q hq).1)) (Nat.le_refl _)); clear hr9))
    all_goals
      have EX9 := Lib.hid (show Ext w w9 from EW.out.trans HX9.out)
      skip
      have HS9 := Lib.hid (show SlAt RPf 1 w9 A7 (m + 1) (pl ++ [lic]) from by
        refine items_rpf (hs := hs ++ [(⟨A5, lic.length, c5⟩ : HItem)]) (by have h := HR9.out; rw [List.flatMap_append]; exact h) (by rw [List.length_append, HHL.out]; rfl) HLM.out (fun k p hk => ?_)
        rcases Nat.lt_or_ge k m with hkm | hkm
        · rw [List.getElem?_append_left (by rw [HM.out]; exact hkm)] at hk
          rw [List.getElem?_append_left (by rw [HHL.out]; exact hkm)]
          exact HI4.out w9 EX9.out k p hk
        · have hk2 : k = m := by have := (List.getElem?_eq_some_iff.1 hk).1; rw [HLM.out] at this; omega
          subst hk2
          rw [List.getElem?_append_right (by rw [HM.out]; exact Nat.le_refl _), HM.out] at hk
          rw [List.getElem?_append_right (by rw [HHL.out]; exact Nat.le_refl _), HHL.out]
          simp only [Nat.sub_self, List.getElem?_cons_zero, Option.some.injEq] at hk ⊢
          subst hk
          exact ⟨A5, c5, rfl, H5.out w9 EX9.out⟩)
      go_wp2_with fail
      go_meet
      exact ⟨A7, c7, rfl, by first | rfl | simp, rfl, HS9, HX9.out⟩
  case rest =>
    obtain ⟨A7, c7, rfl, rfl, rfl, HS9, hx9⟩ := hcut
    have EX9 := Lib.hid (show Ext w wc from EW.out.trans hx9)
    have HSO9 := Lib.hid (show SlAt RInt 1 wc (some ⟨w.heap.size + 1, 0, none⟩) 1 [fr] from HSO.out.ext (Flat.mono _ _) hx9)
    have HP9 := Lib.hid (fun (u : World) (e : Ext wc u) => HS9.out.ext RPf.mono e)
    have hwl : w.heap.size < wc.heap.size := by have := EX9.out.le; have := hx9.le; omega
    clear HSO EW H4 H5 HI4 HHL HS9 z3 z4 hz4 HZ3 HZ4 hJ0 hJ1 hJ2 hi1 HLM HM
    clear i1 HFR
    go_wp2
    go_loopw [5, 21] (fun l iv wr => ∃ (k a : Nat) (A6 : Option Addr) (c6 : Nat) (xs : List Int), k ≤ m + 1 ∧ iv = .int .i64 k ∧ l = .slice A6 a c6 ∧ a ≤ 1 + 200 * k ∧ Hid (SlAt RInt 1 wr A6 a xs) ∧ Ext wc wr) (fun _ iv _ => (m + 1) - (intOf iv).toNat)
    case atStart => exact ⟨0, 1, _, 1, [fr], Nat.zero_le _, rfl, rfl, by omega, HSO9, Ext.refl _⟩
    case round =>
      clear HSO9
      obtain ⟨k, a, A6, c6, xs, hk, rfl, rfl, hak, HS, hb⟩ := hrel
      by_cases hlt : k < m + 1
      · obtain ⟨bo, oo, x, cs, hD, hbw, hx, _, hc, Ap, cp, rfl, hsx⟩ := (HP9.out wr hb).at_ hlt
        subst hD
        have g0 := hc 0 _ rfl
        simp only [Nat.mul_one, Nat.add_zero] at g0
        have hxl : x.length ≤ 200 := HPL.out x (List.mem_of_getElem? hx)
        have HX := Lib.hid (fun (u : World) (e : Ext wr u) => hsx.ext (Flat.mono Pt.enc Pt.ok) e)
        clear hx hc hsx
        generalize x.length = xl at *
        obtain ⟨wo, rfl⟩ : ∃ wo, wo = wr := ⟨_, rfl⟩
        have hkd : decide (k < m + 1) = true := decide_eq_true hlt
        have hkd2 : decide ((k : Int) < ((m + 1 : Nat) : Int)) = true := by rw [decide_eq_true_iff]; omega
        have hkd3 : decide ((k : Int) < (m : Int) + 1) = true := by rw [decide_eq_true_iff]; omega
        go_wp2
        go_loopw [5, 28] (fun l jv wq => ∃ (j a' : Nat) (A3 : Option Addr) (c3 : Nat) (ys : List Int), j ≤ xl ∧ jv = .int .i64 j ∧ l = .slice A3 a' c3 ∧ a' ≤ 1 + 200 * k + j ∧ Hid (SlAt RInt 1 wq A3 a' ys) ∧ Ext wo wq) (fun _ jv _ => xl - (intOf jv).toNat)
        case atStart => exact ⟨0, a, A6, c6, xs, Nat.zero_le _, rfl, rfl, by omega, Lib.hid (HS.out.ext (Flat.mono _ _) ((Ext.refl _).alloc _)), (Ext.refl _).alloc _⟩
        case round =>
          clear HS hak g0
          obtain ⟨j, a', A3, c3, ys, hj, rfl, rfl, haj, HY, hbq⟩ := hrel
          by_cases hlt2 : j < xl
          · obtain ⟨bp, op, y, cs2, hD2, hbw2, hy, _, hc2, rfl, hyok⟩ := (HX.out wr hbq).at_ hlt2
            subst hD2
            have y0 := hc2 0 _ rfl
            have y1 := hc2 1 _ rfl
            have y2 := hc2 2 _ rfl
            have y3 := hc2 3 _ rfl
            simp only [Nat.add_zero] at y0
            have HYO := Lib.hid hyok.1
            clear hy hc2 hyok
            by_cases hg : fr < y.At
            · have hgd : decide (fr < y.At) = true := decide_eq_true hg
              clear hg
              go_wp2_with fail
              refine (l02Has_c ys y.At A3 a' c3 _ (HY.out.ext (Flat.mono _ _) ((Ext.refl _).alloc _)) (by unfold maxLen; omega)).mono ?_
              rintro e w5 ⟨rfl, hb5⟩
              have HY5 := Lib.hid ((HY.out.ext (Flat.mono encInt In64) ((Ext.refl _).alloc (.cells #[.int .i64 y.At, .int .i64 y.Free.A, .int .i64 y.Free.B, .int .i64 y.Free.C] 107))).ext (Flat.mono encInt In64) hb5)
              have E5 := hbq.trans (((Ext.refl _).alloc _).trans hb5)
              generalize ys.contains y.At = b at *
              rcases b with _ | _
              · have q0 := (hb5).cell (cell_box_at wr (wr.heap.size) (by simp) [.int .i64 y.At, .int .i64 y.Free.A, .int .i64 y.Free.B, .int .i64 y.Free.C] 107 0 _ rfl)
                have q1 := (hb5).cell (cell_box_at wr (wr.heap.size) (by simp) [.int .i64 y.At, .int .i64 y.Free.A, .int .i64 y.Free.B, .int .i64 y.Free.C] 107 1 _ rfl)
                have q2 := (hb5).cell (cell_box_at wr (wr.heap.size) (by simp) [.int .i64 y.At, .int .i64 y.Free.A, .int .i64 y.Free.B, .int .i64 y.Free.C] 107 2 _ rfl)
                have q3 := (hb5).cell (cell_box_at wr (wr.heap.size) (by simp) [.int .i64 y.At, .int .i64 y.Free.A, .int .i64 y.Free.B, .int .i64 y.Free.C] 107 3 _ rfl)
                have qf0 := ((hb5).frozenEq (a := ⟨wr.heap.size, 0, none⟩) (by simp)).trans (frozen_box_at wr (wr.heap.size) (by simp) #[.int .i64 y.At, .int .i64 y.Free.A, .int .i64 y.Free.B, .int .i64 y.Free.C] 107 0)
                have qf1 := ((hb5).frozenEq (a := ⟨wr.heap.size, 1, none⟩) (by simp)).trans (frozen_box_at wr (wr.heap.size) (by simp) #[.int .i64 y.At, .int .i64 y.Free.A, .int .i64 y.Free.B, .int .i64 y.Free.C] 107 1)
                have qf2 := ((hb5).frozenEq (a := ⟨wr.heap.size, 2, none⟩) (by simp)).trans (frozen_box_at wr (wr.heap.size) (by simp) #[.int .i64 y.At, .int .i64 y.Free.A, .int .i64 y.Free.B, .int .i64 y.Free.C] 107 2)
                have qf3 := ((hb5).frozenEq (a := ⟨wr.heap.size, 3, none⟩) (by simp)).trans (frozen_box_at wr (wr.heap.size) (by simp) #[.int .i64 y.At, .int .i64 y.Free.A, .int .i64 y.Free.B, .int .i64 y.Free.C] 107 3)
                have hq0 := lt_of_cell q0
                clear hb5 HY y0 y1 y2 y3
                go_wp2_with fail
                refine (l04Rise_c ys y.At A3 a' c3 w5 HY5.out (by omega) HYO.out).mono ?_
                rintro e w6 ⟨A8, c8, rfl, ho6, hb6⟩
                have HIN := Lib.hid (show ∀ z ∈ riseGo y.At ys false, In64 z from fun z hz => by
                  rcases rise_mem _ _ _ z hz with rfl | hz
                  · exact HYO.out
                  · exact HY5.out.all z hz)
                have HSL := Lib.hid (show SlAt RInt 1 w6 A8 (a' + 1) (riseGo y.At ys false) from by
                  have h1 := rise_len y.At ys false
                  rw [HY5.out.len] at h1
                  have h2 := owns_sl encInt_size ho6 HIN.out
                  rw [h1] at h2; exact h2)
                have HRL := Lib.hid (show (riseGo y.At ys false).length = a' + 1 from by have h1 := rise_len y.At ys false; rw [HY5.out.len] at h1; exact h1)
                rw [HRL.out]
                clear ho6
                go_wp2
                go_roundw
                case rel => exact ⟨j + 1, a' + 1, A8, c8, riseGo y.At ys false, by omega, by go_num, rfl, by omega, HSL, E5.trans hb6⟩
                case measure => simp [intOf]; omega
              · go_wp2
                go_roundw
                case rel => exact ⟨j + 1, a', A3, c3, ys, by omega, by go_num, rfl, by omega, HY5, E5⟩
                case measure => simp [intOf]; omega
            · have hgd : decide (fr < y.At) = false := decide_eq_false hg
              clear hg
              go_wp2
              go_roundw
              case rel => exact ⟨j + 1, a', A3, c3, ys, by omega, by go_num, rfl, by omega, Lib.hid (HY.out.ext (Flat.mono _ _) ((Ext.refl _).alloc _)), hbq.alloc _⟩
              case measure => simp [intOf]; omega
          · obtain rfl : j = xl := by omega
            go_wp2
            go_roundw
            case rel => exact ⟨k + 1, a', A3, c3, ys, by omega, by go_num, rfl, by omega, HY, hb.trans hbq⟩
            case measure => simp [intOf]; omega
      · obtain rfl : k = m + 1 := by omega
        go_wp2
        exact ret_nums rfl HS.out (by omega) (EX9.out.trans hb)
end Go.Proofs.YtgmlcohffdeplaaGreat
/-! LCan -/
namespace Go.Proofs.YtgmlcohffdeplaaGreat
open Go.RowKit
set_option linter.unusedVariables false
theorem retPick_none {w w' : World} (hb : Ext w w') : RetPick w (.returned (.tuple #[.slice none 0 0, .bool false])) w' := ⟨false, none, 0, 0, [], rfl, SlAt.nil none, by omega, by omega, hb⟩
set_option maxHeartbeats 8000000 in
set_option maxRecDepth 10000 in
theorem l04Can_c (ps : List Int) (ns : List Node) (up : List Bool) (pl : List (List Pt)) (lic : List Pt) (j : Job) (t : Int) (v : Value) (w : World) (h : RoomAt w ps ns up (pl, lic) v) (hr : roomB ps ns up pl lic = true) : Calls Tryz.prog 133 #[v, .agg #[.int .i64 j.Id, .int .i64 j.Prio, .int .i64 j.Nodes, .int .i64 j.Need.A, .int .i64 j.Need.B, .int .i64 j.Need.C, .int .i64 j.Lic.A, .int .i64 j.Lic.B, .int .i64 j.Lic.C, .int .i64 j.Wall, .int .i64 j.Level], .int .i64 t] w (RetPick w) := by
  obtain ⟨hsm, hQ, hps, hns⟩ := roomB_sm hr
  have HEL := Lib.hid (fun (te : Int) (u : World) (e : Ext w u) => Eligible_c ps ns up pl lic j.Need t te v u (h.ext e) hr)
  obtain ⟨A1, c1, A2, c2, A3, c3, A4, c4, A5, c5, rfl, h1, h2, h3, h4, h5⟩ := h
  simp only [] at h4 h5 HEL ⊢
  have HPM := Lib.hid (fun (te : Int) (u : World) (e : Ext w u) => sProfMin_c lic t te A5 lic.length c5 u (h5.ext (Flat.mono _ _) e) (by have := (roomB_parts hr).2.2.2.2; have h9 := (profB_parts this).2.1; simp only [] at h9; unfold maxLen; omega))
  have HCH := Lib.hid (fun (xs : List Int) (D : Option Addr) (m f : Nat) (u : World) (e : Ext w u) (h6 : SlAt RInt 1 u D m xs) (hm : m ≤ 1000) => Choose_c ps ns xs j.Nodes j.Level A1 ps.length c1 A2 ns.length c2 D m f u (h1.ext (Flat.mono _ _) e) (h2.ext (Flat.mono _ _) e) h6 hm (by omega) (by omega))
  clear h1 h2 h3 h4 h5 hr hsm
  generalize ps.length = np at *
  generalize ns.length = nn at *
  generalize up.length = nu at *
  generalize pl.length = m at *
  generalize lic.length = nl at *
  go_enter Tryz.func133, Tryz.ntmps133
  obtain ⟨W, hW⟩ : ∃ u, u = ((w.alloc (.cells #[.slice A1 np c1, .slice A2 nn c2, .slice A3 nu c3, .slice A4 m c4, .slice A5 nl c5] 44)).alloc (.cells #[.int .i64 j.Id, .int .i64 j.Prio, .int .i64 j.Nodes, .int .i64 j.Need.A, .int .i64 j.Need.B, .int .i64 j.Need.C, .int .i64 j.Lic.A, .int .i64 j.Lic.B, .int .i64 j.Lic.C, .int .i64 j.Wall, .int .i64 j.Level] 146)) := ⟨_, rfl⟩
  have q0 := ((Ext.refl _).alloc (.cells #[.int .i64 j.Id, .int .i64 j.Prio, .int .i64 j.Nodes, .int .i64 j.Need.A, .int .i64 j.Need.B, .int .i64 j.Need.C, .int .i64 j.Lic.A, .int .i64 j.Lic.B, .int .i64 j.Lic.C, .int .i64 j.Wall, .int .i64 j.Level] 146)).cell (cell_box_at w (w.heap.size) (by simp) [.slice A1 np c1, .slice A2 nn c2, .slice A3 nu c3, .slice A4 m c4, .slice A5 nl c5] 44 0 _ rfl)
  have q1 := ((Ext.refl _).alloc (.cells #[.int .i64 j.Id, .int .i64 j.Prio, .int .i64 j.Nodes, .int .i64 j.Need.A, .int .i64 j.Need.B, .int .i64 j.Need.C, .int .i64 j.Lic.A, .int .i64 j.Lic.B, .int .i64 j.Lic.C, .int .i64 j.Wall, .int .i64 j.Level] 146)).cell (cell_box_at w (w.heap.size) (by simp) [.slice A1 np c1, .slice A2 nn c2, .slice A3 nu c3, .slice A4 m c4, .slice A5 nl c5] 44 1 _ rfl)
  have q2 := ((Ext.refl _).alloc (.cells #[.int .i64 j.Id, .int .i64 j.Prio, .int .i64 j.Nodes, .int .i64 j.Need.A, .int .i64 j.Need.B, .int .i64 j.Need.C, .int .i64 j.Lic.A, .int .i64 j.Lic.B, .int .i64 j.Lic.C, .int .i64 j.Wall, .int .i64 j.Level] 146)).cell (cell_box_at w (w.heap.size) (by simp) [.slice A1 np c1, .slice A2 nn c2, .slice A3 nu c3, .slice A4 m c4, .slice A5 nl c5] 44 2 _ rfl)
  have q3 := ((Ext.refl _).alloc (.cells #[.int .i64 j.Id, .int .i64 j.Prio, .int .i64 j.Nodes, .int .i64 j.Need.A, .int .i64 j.Need.B, .int .i64 j.Need.C, .int .i64 j.Lic.A, .int .i64 j.Lic.B, .int .i64 j.Lic.C, .int .i64 j.Wall, .int .i64 j.Level] 146)).cell (cell_box_at w (w.heap.size) (by simp) [.slice A1 np c1, .slice A2 nn c2, .slice A3 nu c3, .slice A4 m c4, .slice A5 nl c5] 44 3 _ rfl)
  have q4 := ((Ext.refl _).alloc (.cells #[.int .i64 j.Id, .int .i64 j.Prio, .int .i64 j.Nodes, .int .i64 j.Need.A, .int .i64 j.Need.B, .int .i64 j.Need.C, .int .i64 j.Lic.A, .int .i64 j.Lic.B, .int .i64 j.Lic.C, .int .i64 j.Wall, .int .i64 j.Level] 146)).cell (cell_box_at w (w.heap.size) (by simp) [.slice A1 np c1, .slice A2 nn c2, .slice A3 nu c3, .slice A4 m c4, .slice A5 nl c5] 44 4 _ rfl)
  have qf0 := (((Ext.refl _).alloc (.cells #[.int .i64 j.Id, .int .i64 j.Prio, .int .i64 j.Nodes, .int .i64 j.Need.A, .int .i64 j.Need.B, .int .i64 j.Need.C, .int .i64 j.Lic.A, .int .i64 j.Lic.B, .int .i64 j.Lic.C, .int .i64 j.Wall, .int .i64 j.Level] 146)).frozenEq (a := ⟨w.heap.size, 0, none⟩) (by simp)).trans (frozen_box_at w (w.heap.size) (by simp) #[.slice A1 np c1, .slice A2 nn c2, .slice A3 nu c3, .slice A4 m c4, .slice A5 nl c5] 44 0)
  have qf1 := (((Ext.refl _).alloc (.cells #[.int .i64 j.Id, .int .i64 j.Prio, .int .i64 j.Nodes, .int .i64 j.Need.A, .int .i64 j.Need.B, .int .i64 j.Need.C, .int .i64 j.Lic.A, .int .i64 j.Lic.B, .int .i64 j.Lic.C, .int .i64 j.Wall, .int .i64 j.Level] 146)).frozenEq (a := ⟨w.heap.size, 1, none⟩) (by simp)).trans (frozen_box_at w (w.heap.size) (by simp) #[.slice A1 np c1, .slice A2 nn c2, .slice A3 nu c3, .slice A4 m c4, .slice A5 nl c5] 44 1)
  have qf2 := (((Ext.refl _).alloc (.cells #[.int .i64 j.Id, .int .i64 j.Prio, .int .i64 j.Nodes, .int .i64 j.Need.A, .int .i64 j.Need.B, .int .i64 j.Need.C, .int .i64 j.Lic.A, .int .i64 j.Lic.B, .int .i64 j.Lic.C, .int .i64 j.Wall, .int .i64 j.Level] 146)).frozenEq (a := ⟨w.heap.size, 2, none⟩) (by simp)).trans (frozen_box_at w (w.heap.size) (by simp) #[.slice A1 np c1, .slice A2 nn c2, .slice A3 nu c3, .slice A4 m c4, .slice A5 nl c5] 44 2)
  have qf3 := (((Ext.refl _).alloc (.cells #[.int .i64 j.Id, .int .i64 j.Prio, .int .i64 j.Nodes, .int .i64 j.Need.A, .int .i64 j.Need.B, .int .i64 j.Need.C, .int .i64 j.Lic.A, .int .i64 j.Lic.B, .int .i64 j.Lic.C, .int .i64 j.Wall, .int .i64 j.Level] 146)).frozenEq (a := ⟨w.heap.size, 3, none⟩) (by simp)).trans (frozen_box_at w (w.heap.size) (by simp) #[.slice A1 np c1, .slice A2 nn c2, .slice A3 nu c3, .slice A4 m c4, .slice A5 nl c5] 44 3)
  have qf4 := (((Ext.refl _).alloc (.cells #[.int .i64 j.Id, .int .i64 j.Prio, .int .i64 j.Nodes, .int .i64 j.Need.A, .int .i64 j.Need.B, .int .i64 j.Need.C, .int .i64 j.Lic.A, .int .i64 j.Lic.B, .int .i64 j.Lic.C, .int .i64 j.Wall, .int .i64 j.Level] 146)).frozenEq (a := ⟨w.heap.size, 4, none⟩) (by simp)).trans (frozen_box_at w (w.heap.size) (by simp) #[.slice A1 np c1, .slice A2 nn c2, .slice A3 nu c3, .slice A4 m c4, .slice A5 nl c5] 44 4)
  have j0 := (Ext.refl _).cell (cell_box_at (w.alloc (.cells #[.slice A1 np c1, .slice A2 nn c2, .slice A3 nu c3, .slice A4 m c4, .slice A5 nl c5] 44)) (w.heap.size + 1) (by simp) [.int .i64 j.Id, .int .i64 j.Prio, .int .i64 j.Nodes, .int .i64 j.Need.A, .int .i64 j.Need.B, .int .i64 j.Need.C, .int .i64 j.Lic.A, .int .i64 j.Lic.B, .int .i64 j.Lic.C, .int .i64 j.Wall, .int .i64 j.Level] 146 0 _ rfl)
  have j1 := (Ext.refl _).cell (cell_box_at (w.alloc (.cells #[.slice A1 np c1, .slice A2 nn c2, .slice A3 nu c3, .slice A4 m c4, .slice A5 nl c5] 44)) (w.heap.size + 1) (by simp) [.int .i64 j.Id, .int .i64 j.Prio, .int .i64 j.Nodes, .int .i64 j.Need.A, .int .i64 j.Need.B, .int .i64 j.Need.C, .int .i64 j.Lic.A, .int .i64 j.Lic.B, .int .i64 j.Lic.C, .int .i64 j.Wall, .int .i64 j.Level] 146 1 _ rfl)
  have j2 := (Ext.refl _).cell (cell_box_at (w.alloc (.cells #[.slice A1 np c1, .slice A2 nn c2, .slice A3 nu c3, .slice A4 m c4, .slice A5 nl c5] 44)) (w.heap.size + 1) (by simp) [.int .i64 j.Id, .int .i64 j.Prio, .int .i64 j.Nodes, .int .i64 j.Need.A, .int .i64 j.Need.B, .int .i64 j.Need.C, .int .i64 j.Lic.A, .int .i64 j.Lic.B, .int .i64 j.Lic.C, .int .i64 j.Wall, .int .i64 j.Level] 146 2 _ rfl)
  have j3 := (Ext.refl _).cell (cell_box_at (w.alloc (.cells #[.slice A1 np c1, .slice A2 nn c2, .slice A3 nu c3, .slice A4 m c4, .slice A5 nl c5] 44)) (w.heap.size + 1) (by simp) [.int .i64 j.Id, .int .i64 j.Prio, .int .i64 j.Nodes, .int .i64 j.Need.A, .int .i64 j.Need.B, .int .i64 j.Need.C, .int .i64 j.Lic.A, .int .i64 j.Lic.B, .int .i64 j.Lic.C, .int .i64 j.Wall, .int .i64 j.Level] 146 3 _ rfl)
  have j4 := (Ext.refl _).cell (cell_box_at (w.alloc (.cells #[.slice A1 np c1, .slice A2 nn c2, .slice A3 nu c3, .slice A4 m c4, .slice A5 nl c5] 44)) (w.heap.size + 1) (by simp) [.int .i64 j.Id, .int .i64 j.Prio, .int .i64 j.Nodes, .int .i64 j.Need.A, .int .i64 j.Need.B, .int .i64 j.Need.C, .int .i64 j.Lic.A, .int .i64 j.Lic.B, .int .i64 j.Lic.C, .int .i64 j.Wall, .int .i64 j.Level] 146 4 _ rfl)
  have j5 := (Ext.refl _).cell (cell_box_at (w.alloc (.cells #[.slice A1 np c1, .slice A2 nn c2, .slice A3 nu c3, .slice A4 m c4, .slice A5 nl c5] 44)) (w.heap.size + 1) (by simp) [.int .i64 j.Id, .int .i64 j.Prio, .int .i64 j.Nodes, .int .i64 j.Need.A, .int .i64 j.Need.B, .int .i64 j.Need.C, .int .i64 j.Lic.A, .int .i64 j.Lic.B, .int .i64 j.Lic.C, .int .i64 j.Wall, .int .i64 j.Level] 146 5 _ rfl)
  have j6 := (Ext.refl _).cell (cell_box_at (w.alloc (.cells #[.slice A1 np c1, .slice A2 nn c2, .slice A3 nu c3, .slice A4 m c4, .slice A5 nl c5] 44)) (w.heap.size + 1) (by simp) [.int .i64 j.Id, .int .i64 j.Prio, .int .i64 j.Nodes, .int .i64 j.Need.A, .int .i64 j.Need.B, .int .i64 j.Need.C, .int .i64 j.Lic.A, .int .i64 j.Lic.B, .int .i64 j.Lic.C, .int .i64 j.Wall, .int .i64 j.Level] 146 6 _ rfl)
  have j7 := (Ext.refl _).cell (cell_box_at (w.alloc (.cells #[.slice A1 np c1, .slice A2 nn c2, .slice A3 nu c3, .slice A4 m c4, .slice A5 nl c5] 44)) (w.heap.size + 1) (by simp) [.int .i64 j.Id, .int .i64 j.Prio, .int .i64 j.Nodes, .int .i64 j.Need.A, .int .i64 j.Need.B, .int .i64 j.Need.C, .int .i64 j.Lic.A, .int .i64 j.Lic.B, .int .i64 j.Lic.C, .int .i64 j.Wall, .int .i64 j.Level] 146 7 _ rfl)
  have j8 := (Ext.refl _).cell (cell_box_at (w.alloc (.cells #[.slice A1 np c1, .slice A2 nn c2, .slice A3 nu c3, .slice A4 m c4, .slice A5 nl c5] 44)) (w.heap.size + 1) (by simp) [.int .i64 j.Id, .int .i64 j.Prio, .int .i64 j.Nodes, .int .i64 j.Need.A, .int .i64 j.Need.B, .int .i64 j.Need.C, .int .i64 j.Lic.A, .int .i64 j.Lic.B, .int .i64 j.Lic.C, .int .i64 j.Wall, .int .i64 j.Level] 146 8 _ rfl)
  have j9 := (Ext.refl _).cell (cell_box_at (w.alloc (.cells #[.slice A1 np c1, .slice A2 nn c2, .slice A3 nu c3, .slice A4 m c4, .slice A5 nl c5] 44)) (w.heap.size + 1) (by simp) [.int .i64 j.Id, .int .i64 j.Prio, .int .i64 j.Nodes, .int .i64 j.Need.A, .int .i64 j.Need.B, .int .i64 j.Need.C, .int .i64 j.Lic.A, .int .i64 j.Lic.B, .int .i64 j.Lic.C, .int .i64 j.Wall, .int .i64 j.Level] 146 9 _ rfl)
  have j10 := (Ext.refl _).cell (cell_box_at (w.alloc (.cells #[.slice A1 np c1, .slice A2 nn c2, .slice A3 nu c3, .slice A4 m c4, .slice A5 nl c5] 44)) (w.heap.size + 1) (by simp) [.int .i64 j.Id, .int .i64 j.Prio, .int .i64 j.Nodes, .int .i64 j.Need.A, .int .i64 j.Need.B, .int .i64 j.Need.C, .int .i64 j.Lic.A, .int .i64 j.Lic.B, .int .i64 j.Lic.C, .int .i64 j.Wall, .int .i64 j.Level] 146 10 _ rfl)
  have jf0 := ((Ext.refl _).frozenEq (a := ⟨w.heap.size + 1, 0, none⟩) (by simp)).trans (frozen_box_at (w.alloc (.cells #[.slice A1 np c1, .slice A2 nn c2, .slice A3 nu c3, .slice A4 m c4, .slice A5 nl c5] 44)) (w.heap.size + 1) (by simp) #[.int .i64 j.Id, .int .i64 j.Prio, .int .i64 j.Nodes, .int .i64 j.Need.A, .int .i64 j.Need.B, .int .i64 j.Need.C, .int .i64 j.Lic.A, .int .i64 j.Lic.B, .int .i64 j.Lic.C, .int .i64 j.Wall, .int .i64 j.Level] 146 0)
  have jf1 := ((Ext.refl _).frozenEq (a := ⟨w.heap.size + 1, 1, none⟩) (by simp)).trans (frozen_box_at (w.alloc (.cells #[.slice A1 np c1, .slice A2 nn c2, .slice A3 nu c3, .slice A4 m c4, .slice A5 nl c5] 44)) (w.heap.size + 1) (by simp) #[.int .i64 j.Id, .int .i64 j.Prio, .int .i64 j.Nodes, .int .i64 j.Need.A, .int .i64 j.Need.B, .int .i64 j.Need.C, .int .i64 j.Lic.A, .int .i64 j.Lic.B, .int .i64 j.Lic.C, .int .i64 j.Wall, .int .i64 j.Level] 146 1)
  have jf2 := ((Ext.refl _).frozenEq (a := ⟨w.heap.size + 1, 2, none⟩) (by simp)).trans (frozen_box_at (w.alloc (.cells #[.slice A1 np c1, .slice A2 nn c2, .slice A3 nu c3, .slice A4 m c4, .slice A5 nl c5] 44)) (w.heap.size + 1) (by simp) #[.int .i64 j.Id, .int .i64 j.Prio, .int .i64 j.Nodes, .int .i64 j.Need.A, .int .i64 j.Need.B, .int .i64 j.Need.C, .int .i64 j.Lic.A, .int .i64 j.Lic.B, .int .i64 j.Lic.C, .int .i64 j.Wall, .int .i64 j.Level] 146 2)
  have jf3 := ((Ext.refl _).frozenEq (a := ⟨w.heap.size + 1, 3, none⟩) (by simp)).trans (frozen_box_at (w.alloc (.cells #[.slice A1 np c1, .slice A2 nn c2, .slice A3 nu c3, .slice A4 m c4, .slice A5 nl c5] 44)) (w.heap.size + 1) (by simp) #[.int .i64 j.Id, .int .i64 j.Prio, .int .i64 j.Nodes, .int .i64 j.Need.A, .int .i64 j.Need.B, .int .i64 j.Need.C, .int .i64 j.Lic.A, .int .i64 j.Lic.B, .int .i64 j.Lic.C, .int .i64 j.Wall, .int .i64 j.Level] 146 3)
  have jf4 := ((Ext.refl _).frozenEq (a := ⟨w.heap.size + 1, 4, none⟩) (by simp)).trans (frozen_box_at (w.alloc (.cells #[.slice A1 np c1, .slice A2 nn c2, .slice A3 nu c3, .slice A4 m c4, .slice A5 nl c5] 44)) (w.heap.size + 1) (by simp) #[.int .i64 j.Id, .int .i64 j.Prio, .int .i64 j.Nodes, .int .i64 j.Need.A, .int .i64 j.Need.B, .int .i64 j.Need.C, .int .i64 j.Lic.A, .int .i64 j.Lic.B, .int .i64 j.Lic.C, .int .i64 j.Wall, .int .i64 j.Level] 146 4)
  have jf5 := ((Ext.refl _).frozenEq (a := ⟨w.heap.size + 1, 5, none⟩) (by simp)).trans (frozen_box_at (w.alloc (.cells #[.slice A1 np c1, .slice A2 nn c2, .slice A3 nu c3, .slice A4 m c4, .slice A5 nl c5] 44)) (w.heap.size + 1) (by simp) #[.int .i64 j.Id, .int .i64 j.Prio, .int .i64 j.Nodes, .int .i64 j.Need.A, .int .i64 j.Need.B, .int .i64 j.Need.C, .int .i64 j.Lic.A, .int .i64 j.Lic.B, .int .i64 j.Lic.C, .int .i64 j.Wall, .int .i64 j.Level] 146 5)
  have jf6 := ((Ext.refl _).frozenEq (a := ⟨w.heap.size + 1, 6, none⟩) (by simp)).trans (frozen_box_at (w.alloc (.cells #[.slice A1 np c1, .slice A2 nn c2, .slice A3 nu c3, .slice A4 m c4, .slice A5 nl c5] 44)) (w.heap.size + 1) (by simp) #[.int .i64 j.Id, .int .i64 j.Prio, .int .i64 j.Nodes, .int .i64 j.Need.A, .int .i64 j.Need.B, .int .i64 j.Need.C, .int .i64 j.Lic.A, .int .i64 j.Lic.B, .int .i64 j.Lic.C, .int .i64 j.Wall, .int .i64 j.Level] 146 6)
  have jf7 := ((Ext.refl _).frozenEq (a := ⟨w.heap.size + 1, 7, none⟩) (by simp)).trans (frozen_box_at (w.alloc (.cells #[.slice A1 np c1, .slice A2 nn c2, .slice A3 nu c3, .slice A4 m c4, .slice A5 nl c5] 44)) (w.heap.size + 1) (by simp) #[.int .i64 j.Id, .int .i64 j.Prio, .int .i64 j.Nodes, .int .i64 j.Need.A, .int .i64 j.Need.B, .int .i64 j.Need.C, .int .i64 j.Lic.A, .int .i64 j.Lic.B, .int .i64 j.Lic.C, .int .i64 j.Wall, .int .i64 j.Level] 146 7)
  have jf8 := ((Ext.refl _).frozenEq (a := ⟨w.heap.size + 1, 8, none⟩) (by simp)).trans (frozen_box_at (w.alloc (.cells #[.slice A1 np c1, .slice A2 nn c2, .slice A3 nu c3, .slice A4 m c4, .slice A5 nl c5] 44)) (w.heap.size + 1) (by simp) #[.int .i64 j.Id, .int .i64 j.Prio, .int .i64 j.Nodes, .int .i64 j.Need.A, .int .i64 j.Need.B, .int .i64 j.Need.C, .int .i64 j.Lic.A, .int .i64 j.Lic.B, .int .i64 j.Lic.C, .int .i64 j.Wall, .int .i64 j.Level] 146 8)
  have jf9 := ((Ext.refl _).frozenEq (a := ⟨w.heap.size + 1, 9, none⟩) (by simp)).trans (frozen_box_at (w.alloc (.cells #[.slice A1 np c1, .slice A2 nn c2, .slice A3 nu c3, .slice A4 m c4, .slice A5 nl c5] 44)) (w.heap.size + 1) (by simp) #[.int .i64 j.Id, .int .i64 j.Prio, .int .i64 j.Nodes, .int .i64 j.Need.A, .int .i64 j.Need.B, .int .i64 j.Need.C, .int .i64 j.Lic.A, .int .i64 j.Lic.B, .int .i64 j.Lic.C, .int .i64 j.Wall, .int .i64 j.Level] 146 9)
  have jf10 := ((Ext.refl _).frozenEq (a := ⟨w.heap.size + 1, 10, none⟩) (by simp)).trans (frozen_box_at (w.alloc (.cells #[.slice A1 np c1, .slice A2 nn c2, .slice A3 nu c3, .slice A4 m c4, .slice A5 nl c5] 44)) (w.heap.size + 1) (by simp) #[.int .i64 j.Id, .int .i64 j.Prio, .int .i64 j.Nodes, .int .i64 j.Need.A, .int .i64 j.Need.B, .int .i64 j.Need.C, .int .i64 j.Lic.A, .int .i64 j.Lic.B, .int .i64 j.Lic.C, .int .i64 j.Wall, .int .i64 j.Level] 146 10)
  have EW : Ext w ((w.alloc (.cells #[.slice A1 np c1, .slice A2 nn c2, .slice A3 nu c3, .slice A4 m c4, .slice A5 nl c5] 44)).alloc (.cells #[.int .i64 j.Id, .int .i64 j.Prio, .int .i64 j.Nodes, .int .i64 j.Need.A, .int .i64 j.Need.B, .int .i64 j.Need.C, .int .i64 j.Lic.A, .int .i64 j.Lic.B, .int .i64 j.Lic.C, .int .i64 j.Wall, .int .i64 j.Level] 146)) := ((Ext.refl w).alloc _).alloc _
  go_upto_region 1 with fail
  rw [← hW] at q0 q1 q2 q3 q4 j0 j1 j2 j3 j4 j5 j6 j7 j8 j9 j10 EW ⊢
  clear qf0 qf1 qf2 qf3 qf4 jf0 jf1 jf2 jf3 jf4 jf5 jf6 jf7 jf8 jf9 jf10 hW
  have HKS := Lib.hid (fun (u : World) (e : Ext W u) => show Ext W u ∧ (u.cell? ⟨w.heap.size, 0, none⟩ = some (.slice A1 np c1) ∧ u.cell? ⟨w.heap.size, 1, none⟩ = some (.slice A2 nn c2) ∧ u.cell? ⟨w.heap.size, 2, none⟩ = some (.slice A3 nu c3) ∧ u.cell? ⟨w.heap.size, 3, none⟩ = some (.slice A4 m c4) ∧ u.cell? ⟨w.heap.size, 4, none⟩ = some (.slice A5 nl c5)) ∧ u.cell? ⟨w.heap.size + 1, 2, none⟩ = some (.int .i64 j.Nodes) ∧ u.cell? ⟨w.heap.size + 1, 3, none⟩ = some (.int .i64 j.Need.A) ∧ u.cell? ⟨w.heap.size + 1, 4, none⟩ = some (.int .i64 j.Need.B) ∧ u.cell? ⟨w.heap.size + 1, 5, none⟩ = some (.int .i64 j.Need.C) ∧ u.cell? ⟨w.heap.size + 1, 6, none⟩ = some (.int .i64 j.Lic.A) ∧ u.cell? ⟨w.heap.size + 1, 7, none⟩ = some (.int .i64 j.Lic.B) ∧ u.cell? ⟨w.heap.size + 1, 8, none⟩ = some (.int .i64 j.Lic.C) ∧ u.cell? ⟨w.heap.size + 1, 9, none⟩ = some (.int .i64 j.Wall) ∧ u.cell? ⟨w.heap.size + 1, 10, none⟩ = some (.int .i64 j.Level) from ⟨e, ⟨e.cell q0, e.cell q1, e.cell q2, e.cell q3, e.cell q4⟩, e.cell j2, e.cell j3, e.cell j4, e.cell j5, e.cell j6, e.cell j7, e.cell j8, e.cell j9, e.cell j10⟩)
  go_wp2_with fail
  refine (HPM.out _ _ EW).mono ?_
  rintro e w1 ⟨vv, rfl, hb1⟩
  generalize overB lic t _ = ok at *
  have HB1 := Lib.hid hb1
  obtain ⟨_, _, _, _, _, _, y6, y7, y8, _, _⟩ := HKS.out w1 hb1
  have hy6 := lt_of_cell y6
  clear q0 q1 q2 q3 q4 j0 j1 j2 j3 j4 j5 j6 j7 j8 j9 j10
  rcases ok with _ | _
  · go_wp2
    exact bodyPost_ret (by simp [results, Tryz.results133, go_sem, *]) rfl (retPick_none ((EW.trans hb1).alloc _))
  go_wp2_with fail
  refine (sVecFits_c j.Lic vv _).mono ?_
  rintro e w2 ⟨rfl, hb2⟩
  generalize fitsB j.Lic vv = fb at *
  have E2 := hb1.trans (((Ext.refl _).alloc _).trans hb2)
  rcases fb with _ | _
  · go_wp2
    exact bodyPost_ret (by simp [results, Tryz.results133, go_sem, *]) rfl (retPick_none (EW.trans E2))
  have HE2 := Lib.hid E2
  have EWH := Lib.hid EW
  clear y6 y7 y8 hy6 hb1 hb2 HB1 E2 EW
  go_upto_region 4 with fail
  have HK2 := Lib.hid (fun (u : World) (e : Ext w2 u) => HKS.out u (HE2.out.trans e))
  go_region_held3 (fun u => Ext W u ∧ (u.cell? ⟨w.heap.size, 0, none⟩ = some (.slice A1 np c1) ∧ u.cell? ⟨w.heap.size, 1, none⟩ = some (.slice A2 nn c2) ∧ u.cell? ⟨w.heap.size, 2, none⟩ = some (.slice A3 nu c3) ∧ u.cell? ⟨w.heap.size, 3, none⟩ = some (.slice A4 m c4) ∧ u.cell? ⟨w.heap.size, 4, none⟩ = some (.slice A5 nl c5)) ∧ u.cell? ⟨w.heap.size + 1, 2, none⟩ = some (.int .i64 j.Nodes) ∧ u.cell? ⟨w.heap.size + 1, 3, none⟩ = some (.int .i64 j.Need.A) ∧ u.cell? ⟨w.heap.size + 1, 4, none⟩ = some (.int .i64 j.Need.B) ∧ u.cell? ⟨w.heap.size + 1, 5, none⟩ = some (.int .i64 j.Need.C) ∧ u.cell? ⟨w.heap.size + 1, 6, none⟩ = some (.int .i64 j.Lic.A) ∧ u.cell? ⟨w.heap.size + 1, 7, none⟩ = some (.int .i64 j.Lic.B) ∧ u.cell? ⟨w.heap.size + 1, 8, none⟩ = some (.int .i64 j.Lic.C) ∧ u.cell? ⟨w.heap.size + 1, 9, none⟩ = some (.int .i64 j.Wall) ∧ u.cell? ⟨w.heap.size + 1, 10, none⟩ = some (.int .i64 j.Level)) ((refine HK2.out _ ?_; first | exact (Ext.refl _).drew | exact HX3.out | exact HX4.out)) (first
    | (go_at_call 148; (with_reducible refine (HEL.out _ _ ((EWH.out.trans HE2.out).trans ((Ext.refl _).drew))).mono ?_); rintro e w3 ⟨A6, n6, c6, xs6, rfl, hs6, hn6, hb6⟩; have HX3 := Lib.hid (Ext.trans ((Ext.refl w2).drew) hb6); have HS6 := Lib.hid hs6; clear hs6 hb6)
    | (go_at_call 147; (with_reducible refine (HCH.out xs6 A6 n6 c6 _ ((EWH.out.trans HE2.out).trans HX3.out) HS6.out (by omega)).mono ?_); rintro e w4 ⟨ok4, A7, n7, c7, xs7, rfl, hs7, hn7, hc7, hb7⟩; have HX4 := Lib.hid (HX3.out.trans hb7); have HS7 := Lib.hid hs7; clear hs7 hb7))
  all_goals
    go_wp2
    exact bodyPost_ret (by simp [results, Tryz.results133, go_sem, *]) rfl ⟨ok4, A7, n7, c7, xs7, rfl, HS7.out, hn7, hc7, (EWH.out.trans HE2.out).trans HX4.out⟩
end Go.Proofs.YtgmlcohffdeplaaGreat
/-! Earl -/
namespace Go.Proofs.YtgmlcohffdeplaaGreat
open Go.RowKit
set_option linter.unusedVariables false
/-- A time, numbers, and a word; the word is told of right rooms alone. -/
def RetEarl (w : World) (rb : Bool) : Ending → World → Prop := fun e w' => ∃ (ok : Bool) (t : Int) (A : Option Addr) (n c : Nat) (xs : List Int), e = .returned (.tuple #[.int .i64 t, .slice A n c, .bool ok]) ∧ In64 t ∧ SlAt RInt 1 w' A n xs ∧ n ≤ 1048576 ∧ n ≤ c ∧ (ok = true → rb = true) ∧ Ext w w'
theorem retEarl_none {w w' : World} {rb : Bool} (hb : Ext w w') : RetEarl w rb (.returned (.tuple #[.int .i64 0, .slice none 0 0, .bool false])) w' := ⟨false, 0, none, 0, 0, [], rfl, ⟨by omega, by omega⟩, SlAt.nil none, by omega, by omega, (fun h => by cases h), hb⟩
set_option maxHeartbeats 8000000 in
set_option maxRecDepth 10000 in
theorem Earliest_c (ps : List Int) (ns : List Node) (up : List Bool) (pl : List (List Pt)) (lic : List Pt) (j : Job) (t : Int) (v : Value) (w : World) (h : RoomAt w ps ns up (pl, lic) v) (hsm : roomSm ps ns up pl lic) (ht : In64 t) : Calls Tryz.prog 112 #[v, .agg #[.int .i64 j.Id, .int .i64 j.Prio, .int .i64 j.Nodes, .int .i64 j.Need.A, .int .i64 j.Need.B, .int .i64 j.Need.C, .int .i64 j.Lic.A, .int .i64 j.Lic.B, .int .i64 j.Lic.C, .int .i64 j.Wall, .int .i64 j.Level], .int .i64 t] w (RetEarl w (roomB ps ns up pl lic)) := by
  have HRO := Lib.hid (fun (u : World) (e : Ext w u) => sRoomOkG_c ps ns up pl lic v u (h.ext e) hsm)
  have HJO := Lib.hid (fun (u : World) => sJobOk_c j u)
  have HTI := Lib.hid (fun u : World => sTime_c t u)
  have HTM := Lib.hid (fun (hr : roomB ps ns up pl lic = true) (u : World) (e : Ext w u) => l04Times_c ps ns up pl lic t v u (h.ext e) hr ht)
  have HCN := Lib.hid (fun (hr : roomB ps ns up pl lic = true) (t : Int) (u : World) (e : Ext w u) => l04Can_c ps ns up pl lic j t v u (h.ext e) hr)
  obtain ⟨A1, c1, A2, c2, A3, c3, A4, c4, A5, c5, rfl, h1, h2, h3, h4, h5⟩ := h
  simp only [] at HRO HTM HCN ⊢
  clear h1 h2 h3 h4 h5 hsm ht
  generalize roomB ps ns up pl lic = rb at *
  generalize ps.length = np at *
  generalize ns.length = nn at *
  generalize up.length = nu at *
  generalize pl.length = m at *
  generalize lic.length = nl at *
  rcases rb with _ | _
  · clear HTM HCN
    go_enter Tryz.func112, Tryz.ntmps112
    go_wp2_with fail
    refine (HRO.out _ (by repeat (first | exact Ext.refl _ | assumption | apply Ext.alloc | apply Ext.drewN | apply Ext.drew | (refine Ext.setCell ?_ (by first | (simp; done) | (simp; omega) | omega) _) | (refine Ext.trans ?_ (by assumption))))).mono ?_
    rintro e w1 ⟨rfl, hb1⟩
    obtain ⟨hcr1, hfr1, hz1⟩ := hb1.rules
    (try simp at hz1)
    have hy1_w0 : w.heap.size < w1.heap.size := (by omega)
    have hy1_w1 : w.heap.size + 1 < w1.heap.size := (by omega)
    go_wp2
    exact bodyPost_ret (by simp [results, Tryz.results112, go_sem, *]) rfl (retEarl_none ((((Ext.refl w).alloc _).alloc _).trans hb1))
  rcases (Bool.eq_false_or_eq_true (jobB j)).symm with hj | hj
  all_goals rw [hj] at HJO
  · clear HTM HCN hj
    go_enter Tryz.func112, Tryz.ntmps112
    go_wp2_with fail
    refine (HRO.out _ (by repeat (first | exact Ext.refl _ | assumption | apply Ext.alloc | apply Ext.drewN | apply Ext.drew | (refine Ext.setCell ?_ (by first | (simp; done) | (simp; omega) | omega) _) | (refine Ext.trans ?_ (by assumption))))).mono ?_
    rintro e w1 ⟨rfl, hb1⟩
    obtain ⟨hcr1, hfr1, hz1⟩ := hb1.rules
    (try simp at hz1)
    have hy1_w0 : w.heap.size < w1.heap.size := (by omega)
    have hy1_w1 : w.heap.size + 1 < w1.heap.size := (by omega)
    go_wp2_with fail
    refine (HJO.out _).mono ?_
    rintro e w2 ⟨rfl, hb2⟩
    obtain ⟨hcr2, hfr2, hz2⟩ := hb2.rules
    (try simp at hz2)
    have hy2_w0 : w.heap.size < w2.heap.size := (by omega)
    have hy2_w1 : w.heap.size + 1 < w2.heap.size := (by omega)
    go_wp2
    exact bodyPost_ret (by simp [results, Tryz.results112, go_sem, *]) rfl (retEarl_none ((((Ext.refl w).alloc _).alloc _).trans (hb1.trans hb2)))
  rcases (Bool.eq_false_or_eq_true (timeB t)).symm with hn | hn
  all_goals rw [hn] at HTI
  · clear HTM HCN hj hn
    go_enter Tryz.func112, Tryz.ntmps112
    go_wp2_with fail
    refine (HRO.out _ (by repeat (first | exact Ext.refl _ | assumption | apply Ext.alloc | apply Ext.drewN | apply Ext.drew | (refine Ext.setCell ?_ (by first | (simp; done) | (simp; omega) | omega) _) | (refine Ext.trans ?_ (by assumption))))).mono ?_
    rintro e w1 ⟨rfl, hb1⟩
    obtain ⟨hcr1, hfr1, hz1⟩ := hb1.rules
    (try simp at hz1)
    have hy1_w0 : w.heap.size < w1.heap.size := (by omega)
    have hy1_w1 : w.heap.size + 1 < w1.heap.size := (by omega)
    go_wp2_with fail
    refine (HJO.out _).mono ?_
    rintro e w2 ⟨rfl, hb2⟩
    obtain ⟨hcr2, hfr2, hz2⟩ := hb2.rules
    (try simp at hz2)
    have hy2_w0 : w.heap.size < w2.heap.size := (by omega)
    have hy2_w1 : w.heap.size + 1 < w2.heap.size := (by omega)
    go_wp2_with fail
    refine (HTI.out _).mono ?_
    rintro e w3 ⟨rfl, rfl⟩
    go_wp2
    exact bodyPost_ret (by simp [results, Tryz.results112, go_sem, *]) rfl (retEarl_none ((((Ext.refl w).alloc _).alloc _).trans (hb1.trans hb2)))
  clear hj hn
  go_enter Tryz.func112, Tryz.ntmps112
  go_wp2_with fail
  refine (HRO.out _ (by repeat (first | exact Ext.refl _ | assumption | apply Ext.alloc | apply Ext.drewN | apply Ext.drew | (refine Ext.setCell ?_ (by first | (simp; done) | (simp; omega) | omega) _) | (refine Ext.trans ?_ (by assumption))))).mono ?_
  rintro e w1 ⟨rfl, hb1⟩
  obtain ⟨hcr1, hfr1, hz1⟩ := hb1.rules
  (try simp at hz1)
  have hy1_w0 : w.heap.size < w1.heap.size := (by omega)
  have hy1_w1 : w.heap.size + 1 < w1.heap.size := (by omega)
  go_wp2_with fail
  refine (HJO.out _).mono ?_
  rintro e w2 ⟨rfl, hb2⟩
  obtain ⟨hcr2, hfr2, hz2⟩ := hb2.rules
  (try simp at hz2)
  have hy2_w0 : w.heap.size < w2.heap.size := (by omega)
  have hy2_w1 : w.heap.size + 1 < w2.heap.size := (by omega)
  go_wp2_with fail
  refine (HTI.out _).mono ?_
  rintro e w3 ⟨rfl, rfl⟩
  have EW : Ext ((w.alloc (.cells #[.slice A1 np c1, .slice A2 nn c2, .slice A3 nu c3, .slice A4 m c4, .slice A5 nl c5] 44)).alloc (.cells #[.int .i64 j.Id, .int .i64 j.Prio, .int .i64 j.Nodes, .int .i64 j.Need.A, .int .i64 j.Need.B, .int .i64 j.Need.C, .int .i64 j.Lic.A, .int .i64 j.Lic.B, .int .i64 j.Lic.C, .int .i64 j.Wall, .int .i64 j.Level] 146)) w2 := hb1.trans hb2
  have q0 := (((Ext.refl _).alloc _).trans EW).cell (cell_box_at w (w.heap.size) (by simp) [.slice A1 np c1, .slice A2 nn c2, .slice A3 nu c3, .slice A4 m c4, .slice A5 nl c5] 44 0 _ rfl)
  have q1 := (((Ext.refl _).alloc _).trans EW).cell (cell_box_at w (w.heap.size) (by simp) [.slice A1 np c1, .slice A2 nn c2, .slice A3 nu c3, .slice A4 m c4, .slice A5 nl c5] 44 1 _ rfl)
  have q2 := (((Ext.refl _).alloc _).trans EW).cell (cell_box_at w (w.heap.size) (by simp) [.slice A1 np c1, .slice A2 nn c2, .slice A3 nu c3, .slice A4 m c4, .slice A5 nl c5] 44 2 _ rfl)
  have q3 := (((Ext.refl _).alloc _).trans EW).cell (cell_box_at w (w.heap.size) (by simp) [.slice A1 np c1, .slice A2 nn c2, .slice A3 nu c3, .slice A4 m c4, .slice A5 nl c5] 44 3 _ rfl)
  have q4 := (((Ext.refl _).alloc _).trans EW).cell (cell_box_at w (w.heap.size) (by simp) [.slice A1 np c1, .slice A2 nn c2, .slice A3 nu c3, .slice A4 m c4, .slice A5 nl c5] 44 4 _ rfl)
  have qf0 := ((((Ext.refl _).alloc _).trans EW).frozenEq (a := ⟨w.heap.size, 0, none⟩) (by simp)).trans (frozen_box_at w (w.heap.size) (by simp) #[.slice A1 np c1, .slice A2 nn c2, .slice A3 nu c3, .slice A4 m c4, .slice A5 nl c5] 44 0)
  have qf1 := ((((Ext.refl _).alloc _).trans EW).frozenEq (a := ⟨w.heap.size, 1, none⟩) (by simp)).trans (frozen_box_at w (w.heap.size) (by simp) #[.slice A1 np c1, .slice A2 nn c2, .slice A3 nu c3, .slice A4 m c4, .slice A5 nl c5] 44 1)
  have qf2 := ((((Ext.refl _).alloc _).trans EW).frozenEq (a := ⟨w.heap.size, 2, none⟩) (by simp)).trans (frozen_box_at w (w.heap.size) (by simp) #[.slice A1 np c1, .slice A2 nn c2, .slice A3 nu c3, .slice A4 m c4, .slice A5 nl c5] 44 2)
  have qf3 := ((((Ext.refl _).alloc _).trans EW).frozenEq (a := ⟨w.heap.size, 3, none⟩) (by simp)).trans (frozen_box_at w (w.heap.size) (by simp) #[.slice A1 np c1, .slice A2 nn c2, .slice A3 nu c3, .slice A4 m c4, .slice A5 nl c5] 44 3)
  have qf4 := ((((Ext.refl _).alloc _).trans EW).frozenEq (a := ⟨w.heap.size, 4, none⟩) (by simp)).trans (frozen_box_at w (w.heap.size) (by simp) #[.slice A1 np c1, .slice A2 nn c2, .slice A3 nu c3, .slice A4 m c4, .slice A5 nl c5] 44 4)
  have j0 := (EW).cell (cell_box_at (w.alloc (.cells #[.slice A1 np c1, .slice A2 nn c2, .slice A3 nu c3, .slice A4 m c4, .slice A5 nl c5] 44)) (w.heap.size + 1) (by simp) [.int .i64 j.Id, .int .i64 j.Prio, .int .i64 j.Nodes, .int .i64 j.Need.A, .int .i64 j.Need.B, .int .i64 j.Need.C, .int .i64 j.Lic.A, .int .i64 j.Lic.B, .int .i64 j.Lic.C, .int .i64 j.Wall, .int .i64 j.Level] 146 0 _ rfl)
  have j1 := (EW).cell (cell_box_at (w.alloc (.cells #[.slice A1 np c1, .slice A2 nn c2, .slice A3 nu c3, .slice A4 m c4, .slice A5 nl c5] 44)) (w.heap.size + 1) (by simp) [.int .i64 j.Id, .int .i64 j.Prio, .int .i64 j.Nodes, .int .i64 j.Need.A, .int .i64 j.Need.B, .int .i64 j.Need.C, .int .i64 j.Lic.A, .int .i64 j.Lic.B, .int .i64 j.Lic.C, .int .i64 j.Wall, .int .i64 j.Level] 146 1 _ rfl)
  have j2 := (EW).cell (cell_box_at (w.alloc (.cells #[.slice A1 np c1, .slice A2 nn c2, .slice A3 nu c3, .slice A4 m c4, .slice A5 nl c5] 44)) (w.heap.size + 1) (by simp) [.int .i64 j.Id, .int .i64 j.Prio, .int .i64 j.Nodes, .int .i64 j.Need.A, .int .i64 j.Need.B, .int .i64 j.Need.C, .int .i64 j.Lic.A, .int .i64 j.Lic.B, .int .i64 j.Lic.C, .int .i64 j.Wall, .int .i64 j.Level] 146 2 _ rfl)
  have j3 := (EW).cell (cell_box_at (w.alloc (.cells #[.slice A1 np c1, .slice A2 nn c2, .slice A3 nu c3, .slice A4 m c4, .slice A5 nl c5] 44)) (w.heap.size + 1) (by simp) [.int .i64 j.Id, .int .i64 j.Prio, .int .i64 j.Nodes, .int .i64 j.Need.A, .int .i64 j.Need.B, .int .i64 j.Need.C, .int .i64 j.Lic.A, .int .i64 j.Lic.B, .int .i64 j.Lic.C, .int .i64 j.Wall, .int .i64 j.Level] 146 3 _ rfl)
  have j4 := (EW).cell (cell_box_at (w.alloc (.cells #[.slice A1 np c1, .slice A2 nn c2, .slice A3 nu c3, .slice A4 m c4, .slice A5 nl c5] 44)) (w.heap.size + 1) (by simp) [.int .i64 j.Id, .int .i64 j.Prio, .int .i64 j.Nodes, .int .i64 j.Need.A, .int .i64 j.Need.B, .int .i64 j.Need.C, .int .i64 j.Lic.A, .int .i64 j.Lic.B, .int .i64 j.Lic.C, .int .i64 j.Wall, .int .i64 j.Level] 146 4 _ rfl)
  have j5 := (EW).cell (cell_box_at (w.alloc (.cells #[.slice A1 np c1, .slice A2 nn c2, .slice A3 nu c3, .slice A4 m c4, .slice A5 nl c5] 44)) (w.heap.size + 1) (by simp) [.int .i64 j.Id, .int .i64 j.Prio, .int .i64 j.Nodes, .int .i64 j.Need.A, .int .i64 j.Need.B, .int .i64 j.Need.C, .int .i64 j.Lic.A, .int .i64 j.Lic.B, .int .i64 j.Lic.C, .int .i64 j.Wall, .int .i64 j.Level] 146 5 _ rfl)
  have j6 := (EW).cell (cell_box_at (w.alloc (.cells #[.slice A1 np c1, .slice A2 nn c2, .slice A3 nu c3, .slice A4 m c4, .slice A5 nl c5] 44)) (w.heap.size + 1) (by simp) [.int .i64 j.Id, .int .i64 j.Prio, .int .i64 j.Nodes, .int .i64 j.Need.A, .int .i64 j.Need.B, .int .i64 j.Need.C, .int .i64 j.Lic.A, .int .i64 j.Lic.B, .int .i64 j.Lic.C, .int .i64 j.Wall, .int .i64 j.Level] 146 6 _ rfl)
  have j7 := (EW).cell (cell_box_at (w.alloc (.cells #[.slice A1 np c1, .slice A2 nn c2, .slice A3 nu c3, .slice A4 m c4, .slice A5 nl c5] 44)) (w.heap.size + 1) (by simp) [.int .i64 j.Id, .int .i64 j.Prio, .int .i64 j.Nodes, .int .i64 j.Need.A, .int .i64 j.Need.B, .int .i64 j.Need.C, .int .i64 j.Lic.A, .int .i64 j.Lic.B, .int .i64 j.Lic.C, .int .i64 j.Wall, .int .i64 j.Level] 146 7 _ rfl)
  have j8 := (EW).cell (cell_box_at (w.alloc (.cells #[.slice A1 np c1, .slice A2 nn c2, .slice A3 nu c3, .slice A4 m c4, .slice A5 nl c5] 44)) (w.heap.size + 1) (by simp) [.int .i64 j.Id, .int .i64 j.Prio, .int .i64 j.Nodes, .int .i64 j.Need.A, .int .i64 j.Need.B, .int .i64 j.Need.C, .int .i64 j.Lic.A, .int .i64 j.Lic.B, .int .i64 j.Lic.C, .int .i64 j.Wall, .int .i64 j.Level] 146 8 _ rfl)
  have j9 := (EW).cell (cell_box_at (w.alloc (.cells #[.slice A1 np c1, .slice A2 nn c2, .slice A3 nu c3, .slice A4 m c4, .slice A5 nl c5] 44)) (w.heap.size + 1) (by simp) [.int .i64 j.Id, .int .i64 j.Prio, .int .i64 j.Nodes, .int .i64 j.Need.A, .int .i64 j.Need.B, .int .i64 j.Need.C, .int .i64 j.Lic.A, .int .i64 j.Lic.B, .int .i64 j.Lic.C, .int .i64 j.Wall, .int .i64 j.Level] 146 9 _ rfl)
  have j10 := (EW).cell (cell_box_at (w.alloc (.cells #[.slice A1 np c1, .slice A2 nn c2, .slice A3 nu c3, .slice A4 m c4, .slice A5 nl c5] 44)) (w.heap.size + 1) (by simp) [.int .i64 j.Id, .int .i64 j.Prio, .int .i64 j.Nodes, .int .i64 j.Need.A, .int .i64 j.Need.B, .int .i64 j.Need.C, .int .i64 j.Lic.A, .int .i64 j.Lic.B, .int .i64 j.Lic.C, .int .i64 j.Wall, .int .i64 j.Level] 146 10 _ rfl)
  have jf0 := ((EW).frozenEq (a := ⟨w.heap.size + 1, 0, none⟩) (by simp)).trans (frozen_box_at (w.alloc (.cells #[.slice A1 np c1, .slice A2 nn c2, .slice A3 nu c3, .slice A4 m c4, .slice A5 nl c5] 44)) (w.heap.size + 1) (by simp) #[.int .i64 j.Id, .int .i64 j.Prio, .int .i64 j.Nodes, .int .i64 j.Need.A, .int .i64 j.Need.B, .int .i64 j.Need.C, .int .i64 j.Lic.A, .int .i64 j.Lic.B, .int .i64 j.Lic.C, .int .i64 j.Wall, .int .i64 j.Level] 146 0)
  have jf1 := ((EW).frozenEq (a := ⟨w.heap.size + 1, 1, none⟩) (by simp)).trans (frozen_box_at (w.alloc (.cells #[.slice A1 np c1, .slice A2 nn c2, .slice A3 nu c3, .slice A4 m c4, .slice A5 nl c5] 44)) (w.heap.size + 1) (by simp) #[.int .i64 j.Id, .int .i64 j.Prio, .int .i64 j.Nodes, .int .i64 j.Need.A, .int .i64 j.Need.B, .int .i64 j.Need.C, .int .i64 j.Lic.A, .int .i64 j.Lic.B, .int .i64 j.Lic.C, .int .i64 j.Wall, .int .i64 j.Level] 146 1)
  have jf2 := ((EW).frozenEq (a := ⟨w.heap.size + 1, 2, none⟩) (by simp)).trans (frozen_box_at (w.alloc (.cells #[.slice A1 np c1, .slice A2 nn c2, .slice A3 nu c3, .slice A4 m c4, .slice A5 nl c5] 44)) (w.heap.size + 1) (by simp) #[.int .i64 j.Id, .int .i64 j.Prio, .int .i64 j.Nodes, .int .i64 j.Need.A, .int .i64 j.Need.B, .int .i64 j.Need.C, .int .i64 j.Lic.A, .int .i64 j.Lic.B, .int .i64 j.Lic.C, .int .i64 j.Wall, .int .i64 j.Level] 146 2)
  have jf3 := ((EW).frozenEq (a := ⟨w.heap.size + 1, 3, none⟩) (by simp)).trans (frozen_box_at (w.alloc (.cells #[.slice A1 np c1, .slice A2 nn c2, .slice A3 nu c3, .slice A4 m c4, .slice A5 nl c5] 44)) (w.heap.size + 1) (by simp) #[.int .i64 j.Id, .int .i64 j.Prio, .int .i64 j.Nodes, .int .i64 j.Need.A, .int .i64 j.Need.B, .int .i64 j.Need.C, .int .i64 j.Lic.A, .int .i64 j.Lic.B, .int .i64 j.Lic.C, .int .i64 j.Wall, .int .i64 j.Level] 146 3)
  have jf4 := ((EW).frozenEq (a := ⟨w.heap.size + 1, 4, none⟩) (by simp)).trans (frozen_box_at (w.alloc (.cells #[.slice A1 np c1, .slice A2 nn c2, .slice A3 nu c3, .slice A4 m c4, .slice A5 nl c5] 44)) (w.heap.size + 1) (by simp) #[.int .i64 j.Id, .int .i64 j.Prio, .int .i64 j.Nodes, .int .i64 j.Need.A, .int .i64 j.Need.B, .int .i64 j.Need.C, .int .i64 j.Lic.A, .int .i64 j.Lic.B, .int .i64 j.Lic.C, .int .i64 j.Wall, .int .i64 j.Level] 146 4)
  have jf5 := ((EW).frozenEq (a := ⟨w.heap.size + 1, 5, none⟩) (by simp)).trans (frozen_box_at (w.alloc (.cells #[.slice A1 np c1, .slice A2 nn c2, .slice A3 nu c3, .slice A4 m c4, .slice A5 nl c5] 44)) (w.heap.size + 1) (by simp) #[.int .i64 j.Id, .int .i64 j.Prio, .int .i64 j.Nodes, .int .i64 j.Need.A, .int .i64 j.Need.B, .int .i64 j.Need.C, .int .i64 j.Lic.A, .int .i64 j.Lic.B, .int .i64 j.Lic.C, .int .i64 j.Wall, .int .i64 j.Level] 146 5)
  have jf6 := ((EW).frozenEq (a := ⟨w.heap.size + 1, 6, none⟩) (by simp)).trans (frozen_box_at (w.alloc (.cells #[.slice A1 np c1, .slice A2 nn c2, .slice A3 nu c3, .slice A4 m c4, .slice A5 nl c5] 44)) (w.heap.size + 1) (by simp) #[.int .i64 j.Id, .int .i64 j.Prio, .int .i64 j.Nodes, .int .i64 j.Need.A, .int .i64 j.Need.B, .int .i64 j.Need.C, .int .i64 j.Lic.A, .int .i64 j.Lic.B, .int .i64 j.Lic.C, .int .i64 j.Wall, .int .i64 j.Level] 146 6)
  have jf7 := ((EW).frozenEq (a := ⟨w.heap.size + 1, 7, none⟩) (by simp)).trans (frozen_box_at (w.alloc (.cells #[.slice A1 np c1, .slice A2 nn c2, .slice A3 nu c3, .slice A4 m c4, .slice A5 nl c5] 44)) (w.heap.size + 1) (by simp) #[.int .i64 j.Id, .int .i64 j.Prio, .int .i64 j.Nodes, .int .i64 j.Need.A, .int .i64 j.Need.B, .int .i64 j.Need.C, .int .i64 j.Lic.A, .int .i64 j.Lic.B, .int .i64 j.Lic.C, .int .i64 j.Wall, .int .i64 j.Level] 146 7)
  have jf8 := ((EW).frozenEq (a := ⟨w.heap.size + 1, 8, none⟩) (by simp)).trans (frozen_box_at (w.alloc (.cells #[.slice A1 np c1, .slice A2 nn c2, .slice A3 nu c3, .slice A4 m c4, .slice A5 nl c5] 44)) (w.heap.size + 1) (by simp) #[.int .i64 j.Id, .int .i64 j.Prio, .int .i64 j.Nodes, .int .i64 j.Need.A, .int .i64 j.Need.B, .int .i64 j.Need.C, .int .i64 j.Lic.A, .int .i64 j.Lic.B, .int .i64 j.Lic.C, .int .i64 j.Wall, .int .i64 j.Level] 146 8)
  have jf9 := ((EW).frozenEq (a := ⟨w.heap.size + 1, 9, none⟩) (by simp)).trans (frozen_box_at (w.alloc (.cells #[.slice A1 np c1, .slice A2 nn c2, .slice A3 nu c3, .slice A4 m c4, .slice A5 nl c5] 44)) (w.heap.size + 1) (by simp) #[.int .i64 j.Id, .int .i64 j.Prio, .int .i64 j.Nodes, .int .i64 j.Need.A, .int .i64 j.Need.B, .int .i64 j.Need.C, .int .i64 j.Lic.A, .int .i64 j.Lic.B, .int .i64 j.Lic.C, .int .i64 j.Wall, .int .i64 j.Level] 146 9)
  have jf10 := ((EW).frozenEq (a := ⟨w.heap.size + 1, 10, none⟩) (by simp)).trans (frozen_box_at (w.alloc (.cells #[.slice A1 np c1, .slice A2 nn c2, .slice A3 nu c3, .slice A4 m c4, .slice A5 nl c5] 44)) (w.heap.size + 1) (by simp) #[.int .i64 j.Id, .int .i64 j.Prio, .int .i64 j.Nodes, .int .i64 j.Need.A, .int .i64 j.Need.B, .int .i64 j.Need.C, .int .i64 j.Lic.A, .int .i64 j.Lic.B, .int .i64 j.Lic.C, .int .i64 j.Wall, .int .i64 j.Level] 146 10)
  have hz0 := lt_of_cell j0
  simp only [] at hz0
  have EWW : Ext w w2 := (((Ext.refl w).alloc _).alloc _).trans EW
  clear qf0 qf1 qf2 qf3 qf4 jf0 jf1 jf2 jf3 jf4 jf5 jf6 jf7 jf8 jf9 jf10 hb1 hb2 hcr1 hfr1 hcr2 hfr2 EW
  go_wp2_with fail
  refine (HTM.out trivial _ EWW).mono ?_
  rintro e w4 ⟨A6, n6, c6, xs6, rfl, hs6, hn6, hb6⟩
  have HS6 := Lib.hid (fun (u : World) (e : Ext w4 u) => hs6.ext (Flat.mono encInt In64) e)
  have HI6 := Lib.hid hs6.all
  have EW4 := EWW.trans hb6
  have HQ := Lib.hid (fun (u : World) (e : Ext w4 u) => show (u.cell? ⟨w.heap.size, 0, none⟩ = some (.slice A1 np c1) ∧ u.cell? ⟨w.heap.size, 1, none⟩ = some (.slice A2 nn c2) ∧ u.cell? ⟨w.heap.size, 2, none⟩ = some (.slice A3 nu c3) ∧ u.cell? ⟨w.heap.size, 3, none⟩ = some (.slice A4 m c4) ∧ u.cell? ⟨w.heap.size, 4, none⟩ = some (.slice A5 nl c5)) ∧ u.cell? ⟨w.heap.size + 1, 0, none⟩ = some (.int .i64 j.Id) ∧ u.cell? ⟨w.heap.size + 1, 1, none⟩ = some (.int .i64 j.Prio) ∧ u.cell? ⟨w.heap.size + 1, 2, none⟩ = some (.int .i64 j.Nodes) ∧ u.cell? ⟨w.heap.size + 1, 3, none⟩ = some (.int .i64 j.Need.A) ∧ u.cell? ⟨w.heap.size + 1, 4, none⟩ = some (.int .i64 j.Need.B) ∧ u.cell? ⟨w.heap.size + 1, 5, none⟩ = some (.int .i64 j.Need.C) ∧ u.cell? ⟨w.heap.size + 1, 6, none⟩ = some (.int .i64 j.Lic.A) ∧ u.cell? ⟨w.heap.size + 1, 7, none⟩ = some (.int .i64 j.Lic.B) ∧ u.cell? ⟨w.heap.size + 1, 8, none⟩ = some (.int .i64 j.Lic.C) ∧ u.cell? ⟨w.heap.size + 1, 9, none⟩ = some (.int .i64 j.Wall) ∧ u.cell? ⟨w.heap.size + 1, 10, none⟩ = some (.int .i64 j.Level) from ⟨⟨e.cell (hb6.cell q0), e.cell (hb6.cell q1), e.cell (hb6.cell q2), e.cell (hb6.cell q3), e.cell (hb6.cell q4)⟩, e.cell (hb6.cell j0), e.cell (hb6.cell j1), e.cell (hb6.cell j2), e.cell (hb6.cell j3), e.cell (hb6.cell j4), e.cell (hb6.cell j5), e.cell (hb6.cell j6), e.cell (hb6.cell j7), e.cell (hb6.cell j8), e.cell (hb6.cell j9), e.cell (hb6.cell j10)⟩)
  clear q0 q1 q2 q3 q4 j0 j1 j2 j3 j4 j5 j6 j7 j8 j9 j10 hs6 hb6 EWW HRO HJO HTI HTM
  go_wp2
  go_loopw [30] (fun iv wr => ∃ k : Nat, k ≤ n6 ∧ iv = .int .i64 k ∧ Ext w4 wr) (fun iv _ => n6 - (intOf iv).toNat)
  case atStart => exact ⟨0, Nat.zero_le _, rfl, Ext.refl _⟩
  case round =>
    obtain ⟨k, hk, rfl, hb⟩ := hrel
    by_cases hlt : k < n6
    · obtain ⟨bo, oo, x, cs, hD, hbw, hx, _, hc, rfl, _⟩ := (HS6.out wr hb).at_ hlt
      subst hD
      have g0 := hc 0 _ rfl
      simp only [Nat.mul_one, Nat.add_zero] at g0
      have hxi := HI6.out x (List.mem_of_getElem? hx)
      clear hc hx
      obtain ⟨⟨q0, q1, q2, q3, q4⟩, j0, j1, j2, j3, j4, j5, j6, j7, j8, j9, j10⟩ := HQ.out wr hb
      have hz := lt_of_cell j0
      simp only [] at hz
      go_wp2_with fail
      refine (HCN.out trivial x _ (EW4.trans hb)).mono ?_
      rintro e w5 ⟨ok5, A7, n7, c7, xs7, rfl, hs7, hn7, hc7, hb7⟩
      have HS7 := Lib.hid hs7
      clear hs7 q0 q1 q2 q3 q4 j0 j1 j2 j3 j4 j5 j6 j7 j8 j9 j10
      rcases ok5 with _ | _
      · go_wp2
        go_roundw
        case rel => exact ⟨k + 1, by omega, by go_num, hb.trans hb7⟩
        case measure => simp [intOf]; omega
      · go_wp2
        exact bodyPost_ret (by simp [results, Tryz.results112, go_sem, *]) rfl ⟨true, x, A7, n7, c7, xs7, rfl, hxi, HS7.out, hn7, hc7, (fun _ => rfl), (EW4.trans hb).trans hb7⟩
    · obtain rfl : k = n6 := by omega
      go_wp2
      exact bodyPost_ret (by simp [results, Tryz.results112, go_sem, *]) rfl (retEarl_none (EW4.trans hb))
end Go.Proofs.YtgmlcohffdeplaaGreat
