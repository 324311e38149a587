/- Contracts: a room asked and copied, the given way. -/
import Derived.Test.YtgmlcohffdeplaaGreatRoom1
import Derived.Deep.CutRange
namespace Go.Proofs.YtgmlcohffdeplaaGreat
open Go.RowKit
set_option linter.unusedVariables false
section
variable {w w' : World} {lo lo' g p : Nat} {u : Value} {ps : List Int} {ns : List Node} {up : List Bool} {pl : List (List Pt)} {lic : List Pt} {A1 : Option Addr} {c1 : Nat} {A2 : Option Addr} {c2 : Nat} {A3 : Option Addr} {c3 : Nat} {A4 : Option Addr} {c4 : Nat} {A5 : Option Addr} {c5 : Nat}
theorem PO.far {A : Option Addr} {n c : Nat} {qs : List (List Pt)} {e : TypeId} {sz : Nat} {L0 : List Value} (h : PO w lo A n c qs) (hbox : w.ownsRow lo' e sz (.slice (some ⟨g, 0, none⟩) 1 1) 1 L0) (h1 : 42 ≠ e) (h2 : 107 ≠ e) : PO (w.setCell ⟨g, p, none⟩ u) lo A n c qs := by
  obtain ⟨hl, L, ho, hi⟩ := h
  refine ⟨hl, L, g_far ho (fun e => g_apart ho hbox h1 _ e rfl), fun k q hk => ?_⟩
  obtain ⟨A', c', e', ho', hy⟩ := hi k q hk
  exact ⟨A', c', e', g_far ho' (fun e => g_apart ho' hbox h2 _ e rfl), hy⟩
/-- A store into a box of a type of its own. -/
theorem RoomO.far {r : List (List Pt) × List Pt} {L0 : List Value} (h : RoomO w lo ps ns up r A1 c1 A2 c2 A3 c3 A4 c4 A5 c5) (hbox : w.ownsRow lo' 44 5 (.slice (some ⟨g, 0, none⟩) 1 1) 1 L0) : RoomO (w.setCell ⟨g, p, none⟩ u) lo ps ns up r A1 c1 A2 c2 A3 c3 A4 c4 A5 c5 :=
  ⟨g_far h.par (fun e => g_apart h.par hbox (by decide) _ e rfl), g_far h.nod (fun e => g_apart h.nod hbox (by decide) _ e rfl), g_far h.ups (fun e => g_apart h.ups hbox (by decide) _ e rfl), h.pro.far hbox (by decide) (by decide), g_far h.lic (fun e => g_apart h.lic hbox (by decide) _ e rfl), h.ok1, h.ok2, h.ok3⟩
/-- One profile more. -/
theorem RoomO.push {A' : Option Addr} {c' m : Nat} {q : List Pt} {B1 : Option Addr} {d1 : Nat} {L L' : List Value} (h : RoomO w lo ps ns up (pl, lic) A1 c1 A2 c2 A3 c3 A4 c4 A5 c5) (hm : pl.length = m) (h2 : w.ownsRow lo 42 1 (.slice A4 m c4) m L) (h3 : ∀ (k : Nat) (p : List Pt), pl[k]? = some p → ∃ A' c', L[k]? = some (.slice A' p.length c') ∧ w.ownsRow lo 107 4 (.slice A' p.length c') p.length (p.flatMap Pt.enc) ∧ ∀ y ∈ p, y.ok)
    (hr : AppR w w' lo 42 1 (.slice A4 m c4) A' (m + 1) c' L') (e : L' = L ++ [.slice B1 q.length d1]) (ho : w.ownsRow lo 107 4 (.slice B1 q.length d1) q.length (q.flatMap Pt.enc)) (hy : ∀ y ∈ q, y.ok) : RoomO w' lo ps ns up (pl ++ [q], lic) A1 c1 A2 c2 A3 c3 A' c' A5 c5 :=
  ⟨hr.other h.par (g_apart h.par h2 (by decide)), hr.other h.nod (g_apart h.nod h2 (by decide)), hr.other h.ups (g_apart h.ups h2 (by decide)), by have := PO.grow hm h2 h3 hr e ho hy; show PO w' lo A' (pl ++ [q]).length c' (pl ++ [q]); rw [List.length_append, hm]; exact this, hr.other h.lic (g_apart h.lic h2 (by decide)), h.ok1, h.ok2, h.ok3⟩
end
theorem gcells5 {w : World} {base b : Nat} {e : TypeId} {u0 u1 u2 u3 u4 : Value} (h : w.ownsRow base e 5 (.slice (some ⟨b, 0, none⟩) 1 1) 1 [u0, u1, u2, u3, u4]) : w.cell? ⟨b, 0, none⟩ = some u0 ∧ w.cell? ⟨b, 1, none⟩ = some u1 ∧ w.cell? ⟨b, 2, none⟩ = some u2 ∧ w.cell? ⟨b, 3, none⟩ = some u3 ∧ w.cell? ⟨b, 4, none⟩ = some u4 ∧ w.frozen? ⟨b, 0, none⟩ = false ∧ w.frozen? ⟨b, 1, none⟩ = false ∧ w.frozen? ⟨b, 2, none⟩ = false ∧ w.frozen? ⟨b, 3, none⟩ = false ∧ w.frozen? ⟨b, 4, none⟩ = false ∧ b < w.heap.size :=
  ⟨gcell h 0 _ rfl, gcell h 1 _ rfl, gcell h 2 _ rfl, gcell h 3 _ rfl, gcell h 4 _ rfl, h.frozenAt 0, h.frozenAt 1, h.frozenAt 2, h.frozenAt 3, h.frozenAt 4, (h.lt b rfl).2⟩
theorem room_fill {w : World} {lo lo' g : Nat} {ps : List Int} {ns : List Node} {up : List Bool} {r : List (List Pt) × List Pt} {A1 : Option Addr} {c1 : Nat} {A2 : Option Addr} {c2 : Nat} {A3 : Option Addr} {c3 : Nat} {A4 : Option Addr} {c4 : Nat} {A5 : Option Addr} {c5 : Nat} {u0 u1 u2 u3 u4 : Value} (h : RoomO w lo ps ns up r A1 c1 A2 c2 A3 c3 A4 c4 A5 c5) (hbox : w.ownsRow lo' 44 5 (.slice (some ⟨g, 0, none⟩) 1 1) 1 [u0, u1, u2, u3, u4]) (a0 a1 a2 a3 a4 : Value) :
    RoomO (((((w.setCell ⟨g, 0, none⟩ a0).setCell ⟨g, 1, none⟩ a1).setCell ⟨g, 2, none⟩ a2).setCell ⟨g, 3, none⟩ a3).setCell ⟨g, 4, none⟩ a4) lo ps ns up r A1 c1 A2 c2 A3 c3 A4 c4 A5 c5 ∧ (((((w.setCell ⟨g, 0, none⟩ a0).setCell ⟨g, 1, none⟩ a1).setCell ⟨g, 2, none⟩ a2).setCell ⟨g, 3, none⟩ a3).setCell ⟨g, 4, none⟩ a4).ownsRow lo' 44 5 (.slice (some ⟨g, 0, none⟩) 1 1) 1 [a0, a1, a2, a3, a4] := by
  have b1 := (hbox.stored 0 a0).1
  have b2 := (b1.stored 1 a1).1
  have b3 := (b2.stored 2 a2).1
  have b4 := (b3.stored 3 a3).1
  have b5 := (b4.stored 4 a4).1
  exact ⟨((((h.far hbox).far b1).far b2).far b3).far b4, b5⟩
set_option maxHeartbeats 8000000 in
set_option maxRecDepth 8000 in
theorem RoomOk_c (ps : List Int) (ns : List Node) (up : List Bool) (r : List (List Pt) × List Pt) (v : Value) (w : World) (h : RoomAt w ps ns up r v) (ht : topoB ps ns = true) (hu : up.length = ns.length) (hr : roomOkM ns.length r) : Calls Tryz.prog 19 #[v] w (Ret w (.bool true)) := by
  obtain ⟨A1, c1, A2, c2, A3, c3, A4, c4, A5, c5, rfl, h1, h2, h3, h4, h5⟩ := h
  obtain ⟨hr1, hr2, hr3⟩ := hr
  obtain ⟨⟨_, hp1⟩, hn1, _⟩ := topo_parts ht
  have hl5 := (profB_parts hr3).2.1
  have HT := Lib.hid (fun (u : World) (e : Ext w u) => TopoOk_c ps ns A1 ps.length c1 A2 ns.length c2 u (h1.ext (Flat.mono _ _) e) (by unfold maxLen; omega) (h2.ext (Flat.mono _ _) e) (by unfold maxLen; omega))
  rw [ht] at HT
  have HL := Lib.hid (fun (u : World) (e : Ext w u) => ProfOk_c r.2 A5 r.2.length c5 u (h5.ext (Flat.mono _ _) e) (by unfold maxLen; omega))
  rw [hr3] at HL
  have HP := Lib.hid (fun (p : List Pt) (hp : p ∈ r.1) (A : Option Addr) (c : Nat) (u : World) (hs : SlAt RPt 4 u A p.length p) => show Calls Tryz.prog 55 #[.agg #[.slice A p.length c]] u (Ret u (.bool true)) from by
    have := ProfOk_c p A p.length c u hs (by have := (profB_parts (hr2 p hp)).2.1; unfold maxLen; omega)
    rw [hr2 p hp] at this; exact this)
  have H4 := Lib.hid (fun (u : World) (e : Ext w u) => h4.ext RPf.mono e)
  clear h1 h2 h3 h4 h5 ht hr2 hr3
  rw [hr1] at H4
  rw [hu, hr1]
  clear hu hr1
  generalize ns.length = m at *
  generalize ps.length = n at *
  generalize r.2.length = q at *
  go_enter Tryz.func19, Tryz.ntmps19
  go_wp2_with fail
  refine (HT.out _ (by repeat (first | exact Ext.refl _ | assumption | apply Ext.alloc | apply Ext.drewN | apply Ext.drew | (refine Ext.setCell ?_ (by first | (simp; done) | (simp; omega) | omega) _) | (refine Ext.trans ?_ (by assumption))))).mono ?_
  rintro e w1 ⟨rfl, hb1⟩
  obtain ⟨hcr1, hfr1, hz1⟩ := hb1.rules
  (try simp at hz1)
  have hy1_w0 : w.heap.size < w1.heap.size := (by omega)
  have b0 := (hb1).cell (cell_box_at w (w.heap.size) (by simp) [.slice A1 n c1, .slice A2 m c2, .slice A3 m c3, .slice A4 m c4, .slice A5 q c5] 44 0 _ rfl)
  have b1 := (hb1).cell (cell_box_at w (w.heap.size) (by simp) [.slice A1 n c1, .slice A2 m c2, .slice A3 m c3, .slice A4 m c4, .slice A5 q c5] 44 1 _ rfl)
  have b2 := (hb1).cell (cell_box_at w (w.heap.size) (by simp) [.slice A1 n c1, .slice A2 m c2, .slice A3 m c3, .slice A4 m c4, .slice A5 q c5] 44 2 _ rfl)
  have b3 := (hb1).cell (cell_box_at w (w.heap.size) (by simp) [.slice A1 n c1, .slice A2 m c2, .slice A3 m c3, .slice A4 m c4, .slice A5 q c5] 44 3 _ rfl)
  have b4 := (hb1).cell (cell_box_at w (w.heap.size) (by simp) [.slice A1 n c1, .slice A2 m c2, .slice A3 m c3, .slice A4 m c4, .slice A5 q c5] 44 4 _ rfl)
  have bf0 := ((hb1).frozenEq (a := ⟨w.heap.size, 0, none⟩) (by simp)).trans (frozen_box_at w (w.heap.size) (by simp) #[.slice A1 n c1, .slice A2 m c2, .slice A3 m c3, .slice A4 m c4, .slice A5 q c5] 44 0)
  have bf1 := ((hb1).frozenEq (a := ⟨w.heap.size, 1, none⟩) (by simp)).trans (frozen_box_at w (w.heap.size) (by simp) #[.slice A1 n c1, .slice A2 m c2, .slice A3 m c3, .slice A4 m c4, .slice A5 q c5] 44 1)
  have bf2 := ((hb1).frozenEq (a := ⟨w.heap.size, 2, none⟩) (by simp)).trans (frozen_box_at w (w.heap.size) (by simp) #[.slice A1 n c1, .slice A2 m c2, .slice A3 m c3, .slice A4 m c4, .slice A5 q c5] 44 2)
  have bf3 := ((hb1).frozenEq (a := ⟨w.heap.size, 3, none⟩) (by simp)).trans (frozen_box_at w (w.heap.size) (by simp) #[.slice A1 n c1, .slice A2 m c2, .slice A3 m c3, .slice A4 m c4, .slice A5 q c5] 44 3)
  have bf4 := ((hb1).frozenEq (a := ⟨w.heap.size, 4, none⟩) (by simp)).trans (frozen_box_at w (w.heap.size) (by simp) #[.slice A1 n c1, .slice A2 m c2, .slice A3 m c3, .slice A4 m c4, .slice A5 q c5] 44 4)
  go_wp2
  go_loopw [32] (fun i wr => ∃ k : Nat, k ≤ m ∧ i = .int .i64 k ∧ Ext (w.alloc (.cells #[.slice A1 n c1, .slice A2 m c2, .slice A3 m c3, .slice A4 m c4, .slice A5 q c5] 44)) wr) (fun i _ => m - (intOf i).toNat)
  case atStart => exact ⟨0, Nat.zero_le _, rfl, hb1⟩
  case round =>
    obtain ⟨k, hk, rfl, hb⟩ := hrel
    clear b0 b1 b2 b3 b4 bf0 bf1 bf2 bf3 bf4 hcr1 hfr1
    by_cases hlt : k < m
    · obtain ⟨b, o, x, cs, rfl, hbw, hx, _, hc, A', c', rfl, hs⟩ := (H4.out wr (((Ext.refl w).alloc _).trans hb)).at_ hlt
      have g0 := hc 0 _ rfl
      simp only [Nat.mul_one, Nat.add_zero] at g0
      have HX := Lib.hid (List.mem_of_getElem? hx)
      have HS := Lib.hid (fun (u : World) (e : Ext wr u) => HP.out x HX.out A' c' u (hs.ext (Flat.mono _ _) e))
      clear hx hc hs
      generalize x.length = xl at *
      go_wp2_with fail
      refine (HS.out _ ((Ext.refl _).alloc _)).mono ?_
      rintro e w4 ⟨rfl, hb4⟩
      go_wp2
      go_roundw
      case rel => exact ⟨k + 1, by omega, by go_num, hb.trans (((Ext.refl _).alloc _).trans hb4)⟩
      case measure => simp [intOf]; omega
    · obtain rfl : k = m := by omega
      have b0 := (hb).cell (cell_box_at w (w.heap.size) (by simp) [.slice A1 n c1, .slice A2 k c2, .slice A3 k c3, .slice A4 k c4, .slice A5 q c5] 44 0 _ rfl)
      have b1 := (hb).cell (cell_box_at w (w.heap.size) (by simp) [.slice A1 n c1, .slice A2 k c2, .slice A3 k c3, .slice A4 k c4, .slice A5 q c5] 44 1 _ rfl)
      have b2 := (hb).cell (cell_box_at w (w.heap.size) (by simp) [.slice A1 n c1, .slice A2 k c2, .slice A3 k c3, .slice A4 k c4, .slice A5 q c5] 44 2 _ rfl)
      have b3 := (hb).cell (cell_box_at w (w.heap.size) (by simp) [.slice A1 n c1, .slice A2 k c2, .slice A3 k c3, .slice A4 k c4, .slice A5 q c5] 44 3 _ rfl)
      have b4 := (hb).cell (cell_box_at w (w.heap.size) (by simp) [.slice A1 n c1, .slice A2 k c2, .slice A3 k c3, .slice A4 k c4, .slice A5 q c5] 44 4 _ rfl)
      have bf0 := ((hb).frozenEq (a := ⟨w.heap.size, 0, none⟩) (by simp)).trans (frozen_box_at w (w.heap.size) (by simp) #[.slice A1 n c1, .slice A2 k c2, .slice A3 k c3, .slice A4 k c4, .slice A5 q c5] 44 0)
      have bf1 := ((hb).frozenEq (a := ⟨w.heap.size, 1, none⟩) (by simp)).trans (frozen_box_at w (w.heap.size) (by simp) #[.slice A1 n c1, .slice A2 k c2, .slice A3 k c3, .slice A4 k c4, .slice A5 q c5] 44 1)
      have bf2 := ((hb).frozenEq (a := ⟨w.heap.size, 2, none⟩) (by simp)).trans (frozen_box_at w (w.heap.size) (by simp) #[.slice A1 n c1, .slice A2 k c2, .slice A3 k c3, .slice A4 k c4, .slice A5 q c5] 44 2)
      have bf3 := ((hb).frozenEq (a := ⟨w.heap.size, 3, none⟩) (by simp)).trans (frozen_box_at w (w.heap.size) (by simp) #[.slice A1 n c1, .slice A2 k c2, .slice A3 k c3, .slice A4 k c4, .slice A5 q c5] 44 3)
      have bf4 := ((hb).frozenEq (a := ⟨w.heap.size, 4, none⟩) (by simp)).trans (frozen_box_at w (w.heap.size) (by simp) #[.slice A1 n c1, .slice A2 k c2, .slice A3 k c3, .slice A4 k c4, .slice A5 q c5] 44 4)
      have hb0 := lt_of_cell b0
      go_wp2_with fail
      refine (HL.out _ (((Ext.refl w).alloc _).trans hb)).mono ?_
      rintro e w4 ⟨rfl, hb4⟩
      go_wp2
      exact ret_bool rfl rfl rfl rfl ((((Ext.refl w).alloc _).trans hb).trans hb4)
end Go.Proofs.YtgmlcohffdeplaaGreat
