/- Merged by mergelean.py: Room4, Moved, SRow. -/
import Derived.Test.YtgmlcohffdeplaaGreatRoom3
import Derived.Test.YtgmlcohffdeplaaGreatAsc
import Derived.Deep.RegionHeld3
import Derived.ArgAppend
/-! Room4 -/
namespace Go.Proofs.YtgmlcohffdeplaaGreat
open Go.RowKit
set_option linter.unusedVariables false
theorem SlAt.cutk {α : Type} {R : Rel α} {sz n k : Nat} {w : World} {A : Option Addr} {xs : List α} (h : SlAt R sz w A n xs) (hk : k ≤ n) : SlAt R sz w A k (xs.take k) := by
  refine ⟨by rw [List.length_take, h.1]; omega, fun h0 => ?_⟩
  obtain ⟨b, o, e, hb, hc⟩ := h.2 (by omega)
  refine ⟨b, o, e, hb, fun j x hx => ?_⟩
  rw [List.getElem?_take] at hx
  split at hx
  · exact hc j x hx
  · cases hx
theorem dist_step {xs : List Int} {k : Nat} {x : Int} (hx : xs[k]? = some x) : distGo (xs.take k) (xs.drop k) = (!(xs.take k).contains x && distGo (xs.take (k + 1)) (xs.drop (k + 1))) := by
  rw [drop_cons hx, distGo, take_succ hx]
end Go.Proofs.YtgmlcohffdeplaaGreat
/-! Moved -/
namespace Go.Proofs.YtgmlcohffdeplaaGreat
open Go.RowKit
set_option linter.unusedVariables false
/-- A room or none is handed back, with a word that says which. -/
def RetRoomB (w : World) (ps : List Int) (ns : List Node) (up : List Bool) (R : Option (List (List Pt) × List Pt)) : Ending → World → Prop := fun e w' => ∃ A1 n1 c1 A2 n2 c2 A3 n3 c3 A4 n4 c4 A5 n5 c5, e = .returned (.tuple #[.agg #[.slice A1 n1 c1, .slice A2 n2 c2, .slice A3 n3 c3, .slice A4 n4 c4, .slice A5 n5 c5], .bool R.isSome]) ∧ (∀ r, R = some r → n1 = ps.length ∧ n2 = ns.length ∧ n3 = up.length ∧ n4 = r.1.length ∧ n5 = r.2.length ∧ RoomO w' w.heap.size ps ns up r A1 c1 A2 c2 A3 c3 A4 c4 A5 c5) ∧ Ext w w'
theorem retRoom_none {w w' : World} {ps : List Int} {ns : List Node} {up : List Bool} {R : Option (List (List Pt) × List Pt)} (h : R = none) (hb : Ext w w') : RetRoomB w ps ns up R (.returned (.tuple #[.agg #[.slice none 0 0, .slice none 0 0, .slice none 0 0, .slice none 0 0, .slice none 0 0], .bool false])) w' := by
  subst h
  exact ⟨none, 0, 0, none, 0, 0, none, 0, 0, none, 0, 0, none, 0, 0, rfl, (fun r hr => by cases hr), hb⟩
theorem take_step {fr te : Int} {v : Vec} {nodes : List Int} {k : Nat} {x : Int} {pl : List (List Pt)} (hx : nodes[k]? = some x) : takeAll fr te v (nodes.drop k) pl = (match takeQ (pl.getD x.toNat []) fr te v with
    | none => none
    | some p => takeAll fr te v (nodes.drop (k + 1)) (pl.set x.toNat p)) := by
  rw [drop_cons hx, takeAll]
  cases takeQ (pl.getD x.toNat []) fr te v <;> rfl
theorem nodesIn_at {m : Nat} {l : List Int} (h : nodesIn m l = true) {x : Int} (hx : x ∈ l) : 0 ≤ x ∧ x < m := by
  unfold nodesIn at h
  rw [List.all_eq_true] at h
  have := h x hx
  unfold withinB at this
  simp at this
  omega
/-- What is known of a profile that was handed back. -/
def gTake (lo : Nat) (tq : Option (List Pt)) : GSp := ⟨fun v => ∃ A c n, v = .tuple #[.agg #[.slice A n c], .bool tq.isSome] ∧ ∀ l, tq = some l → n = l.length, fun v w => ∀ A c (l : List Pt), tq = some l → v = .tuple #[.agg #[.slice A l.length c], .bool tq.isSome] → w.ownsRow lo 107 4 (.slice A l.length c) l.length (l.flatMap Pt.enc) ∧ ∀ y ∈ l, y.ok⟩
theorem gTake_ok (lo : Nat) (tq : Option (List Pt)) : (∀ v, FMono ((gTake lo tq).F v)) ∧ ∃ v, (gTake lo tq).V v := by
  refine ⟨fun v w w' hb h A c l h1 e => ⟨owns_ext (h A c l h1 e).1 hb, (h A c l h1 e).2⟩, ?_⟩
  cases tq with
  | none => exact ⟨_, none, 0, 0, rfl, fun l h => by cases h⟩
  | some l => exact ⟨_, none, 0, l.length, rfl, fun l' h => by injection h with h; rw [h]⟩
theorem RoomO.setp {w : World} {lo g i : Nat} {ps : List Int} {ns : List Node} {up : List Bool} {pl : List (List Pt)} {lic : List Pt} {A1 : Option Addr} {c1 : Nat} {A2 : Option Addr} {c2 : Nat} {A3 : Option Addr} {c3 c4 : Nat} {A5 : Option Addr} {c5 : Nat} {p : List Pt} {A' : Option Addr} {c' : Nat} (h : RoomO w lo ps ns up (pl, lic) A1 c1 A2 c2 A3 c3 (some ⟨g, 0, none⟩) c4 A5 c5) (hi : i < pl.length) (ho : w.ownsRow lo 107 4 (.slice A' p.length c') p.length (p.flatMap Pt.enc)) (hy : ∀ y ∈ p, y.ok) :
    RoomO (w.setCell ⟨g, i, none⟩ (.slice A' p.length c')) lo ps ns up (pl.set i p, lic) A1 c1 A2 c2 A3 c3 (some ⟨g, 0, none⟩) c4 A5 c5 := by
  obtain ⟨_, L, hL, _⟩ := h.pro
  have hs := h.pro.set hi ho hy
  exact ⟨g_far h.par (fun e => g_apart h.par hL (by decide) _ e rfl), g_far h.nod (fun e => g_apart h.nod hL (by decide) _ e rfl), g_far h.ups (fun e => g_apart h.ups hL (by decide) _ e rfl), by show PO _ _ _ (pl.set i p).length _ _; rw [List.length_set]; exact hs, g_far h.lic (fun e => g_apart h.lic hL (by decide) _ e rfl), h.ok1, h.ok2, h.ok3⟩
theorem RoomO.box_far {w : World} {lo lo' g b i : Nat} {ps : List Int} {ns : List Node} {up : List Bool} {pl : List (List Pt)} {lic : List Pt} {A1 : Option Addr} {c1 : Nat} {A2 : Option Addr} {c2 : Nat} {A3 : Option Addr} {c3 c4 : Nat} {A5 : Option Addr} {c5 : Nat} {u : Value} {L0 : List Value} (h : RoomO w lo ps ns up (pl, lic) A1 c1 A2 c2 A3 c3 (some ⟨g, 0, none⟩) c4 A5 c5) (hbox : w.ownsRow lo' 44 5 (.slice (some ⟨b, 0, none⟩) 1 1) 1 L0) : (w.setCell ⟨g, i, none⟩ u).ownsRow lo' 44 5 (.slice (some ⟨b, 0, none⟩) 1 1) 1 L0 := by
  obtain ⟨_, L, hL, _⟩ := h.pro
  exact g_far hbox (fun e => g_apart hbox hL (by decide) _ e rfl)
theorem RoomO.lics {w : World} {lo : Nat} {ps : List Int} {ns : List Node} {up : List Bool} {pl : List (List Pt)} {lic l : List Pt} {A1 : Option Addr} {c1 : Nat} {A2 : Option Addr} {c2 : Nat} {A3 : Option Addr} {c3 : Nat} {A4 : Option Addr} {c4 : Nat} {A5 : Option Addr} {c5 : Nat} {A6 : Option Addr} {c6 : Nat} (h : RoomO w lo ps ns up (pl, lic) A1 c1 A2 c2 A3 c3 A4 c4 A5 c5) (ho : w.ownsRow lo 107 4 (.slice A6 l.length c6) l.length (l.flatMap Pt.enc)) (hy : ∀ y ∈ l, y.ok) : RoomO w lo ps ns up (pl, l) A1 c1 A2 c2 A3 c3 A4 c4 A6 c6 :=
  ⟨h.par, h.nod, h.ups, h.pro, ho, h.ok1, h.ok2, hy⟩
theorem Ext.five {w0 w : World} (h : Ext w0 w) {b : Nat} (hb : w0.heap.size ≤ b) (a0 a1 a2 a3 a4 : Value) : Ext w0 (((((w.setCell ⟨b, 0, none⟩ a0).setCell ⟨b, 1, none⟩ a1).setCell ⟨b, 2, none⟩ a2).setCell ⟨b, 3, none⟩ a3).setCell ⟨b, 4, none⟩ a4) :=
  ((((h.setCell hb a0).setCell hb a1).setCell hb a2).setCell hb a3).setCell hb a4
theorem jobB_wall {j : Job} (h : jobB j = true) : 1 ≤ j.Wall ∧ j.Wall ≤ 1000000 := by
  unfold jobB at h
  simp at h
  omega
end Go.Proofs.YtgmlcohffdeplaaGreat
/-! SRow -/
namespace Go.Proofs.YtgmlcohffdeplaaGreat
open Go.RowKit
set_option linter.unusedVariables false
def own0 (w : World) (lo : Nat) (e : TypeId) (sz : Nat) (A : Option Addr) (c n : Nat) (L : List Value) : Prop := n = 0 ∨ w.ownsRow lo e sz (.slice A n c) n L
section
variable {w w' : World} {lo lo' g p : Nat} {e e' : TypeId} {sz sz' : Nat} {A : Option Addr} {c n : Nat} {L : List Value} {u : Value}
theorem own0.ext (h : own0 w lo e sz A c n L) (hb : Ext w w') : own0 w' lo e sz A c n L := h.imp id (fun h => owns_ext h hb)
theorem own0.base (h : own0 w lo e sz A c n L) (hb : lo' ≤ lo) : own0 w lo' e sz A c n L := h.imp id (fun h => owns_base h hb)
theorem own0.low (h : own0 w lo e sz A c n L) (hb : g < lo) : own0 (w.setCell ⟨g, p, none⟩ u) lo e sz A c n L := h.imp id (fun h => own_set h hb)
theorem own0.far {L0 : List Value} {m d : Nat} (h : own0 w lo e sz A c n L) (hbox : w.ownsRow lo' e' sz' (.slice (some ⟨g, 0, none⟩) m d) m L0) (hne : e ≠ e') : own0 (w.setCell ⟨g, p, none⟩ u) lo e sz A c n L := h.imp id (fun h => g_far h (fun q => g_apart h hbox hne _ q rfl))
theorem own0.other {v : Value} {m k c' : Nat} {A' : Option Addr} {L0 L' : List Value} (h : own0 w lo e sz A c n L) (hr : AppR w w' lo' e' sz' v A' k c' L') (h2 : w.ownsRow lo' e' sz' v m L0) (hne : e ≠ e') : own0 w' lo e sz A c n L := h.imp id (fun h => hr.other h (g_apart h h2 hne))
end
theorem own0.sl {α : Type} {enc : α → List Value} {ok : α → Prop} {sz : Nat} {w : World} {base : Nat} {e : TypeId} {A : Option Addr} {c : Nat} {xs : List α} (h : own0 w base e sz A c xs.length (xs.flatMap enc)) (hsz : ∀ x, (enc x).length = sz) (hok : ∀ x ∈ xs, ok x) : SlAt (Flat enc ok) sz w A xs.length xs := by
  rcases h with h | h
  · exact ⟨rfl, fun h0 => absurd h (by omega)⟩
  · exact owns_sl hsz h hok
/-- A room in memory of the call's own (rows of length nought are anywhere). -/
structure RoomS (w : World) (lo : Nat) (ps : List Int) (ns : List Node) (up : List Bool) (r : List (List Pt) × List Pt) (A1 : Option Addr) (c1 : Nat) (A2 : Option Addr) (c2 : Nat) (A3 : Option Addr) (c3 : Nat) (A4 : Option Addr) (c4 : Nat) (A5 : Option Addr) (c5 : Nat) : Prop where
  par : own0 w lo 3 1 A1 c1 ps.length (ps.flatMap encInt)
  nod : own0 w lo 130 4 A2 c2 ns.length (ns.flatMap Node.enc)
  ups : own0 w lo 4 1 A3 c3 up.length (up.flatMap encB)
  pro : PO w lo A4 r.1.length c4 r.1
  lic : w.ownsRow lo 107 4 (.slice A5 r.2.length c5) r.2.length (r.2.flatMap Pt.enc)
  ok1 : ∀ x ∈ ps, In64 x
  ok2 : ∀ x ∈ ns, x.ok
  ok3 : ∀ x ∈ r.2, x.ok
section
variable {w w' : World} {lo lo' b g p : Nat} {u : Value} {ps : List Int} {ns : List Node} {up : List Bool} {r : List (List Pt) × List Pt} {pl : List (List Pt)} {lic : List Pt} {A1 : Option Addr} {c1 : Nat} {A2 : Option Addr} {c2 : Nat} {A3 : Option Addr} {c3 : Nat} {A4 : Option Addr} {c4 : Nat} {A5 : Option Addr} {c5 : Nat}
theorem RoomS.ext (h : RoomS w lo ps ns up r A1 c1 A2 c2 A3 c3 A4 c4 A5 c5) (hb : Ext w w') : RoomS w' lo ps ns up r A1 c1 A2 c2 A3 c3 A4 c4 A5 c5 :=
  ⟨h.par.ext hb, h.nod.ext hb, h.ups.ext hb, h.pro.ext hb, owns_ext h.lic hb, h.ok1, h.ok2, h.ok3⟩
theorem RoomS.base (h : RoomS w lo ps ns up r A1 c1 A2 c2 A3 c3 A4 c4 A5 c5) (hb : lo' ≤ lo) : RoomS w lo' ps ns up r A1 c1 A2 c2 A3 c3 A4 c4 A5 c5 :=
  ⟨h.par.base hb, h.nod.base hb, h.ups.base hb, h.pro.base hb, owns_base h.lic hb, h.ok1, h.ok2, h.ok3⟩
theorem RoomS.low (h : RoomS w lo ps ns up r A1 c1 A2 c2 A3 c3 A4 c4 A5 c5) (hb : b < lo) : RoomS (w.setCell ⟨b, p, none⟩ u) lo ps ns up r A1 c1 A2 c2 A3 c3 A4 c4 A5 c5 :=
  ⟨h.par.low hb, h.nod.low hb, h.ups.low hb, h.pro.low hb, own_set h.lic hb, h.ok1, h.ok2, h.ok3⟩
theorem RoomS.at_ (h : RoomS w lo ps ns up r A1 c1 A2 c2 A3 c3 A4 c4 A5 c5) : RoomAt w ps ns up r (.agg #[.slice A1 ps.length c1, .slice A2 ns.length c2, .slice A3 up.length c3, .slice A4 r.1.length c4, .slice A5 r.2.length c5]) :=
  ⟨A1, c1, A2, c2, A3, c3, A4, c4, A5, c5, rfl, h.par.sl (fun _ => rfl) h.ok1, h.nod.sl Node.size h.ok2, own0.sl (enc := encB) (ok := fun _ => True) h.ups (fun _ => rfl) (fun _ _ => trivial), h.pro.sl, owns_sl Pt.size h.lic h.ok3⟩
theorem RoomS.far {L0 : List Value} (h : RoomS w lo ps ns up r A1 c1 A2 c2 A3 c3 A4 c4 A5 c5) (hbox : w.ownsRow lo' 44 5 (.slice (some ⟨g, 0, none⟩) 1 1) 1 L0) : RoomS (w.setCell ⟨g, p, none⟩ u) lo ps ns up r A1 c1 A2 c2 A3 c3 A4 c4 A5 c5 :=
  ⟨h.par.far hbox (by decide), h.nod.far hbox (by decide), h.ups.far hbox (by decide), h.pro.far hbox (by decide) (by decide), g_far h.lic (fun e => g_apart h.lic hbox (by decide) _ e rfl), h.ok1, h.ok2, h.ok3⟩
theorem RoomS.push {A' : Option Addr} {c' m : Nat} {q : List Pt} {B1 : Option Addr} {d1 : Nat} {L L' : List Value} (h : RoomS w lo ps ns up (pl, lic) A1 c1 A2 c2 A3 c3 A4 c4 A5 c5) (hm : pl.length = m) (h2 : w.ownsRow lo 42 1 (.slice A4 m c4) m L) (h3 : ∀ (k : Nat) (p : List Pt), pl[k]? = some p → ∃ A' c', L[k]? = some (.slice A' p.length c') ∧ w.ownsRow lo 107 4 (.slice A' p.length c') p.length (p.flatMap Pt.enc) ∧ ∀ y ∈ p, y.ok)
    (hr : AppR w w' lo 42 1 (.slice A4 m c4) A' (m + 1) c' L') (e : L' = L ++ [.slice B1 q.length d1]) (ho : w.ownsRow lo 107 4 (.slice B1 q.length d1) q.length (q.flatMap Pt.enc)) (hy : ∀ y ∈ q, y.ok) : RoomS w' lo ps ns up (pl ++ [q], lic) A1 c1 A2 c2 A3 c3 A' c' A5 c5 :=
  ⟨h.par.other hr h2 (by decide), h.nod.other hr h2 (by decide), h.ups.other hr h2 (by decide), by have := PO.grow hm h2 h3 hr e ho hy; show PO w' lo A' (pl ++ [q]).length c' (pl ++ [q]); rw [List.length_append, hm]; exact this, hr.other h.lic (g_apart h.lic h2 (by decide)), h.ok1, h.ok2, h.ok3⟩
theorem RoomS.setp {i : Nat} {q : List Pt} {A' : Option Addr} {c' : Nat} (h : RoomS w lo ps ns up (pl, lic) A1 c1 A2 c2 A3 c3 (some ⟨g, 0, none⟩) c4 A5 c5) (hi : i < pl.length) (ho : w.ownsRow lo 107 4 (.slice A' q.length c') q.length (q.flatMap Pt.enc)) (hy : ∀ y ∈ q, y.ok) :
    RoomS (w.setCell ⟨g, i, none⟩ (.slice A' q.length c')) lo ps ns up (pl.set i q, lic) A1 c1 A2 c2 A3 c3 (some ⟨g, 0, none⟩) c4 A5 c5 := by
  obtain ⟨_, L, hL, _⟩ := h.pro
  have hs := h.pro.set hi ho hy
  exact ⟨h.par.far hL (by decide), h.nod.far hL (by decide), h.ups.far hL (by decide), by show PO _ _ _ (pl.set i q).length _ _; rw [List.length_set]; exact hs, g_far h.lic (fun e => g_apart h.lic hL (by decide) _ e rfl), h.ok1, h.ok2, h.ok3⟩
theorem RoomS.box_far {i : Nat} {L0 : List Value} (h : RoomS w lo ps ns up (pl, lic) A1 c1 A2 c2 A3 c3 (some ⟨g, 0, none⟩) c4 A5 c5) (hbox : w.ownsRow lo' 44 5 (.slice (some ⟨b, 0, none⟩) 1 1) 1 L0) : (w.setCell ⟨g, i, none⟩ u).ownsRow lo' 44 5 (.slice (some ⟨b, 0, none⟩) 1 1) 1 L0 := by
  obtain ⟨_, L, hL, _⟩ := h.pro
  exact g_far hbox (fun e => g_apart hbox hL (by decide) _ e rfl)
theorem RoomS.lics {l : List Pt} {A6 : Option Addr} {c6 : Nat} (h : RoomS w lo ps ns up (pl, lic) A1 c1 A2 c2 A3 c3 A4 c4 A5 c5) (ho : w.ownsRow lo 107 4 (.slice A6 l.length c6) l.length (l.flatMap Pt.enc)) (hy : ∀ y ∈ l, y.ok) : RoomS w lo ps ns up (pl, l) A1 c1 A2 c2 A3 c3 A4 c4 A6 c6 :=
  ⟨h.par, h.nod, h.ups, h.pro, ho, h.ok1, h.ok2, hy⟩
end
theorem flat_len {α : Type} {enc : α → List Value} {size : Nat} (hl : ∀ y, (enc y).length = size) (ys : List α) : (ys.flatMap enc).length = ys.length * size := by
  induction ys with
  | nil => simp
  | cons y ys ih => rw [List.flatMap_cons, List.length_append, hl, ih, List.length_cons, Nat.add_mul]; omega
theorem run_append0 {P : Program} {u : World} {α : Type} {enc : α → List Value} {ok : α → Prop} (t ty : TypeId)
    (e : TypeId) (i : TypeInfo) (z : Value) (size bytes : Nat) (ht : P.underlying t = some (.slice e)) (hi : P.info? e = some i) (hz : i.zero = some z)
    (hsize : i.size = size) (hby : i.bytes = bytes) (hzs : z.cells.size = size) (hsz : 0 < size)
    (b : Nat) (A : Option Addr) (m c : Nat) (ys : List α) (hys : SlAt (Flat enc ok) size u A m ys) (hl : ∀ y, (enc y).length = size)
    (h63 : m ≤ maxLen) (hbytes : m * bytes ≤ 140737488355328) :
    ∃ A' c' w', (Builtin.append_ #[t, t] ty #[.slice (some ⟨b, 0, none⟩) 0 0, .slice A m c]).run P u = .ok (.slice A' m c') w' ∧ Ext u w' ∧ own0 w' u.heap.size e size A' c' m (ys.flatMap enc) := by
  rcases Nat.eq_zero_or_pos m with h0 | h0
  · subst h0
    refine ⟨some ⟨b, 0, none⟩, 0, u, ?_, Ext.refl _, .inl rfl⟩
    cases A with
    | none => simp [Builtin.append_, run_underlying ht, sizeOf, typeInfo, hi, Builtin.lenOf, run_firstCells_none, storeCells]
    | some a =>
      have hf := run_firstCells_some (P := P) u i.size 0 a 0 c [] (by simp) (by simp)
      simp [Builtin.append_, run_underlying ht, sizeOf, typeInfo, hi, Builtin.lenOf, hf, storeCells]
  · obtain ⟨bb, off, rfl, _⟩ := hys.2 h0
    have hlen : (ys.flatMap enc).length = m * size := by
      rw [← hys.1]; exact flat_len hl ys
    have hcells : ∀ j v, (ys.flatMap enc)[j]? = some v → u.cell? ((⟨bb, off, none⟩ : Addr).add j) = some v := by
      intro j v hv
      obtain ⟨b2, off2, e1, hb2, hc⟩ := hys.flatCells hl h0
      injection e1 with e1
      injection e1 with e1 e2 _
      subst e1; subst e2
      have := hc j v hv
      unfold Addr.add; split
      · rename_i hj; subst hj; exact this
      · exact this
    obtain ⟨v', w', hr, h2, hg⟩ := run_append_arg_grows (P := P) u t ty e i z size bytes ht hi hz hsize hby hzs hsz ⟨b, 0, none⟩ 0 0 [] (by simp) (by simp) ⟨bb, off, none⟩ m c (ys.flatMap enc) hlen hcells (by omega) (by omega) (by rw [Nat.zero_add]; exact hbytes)
    rw [Nat.zero_add, List.nil_append] at h2
    obtain ⟨A', c', rfl⟩ : ∃ A' c', v' = .slice A' m c' := by
      rcases h2.2 with ⟨rfl, h0⟩ | ⟨g, cap, cur, rfl, _⟩
      · exact ⟨none, 0, by rw [h0]⟩
      · exact ⟨_, _, rfl⟩
    exact ⟨A', c', w', hr, ext_turned (Ext.refl u) (⟨hg.os, hg.tape, hg.output, hg.size, fun q hq _ => hg.block q hq (fun e => by cases e)⟩ : Turned u.heap.size w'.heap.size u w') (Nat.le_refl _), .inr h2⟩
theorem grow_append0 {P : Program} {u : World} {V : Value → Prop} {F : Value → World → Prop} {α : Type} {enc : α → List Value} {ok : α → Prop} {o : Oper} {a : Act} (s x : Operand) (t : TypeId)
    (ho : o.op = .call { callee := .builtin .append, args := #[s, x], argTypes := #[t, t] })
    (e : TypeId) (i : TypeInfo) (z : Value) (size bytes : Nat) (ht : P.underlying t = some (.slice e)) (hi : P.info? e = some i) (hz : i.zero = some z)
    (hsize : i.size = size) (hby : i.bytes = bytes) (hzs : z.cells.size = size) (hsz : 0 < size)
    (b : Nat) (A : Option Addr) (m c : Nat) (ys : List α) (hs : a.eval s = .slice (some ⟨b, 0, none⟩) 0 0) (hx : a.eval x = .slice A m c)
    (hys : SlAt (Flat enc ok) size u A m ys) (hl : ∀ y, (enc y).length = size) (h63 : m ≤ maxLen) (hbytes : m * bytes ≤ 140737488355328)
    (h : ∀ A' c' w', Ext u w' → own0 w' u.heap.size e size A' c' m (ys.flatMap enc) → V (.slice A' m c') ∧ F (.slice A' m c') w') :
    growUpon P u V F ((execOp a.eval o).run P u) := by
  obtain ⟨A', c', w', hr, h1, h2⟩ := run_append0 (P := P) t o.type e i z size bytes ht hi hz hsize hby hzs hsz b A m c ys hys hl h63 hbytes
  unfold execOp
  simp only [ho, resolve, invoke, builtin, Sem.run_bind, Sem.run_pure, Result.andThen_ok, List.map_toArray, List.map_cons, List.map_nil, hs, hx, hr]
  exact ⟨h1, h A' c' w' h1 h2⟩
/-- An empty slice that is not nil. -/
def gLit : GSp := ⟨fun v => ∃ b, v = .slice (some ⟨b, 0, none⟩) 0 0, fun v w => True⟩
def gRow0 (lo : Nat) (e : TypeId) (sz n : Nat) (L : List Value) : GSp := ⟨fun v => ∃ A c, v = .slice A n c, fun v w => ∀ A c, v = .slice A n c → own0 w lo e sz A c n L⟩
theorem gLit_ok : (∀ v, FMono (gLit.F v)) ∧ ∃ v, gLit.V v := ⟨fun v w w' hb h => trivial, _, 0, rfl⟩
theorem gRow0_ok (lo : Nat) (e : TypeId) (sz n : Nat) (L : List Value) : (∀ v, FMono ((gRow0 lo e sz n L).F v)) ∧ ∃ v, (gRow0 lo e sz n L).V v := ⟨fun v w w' hb h A c e => (h A c e).ext hb, _, none, 0, rfl⟩
end Go.Proofs.YtgmlcohffdeplaaGreat
