/- A row of profiles, each in a row of its own; a room: how they are read, kept, set, grown. Plain. -/
import Derived.Test.YtgmlcohffdeplaaGreatChg
import Derived.Test.YtgmlcohffdeplaaGreatGrowA
namespace Go.Proofs.YtgmlcohffdeplaaGreat
open Go.RowKit
set_option linter.unusedVariables false
/-- A profile in a row of profiles. -/
def RPf : Rel (List Pt) := fun w cs p => ∃ A c, cs = [.slice A p.length c] ∧ SlAt RPt 4 w A p.length p
theorem RPf.mono : RPf.Mono := fun w w' cs x hb ⟨A, c, e, h⟩ => ⟨A, c, e, h.ext (Flat.mono Pt.enc Pt.ok) hb⟩
theorem owns_sl {α : Type} {enc : α → List Value} {ok : α → Prop} {sz : Nat} {w : World} {base : Nat} {e : TypeId} {A : Option Addr} {c : Nat} {xs : List α} (hsz : ∀ x, (enc x).length = sz) (h : w.ownsRow base e sz (.slice A xs.length c) xs.length (xs.flatMap enc)) (hok : ∀ x ∈ xs, ok x) : SlAt (Flat enc ok) sz w A xs.length xs := (OwnAt.flat hsz hok h).slAt
/-- A row of the call's own, of profiles that each lie in a row of the call's own. -/
def PO (w : World) (lo : Nat) (A : Option Addr) (n c : Nat) (ps : List (List Pt)) : Prop :=
  ps.length = n ∧ ∃ L : List Value, w.ownsRow lo 42 1 (.slice A n c) n L ∧ ∀ (k : Nat) (p : List Pt), ps[k]? = some p → ∃ A' c', L[k]? = some (.slice A' p.length c') ∧ w.ownsRow lo 107 4 (.slice A' p.length c') p.length (p.flatMap Pt.enc) ∧ ∀ y ∈ p, y.ok
theorem PO.ext {w w' : World} {lo : Nat} {A : Option Addr} {n c : Nat} {ps : List (List Pt)} (h : PO w lo A n c ps) (hb : Ext w w') : PO w' lo A n c ps := by
  obtain ⟨h1, L, h2, h3⟩ := h
  refine ⟨h1, L, owns_ext h2 hb, fun k p hk => ?_⟩
  obtain ⟨A', c', e, ho, hy⟩ := h3 k p hk
  exact ⟨A', c', e, owns_ext ho hb, hy⟩
theorem PO.base {w : World} {lo lo' : Nat} {A : Option Addr} {n c : Nat} {ps : List (List Pt)} (h : PO w lo A n c ps) (hb : lo' ≤ lo) : PO w lo' A n c ps := by
  obtain ⟨h1, L, h2, h3⟩ := h
  refine ⟨h1, L, owns_base h2 hb, fun k p hk => ?_⟩
  obtain ⟨A', c', e, ho, hy⟩ := h3 k p hk
  exact ⟨A', c', e, owns_base ho hb, hy⟩
theorem PO.nil (w : World) (lo : Nat) : PO w lo none 0 0 [] := ⟨rfl, [], World.ownsRow_nil _ _ _ _, fun k p hk => by simp at hk⟩
theorem PO.sl {w : World} {lo : Nat} {A : Option Addr} {n c : Nat} {ps : List (List Pt)} (h : PO w lo A n c ps) : SlAt RPf 1 w A n ps := by
  obtain ⟨rfl, L, h2, h3⟩ := h
  have hO : OwnAt RPf 42 1 w lo (.slice A ps.length c) ps := ⟨L, h2, fun j x hx => by
    obtain ⟨A', c', e, ho, hy⟩ := h3 j x hx
    refine ⟨A', c', ?_, owns_sl Pt.size ho hy⟩
    rw [Nat.mul_one]
    obtain ⟨hj, e2⟩ := List.getElem?_eq_some_iff.1 e
    rw [List.drop_eq_getElem_cons hj, e2]; rfl⟩
  exact hO.slAt
theorem PO.get {w : World} {lo g : Nat} {n c k : Nat} {ps : List (List Pt)} {p : List Pt} (h : PO w lo (some ⟨g, 0, none⟩) n c ps) (hk : ps[k]? = some p) : ∃ A' c', w.cell? ⟨g, k, none⟩ = some (.slice A' p.length c') ∧ SlAt RPt 4 w A' p.length p ∧ w.frozen? ⟨g, k, none⟩ = false ∧ g < w.heap.size ∧ lo ≤ g := by
  obtain ⟨rfl, L, h2, h3⟩ := h
  obtain ⟨A', c', e, ho, hy⟩ := h3 k p hk
  have hkl := (List.getElem?_eq_some_iff.1 hk).1
  exact ⟨A', c', by rw [h2.cellAt k (by omega), e], owns_sl Pt.size ho hy, h2.frozenAt k, (h2.lt g rfl).2, (h2.lt g rfl).1⟩
theorem PO.form {w : World} {lo : Nat} {A : Option Addr} {n c : Nat} {ps : List (List Pt)} (h : PO w lo A n c ps) (hn : 0 < n) : ∃ g, A = some ⟨g, 0, none⟩ ∧ lo ≤ g ∧ g < w.heap.size := by
  obtain ⟨h1, L, h2, h3⟩ := h
  exact own_some h2 hn
theorem PO.set {w : World} {lo g : Nat} {n c k : Nat} {ps : List (List Pt)} {p : List Pt} {A' : Option Addr} {c' : Nat} (h : PO w lo (some ⟨g, 0, none⟩) n c ps) (hk : k < n) (ho : w.ownsRow lo 107 4 (.slice A' p.length c') p.length (p.flatMap Pt.enc)) (hy : ∀ y ∈ p, y.ok) : PO (w.setCell ⟨g, k, none⟩ (.slice A' p.length c')) lo (some ⟨g, 0, none⟩) n c (ps.set k p) := by
  obtain ⟨h1, L, h2, h3⟩ := h
  have hfar : ∀ {A2 : Option Addr} {c2 : Nat} {q : List Pt}, w.ownsRow lo 107 4 (.slice A2 q.length c2) q.length (q.flatMap Pt.enc) → (w.setCell ⟨g, k, none⟩ (.slice A' p.length c')).ownsRow lo 107 4 (.slice A2 q.length c2) q.length (q.flatMap Pt.enc) := fun h' => g_far h' (fun e => g_apart h' h2 (by decide) _ e rfl)
  refine ⟨by rw [List.length_set]; exact h1, L.set k (.slice A' p.length c'), (h2.stored k _).1, fun j q hj => ?_⟩
  have hL : L.length = n := by have := h2.1; omega
  by_cases e : k = j
  · subst e
    rw [List.getElem?_set_self (by omega)] at hj
    injection hj with hj; subst hj
    exact ⟨A', c', by rw [List.getElem?_set_self (by omega)], hfar ho, hy⟩
  · rw [List.getElem?_set_ne e] at hj
    obtain ⟨A2, c2, e2, ho2, hy2⟩ := h3 j q hj
    exact ⟨A2, c2, by rw [List.getElem?_set_ne e]; exact e2, hfar ho2, hy2⟩
theorem PO.grow {w w' : World} {lo m c c' : Nat} {A A' : Option Addr} {ps : List (List Pt)} {L L' : List Value} {p : List Pt} {A1 : Option Addr} {c1 : Nat} (hm : ps.length = m) (h2 : w.ownsRow lo 42 1 (.slice A m c) m L) (h3 : ∀ (k : Nat) (p : List Pt), ps[k]? = some p → ∃ A' c', L[k]? = some (.slice A' p.length c') ∧ w.ownsRow lo 107 4 (.slice A' p.length c') p.length (p.flatMap Pt.enc) ∧ ∀ y ∈ p, y.ok)
    (hr : AppR w w' lo 42 1 (.slice A m c) A' (m + 1) c' L') (e : L' = L ++ [.slice A1 p.length c1]) (ho : w.ownsRow lo 107 4 (.slice A1 p.length c1) p.length (p.flatMap Pt.enc)) (hy : ∀ y ∈ p, y.ok) : PO w' lo A' (m + 1) c' (ps ++ [p]) := by
  subst e
  have hk := hr.kept_type h2
  have hL : L.length = m := by have := h2.1; omega
  refine ⟨by rw [List.length_append, hm]; rfl, _, hr.row, fun j q hj => ?_⟩
  by_cases e : j < m
  · rw [List.getElem?_append_left (by omega)] at hj
    obtain ⟨A2, c2, e2, ho2, hy2⟩ := h3 j q hj
    exact ⟨A2, c2, by rw [List.getElem?_append_left (by omega)]; exact e2, g_type ho2 hk (by decide), hy2⟩
  · have hj1 : j = m := by
      have := (List.getElem?_eq_some_iff.1 hj).1
      rw [List.length_append, hm] at this
      simp at this; omega
    subst hj1
    rw [← hm, List.getElem?_concat_length] at hj
    injection hj with hj; subst hj
    exact ⟨A1, c1, by rw [← hL, List.getElem?_concat_length], g_type ho hk (by decide), hy⟩
def encB (b : Bool) : List Value := [.bool b]
/-- A bool in a row of bools. -/
abbrev RB : Rel Bool := Flat encB (fun _ => True)
theorem encB_one (b : Bool) : ∀ u ∈ encB b, u.oneCell' = true := by
  intro u hu; simp [encB] at hu; subst hu; rfl
/-- A room's value and what it reads as. -/
def RoomAt (w : World) (ps : List Int) (ns : List Node) (up : List Bool) (r : List (List Pt) × List Pt) (v : Value) : Prop :=
  ∃ A1 c1 A2 c2 A3 c3 A4 c4 A5 c5, v = .agg #[.slice A1 ps.length c1, .slice A2 ns.length c2, .slice A3 up.length c3, .slice A4 r.1.length c4, .slice A5 r.2.length c5] ∧ SlAt RInt 1 w A1 ps.length ps ∧ SlAt RNode 4 w A2 ns.length ns ∧ SlAt RB 1 w A3 up.length up ∧ SlAt RPf 1 w A4 r.1.length r.1 ∧ SlAt RPt 4 w A5 r.2.length r.2
theorem RoomAt.ext {w w' : World} {ps : List Int} {ns : List Node} {up : List Bool} {r : List (List Pt) × List Pt} {v : Value} (h : RoomAt w ps ns up r v) (hb : Ext w w') : RoomAt w' ps ns up r v := by
  obtain ⟨A1, c1, A2, c2, A3, c3, A4, c4, A5, c5, e, h1, h2, h3, h4, h5⟩ := h
  exact ⟨A1, c1, A2, c2, A3, c3, A4, c4, A5, c5, e, h1.ext (Flat.mono _ _) hb, h2.ext (Flat.mono _ _) hb, h3.ext (Flat.mono _ _) hb, h4.ext RPf.mono hb, h5.ext (Flat.mono _ _) hb⟩
theorem own_set {w : World} {lo b p : Nat} {e : TypeId} {sz n : Nat} {v u : Value} {L : List Value} (h : w.ownsRow lo e sz v n L) (hb : b < lo) : (w.setCell ⟨b, p, none⟩ u).ownsRow lo e sz v n L := g_far h (fun e => by have := (h.lt _ e).1; omega)
theorem PO.low {w : World} {lo b p : Nat} {u : Value} {A : Option Addr} {n c : Nat} {ps : List (List Pt)} (h : PO w lo A n c ps) (hb : b < lo) : PO (w.setCell ⟨b, p, none⟩ u) lo A n c ps := by
  obtain ⟨h1, L, h2, h3⟩ := h
  refine ⟨h1, L, own_set h2 hb, fun k p hk => ?_⟩
  obtain ⟨A', c', e, ho, hy⟩ := h3 k p hk
  exact ⟨A', c', e, own_set ho hb, hy⟩
/-- A room in memory of the call's own. -/
structure RoomO (w : World) (lo : Nat) (ps : List Int) (ns : List Node) (up : List Bool) (r : List (List Pt) × List Pt) (A1 : Option Addr) (c1 : Nat) (A2 : Option Addr) (c2 : Nat) (A3 : Option Addr) (c3 : Nat) (A4 : Option Addr) (c4 : Nat) (A5 : Option Addr) (c5 : Nat) : Prop where
  par : w.ownsRow lo 3 1 (.slice A1 ps.length c1) ps.length (ps.flatMap encInt)
  nod : w.ownsRow lo 130 4 (.slice A2 ns.length c2) ns.length (ns.flatMap Node.enc)
  ups : w.ownsRow lo 4 1 (.slice A3 up.length c3) up.length (up.flatMap encB)
  pro : PO w lo A4 r.1.length c4 r.1
  lic : w.ownsRow lo 107 4 (.slice A5 r.2.length c5) r.2.length (r.2.flatMap Pt.enc)
  ok1 : ∀ x ∈ ps, In64 x
  ok2 : ∀ x ∈ ns, x.ok
  ok3 : ∀ x ∈ r.2, x.ok
section
variable {w w' : World} {lo lo' b p : Nat} {u : Value} {ps : List Int} {ns : List Node} {up : List Bool} {r : List (List Pt) × List Pt} {A1 : Option Addr} {c1 : Nat} {A2 : Option Addr} {c2 : Nat} {A3 : Option Addr} {c3 : Nat} {A4 : Option Addr} {c4 : Nat} {A5 : Option Addr} {c5 : Nat}
theorem RoomO.ext (h : RoomO w lo ps ns up r A1 c1 A2 c2 A3 c3 A4 c4 A5 c5) (hb : Ext w w') : RoomO w' lo ps ns up r A1 c1 A2 c2 A3 c3 A4 c4 A5 c5 :=
  ⟨owns_ext h.par hb, owns_ext h.nod hb, owns_ext h.ups hb, h.pro.ext hb, owns_ext h.lic hb, h.ok1, h.ok2, h.ok3⟩
theorem RoomO.base (h : RoomO w lo ps ns up r A1 c1 A2 c2 A3 c3 A4 c4 A5 c5) (hb : lo' ≤ lo) : RoomO w lo' ps ns up r A1 c1 A2 c2 A3 c3 A4 c4 A5 c5 :=
  ⟨owns_base h.par hb, owns_base h.nod hb, owns_base h.ups hb, h.pro.base hb, owns_base h.lic hb, h.ok1, h.ok2, h.ok3⟩
theorem RoomO.low (h : RoomO w lo ps ns up r A1 c1 A2 c2 A3 c3 A4 c4 A5 c5) (hb : b < lo) : RoomO (w.setCell ⟨b, p, none⟩ u) lo ps ns up r A1 c1 A2 c2 A3 c3 A4 c4 A5 c5 :=
  ⟨own_set h.par hb, own_set h.nod hb, own_set h.ups hb, h.pro.low hb, own_set h.lic hb, h.ok1, h.ok2, h.ok3⟩
theorem RoomO.at_ (h : RoomO w lo ps ns up r A1 c1 A2 c2 A3 c3 A4 c4 A5 c5) : RoomAt w ps ns up r (.agg #[.slice A1 ps.length c1, .slice A2 ns.length c2, .slice A3 up.length c3, .slice A4 r.1.length c4, .slice A5 r.2.length c5]) :=
  ⟨A1, c1, A2, c2, A3, c3, A4, c4, A5, c5, rfl, owns_sl (fun _ => rfl) h.par h.ok1, owns_sl Node.size h.nod h.ok2, owns_sl (enc := encB) (ok := fun _ => True) (fun _ => rfl) h.ups (fun _ _ => trivial), h.pro.sl, owns_sl Pt.size h.lic h.ok3⟩
end
theorem box_after (w : World) (a : Addr) (u : Value) (cs : List Value) (e : TypeId) (sz : Nat) (h : cs.length = sz) {lo : Nat} (hlo : lo ≤ w.heap.size) : ((w.setCell a u).alloc (.cells cs.toArray e)).ownsRow lo e sz (.slice (some ⟨w.heap.size, 0, none⟩) 1 1) 1 cs := by
  have h := gbox (w.setCell a u) cs e sz h
  rw [show (w.setCell a u).heap.size = w.heap.size by simp] at h
  exact owns_base h hlo
theorem AppR.ext_nil {w w' : World} {base : Nat} {e : TypeId} {size : Nat} {A' : Option Addr} {n' c' n c : Nat} {L' : List Value} (h : AppR w w' base e size (.slice none n c) A' n' c' L') : Ext w w' :=
  ext_turned (Ext.refl w) (h.turned (lo := w.heap.size) (fun q hq => by cases hq)) (Nat.le_refl _)
end Go.Proofs.YtgmlcohffdeplaaGreat
