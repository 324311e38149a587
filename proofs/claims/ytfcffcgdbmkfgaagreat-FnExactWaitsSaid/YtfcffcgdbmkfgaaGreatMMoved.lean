/- Merged by mergelean.py: Room4, Moved, SRow, Empty. -/
import Derived.Test.YtfcffcgdbmkfgaaGreatRoom3
import Derived.Test.YtfcffcgdbmkfgaaGreatAsc
import Derived.Deep.RegionHeld3
import Derived.ArgAppend
/-! Room4 -/
namespace Go.Proofs.YtfcffcgdbmkfgaaGreat
open Go.RowKit
set_option linter.unusedVariables false
theorem SlAt.cutk {α : Type} {R : Rel α} {sz n k : Nat} {w : World} {A : Option Addr} {xs : List α} (h : SlAt R sz w A n xs) (hk : k ≤ n) : SlAt R sz w A k (xs.take k) := by
  refine ⟨by rw [List.length_take, h.1]; omega, fun h0 => ?_⟩
  obtain ⟨b, o, e, hb, hc⟩ := h.2 (by omega)
  refine ⟨b, o, e, hb, fun j x hx => ?_⟩
  rw [List.getElem?_take] at hx
  split at hx
  · exact hc j x hx
  · cases hx
theorem dist_step {xs : List Int} {k : Nat} {x : Int} (hx : xs[k]? = some x) : distGo (xs.take k) (xs.drop k) = (!(xs.take k).contains x && distGo (xs.take (k + 1)) (xs.drop (k + 1))) := by
  rw [drop_cons hx, distGo, take_succ hx]
set_option maxHeartbeats 8000000 in
set_option maxRecDepth 8000 in
theorem areJobNodes_c (ps : List Int) (ns : List Node) (j : Job) (xs : List Int) (A : Option Addr) (n c : Nat) (B : Option Addr) (m d : Nat) (D : Option Addr) (q f : Nat) (w : World) (h : SlAt RInt 1 w A n ps) (h2 : SlAt RNode 4 w B m ns) (h3 : SlAt RInt 1 w D q xs) (hl3 : q ≤ maxLen) (hcap : q ≤ f) (ht : topoB ps ns = true) : Calls Tryz.prog 109 #[.agg #[.slice A n c, .slice B m d], .agg #[.int .i64 j.Id, .int .i64 j.Prio, .int .i64 j.Nodes, .int .i64 j.Need.A, .int .i64 j.Need.B, .int .i64 j.Need.C, .int .i64 j.Lic.A, .int .i64 j.Lic.B, .int .i64 j.Lic.C, .int .i64 j.Wall, .int .i64 j.Level], .slice D q f] w (Ret w (.bool (jobNodesB ns.length j xs))) := by
  have hl3' := hl3
  unfold maxLen at hl3
  obtain ⟨⟨_, hp1⟩, hn1, _⟩ := topo_parts ht
  have hM := Flat.mono encInt In64
  have HA := Lib.hid (fun (u : World) (e : Ext w u) => areNodes_c ps ns xs A n c B m d D q f u (h.ext hM e) (by rw [← h.len]; unfold maxLen; omega) (h2.ext (Flat.mono _ _) e) (by rw [← h2.len]; unfold maxLen; omega) (h3.ext hM e) hl3')
  rw [ht, Bool.and_true] at HA
  have HC := Lib.hid (fun (u : World) (e : Ext w u) (k : Nat) (x : Int) (hk : k ≤ q) => Contains_c (xs.take k) x D k f u ((h3.ext hM e).cutk hk) (by omega))
  have H3 := Lib.hid (fun (u : World) (e : Ext w u) => h3.ext hM e)
  have HJ := Lib.hid (show jobNodesB ns.length j xs = (distGo [] xs && (nodesB ns.length xs && decide (((q : Nat) : Int) = j.Nodes))) by unfold jobNodesB; rw [Bool.and_assoc, h3.len]; rfl)
  have HN := Lib.hid h3.len
  have HD0 := Lib.hid (show distGo [] xs = distGo [] xs from rfl)
  clear h h2 h3 ht hp1 hn1
  generalize jobNodesB ns.length j xs = R at *
  generalize hd0 : distGo [] xs = dg at *
  generalize nodesB ns.length xs = nb at *
  go_enter Tryz.func109, Tryz.ntmps109
  go_wp2
  go_loopw [11] (fun iv wr => ∃ k : Nat, k ≤ q ∧ iv = .int .i64 k ∧ Hid (dg = distGo (xs.take k) (xs.drop k)) ∧ Ext ((w.alloc (.cells #[.slice A n c, .slice B m d] 38)).alloc (.cells #[.int .i64 j.Id, .int .i64 j.Prio, .int .i64 j.Nodes, .int .i64 j.Need.A, .int .i64 j.Need.B, .int .i64 j.Need.C, .int .i64 j.Lic.A, .int .i64 j.Lic.B, .int .i64 j.Lic.C, .int .i64 j.Wall, .int .i64 j.Level] 62)) wr) (fun iv _ => q - (intOf iv).toNat)
  case atStart => exact ⟨0, Nat.zero_le _, rfl, Lib.hid hd0.symm, (by repeat (first | exact Ext.refl _ | assumption | apply Ext.alloc | apply Ext.drewN | apply Ext.drew | (refine Ext.setCell ?_ (by first | (simp; done) | (simp; omega) | omega) _) | (refine Ext.trans ?_ (by assumption))))⟩
  case round =>
    clear hd0
    obtain ⟨k, hk, rfl, HE, hb⟩ := hrel
    have hx0 : Ext w wr := (((Ext.refl w).alloc _).alloc _).trans hb
    by_cases hlt : k < q
    · obtain ⟨b, o, x, cs, rfl, hbw, hx, _, hc, rfl, hok⟩ := (H3.out wr hx0).at_ hlt
      have g0 := hc 0 _ rfl
      simp only [Nat.mul_one, Nat.add_zero] at g0
      have HS := Lib.hid (dist_step hx)
      have hkf : k ≤ f := by omega
      clear hx hc hok
      go_wp2_with fail
      refine (HC.out _ hx0 k x (by omega)).mono ?_
      rintro e w4 ⟨rfl, hb4⟩
      generalize (xs.take k).contains x = ct at *
      rcases ct with _ | _
      · go_wp2
        go_roundw
        case rel => exact ⟨k + 1, by omega, by go_num, Lib.hid (by rw [HE.out, HS.out]; rfl), hb.trans hb4⟩
        case measure => simp [intOf]; omega
      · go_wp2
        refine ret_bool rfl rfl rfl ?_ (hx0.trans hb4)
        rw [HJ.out, HE.out, HS.out]; rfl
    · obtain rfl : k = q := by omega
      have HZ := Lib.hid (show dg = true by rw [HE.out, List.drop_eq_nil_of_le (by have := HN.out; omega)]; rfl)
      have b0 := (((Ext.refl _).alloc _).trans hb).cell (cell_box_at w (w.heap.size) (by simp) [.slice A n c, .slice B m d] 38 0 _ rfl)
      have b1 := (((Ext.refl _).alloc _).trans hb).cell (cell_box_at w (w.heap.size) (by simp) [.slice A n c, .slice B m d] 38 1 _ rfl)
      have bf0 := ((((Ext.refl _).alloc _).trans hb).frozenEq (a := ⟨w.heap.size, 0, none⟩) (by simp)).trans (frozen_box_at w (w.heap.size) (by simp) #[.slice A n c, .slice B m d] 38 0)
      have bf1 := ((((Ext.refl _).alloc _).trans hb).frozenEq (a := ⟨w.heap.size, 1, none⟩) (by simp)).trans (frozen_box_at w (w.heap.size) (by simp) #[.slice A n c, .slice B m d] 38 1)
      have hb0 := lt_of_cell b0
      go_wp2_with fail
      refine (HA.out _ hx0).mono ?_
      rintro e w4 ⟨rfl, hb4⟩
      have j2 := (hb.trans hb4).cell (cell_box_at (w.alloc (.cells #[.slice A n c, .slice B m d] 38)) (w.heap.size + 1) (by simp) [.int .i64 j.Id, .int .i64 j.Prio, .int .i64 j.Nodes, .int .i64 j.Need.A, .int .i64 j.Need.B, .int .i64 j.Need.C, .int .i64 j.Lic.A, .int .i64 j.Lic.B, .int .i64 j.Lic.C, .int .i64 j.Wall, .int .i64 j.Level] 62 2 _ rfl)
      have hj2 := lt_of_cell j2
      rcases nb with _ | _
      · go_wp2
        refine ret_bool rfl rfl rfl ?_ (hx0.trans hb4)
        rw [HJ.out, HZ.out]; rfl
      · go_wp2
        refine ret_bool rfl rfl rfl ?_ (hx0.trans hb4)
        rw [HJ.out, HZ.out]
        first | rfl | simp
end Go.Proofs.YtfcffcgdbmkfgaaGreat
/-! Moved -/
namespace Go.Proofs.YtfcffcgdbmkfgaaGreat
open Go.RowKit
set_option linter.unusedVariables false
/-- A room or none is handed back, with a word that says which. -/
def RetRoomB (w : World) (ps : List Int) (ns : List Node) (up : List Bool) (R : Option (List (List Pt) × List Pt)) : Ending → World → Prop := fun e w' => ∃ A1 n1 c1 A2 n2 c2 A3 n3 c3 A4 n4 c4 A5 n5 c5, e = .returned (.tuple #[.agg #[.slice A1 n1 c1, .slice A2 n2 c2, .slice A3 n3 c3, .slice A4 n4 c4, .slice A5 n5 c5], .bool R.isSome]) ∧ (∀ r, R = some r → n1 = ps.length ∧ n2 = ns.length ∧ n3 = up.length ∧ n4 = r.1.length ∧ n5 = r.2.length ∧ RoomO w' w.heap.size ps ns up r A1 c1 A2 c2 A3 c3 A4 c4 A5 c5) ∧ Ext w w'
theorem retRoom_none {w w' : World} {ps : List Int} {ns : List Node} {up : List Bool} {R : Option (List (List Pt) × List Pt)} (h : R = none) (hb : Ext w w') : RetRoomB w ps ns up R (.returned (.tuple #[.agg #[.slice none 0 0, .slice none 0 0, .slice none 0 0, .slice none 0 0, .slice none 0 0], .bool false])) w' := by
  subst h
  exact ⟨none, 0, 0, none, 0, 0, none, 0, 0, none, 0, 0, none, 0, 0, rfl, (fun r hr => by cases hr), hb⟩
theorem take_step {fr te : Int} {v : Vec} {nodes : List Int} {k : Nat} {x : Int} {pl : List (List Pt)} (hx : nodes[k]? = some x) : takeAll fr te v (nodes.drop k) pl = (match takeQ (pl.getD x.toNat []) fr te v with
    | none => none
    | some p => takeAll fr te v (nodes.drop (k + 1)) (pl.set x.toNat p)) := by
  rw [drop_cons hx, takeAll]
  cases takeQ (pl.getD x.toNat []) fr te v <;> rfl
theorem nodesIn_at {m : Nat} {l : List Int} (h : nodesIn m l = true) {x : Int} (hx : x ∈ l) : 0 ≤ x ∧ x < m := by
  unfold nodesIn at h
  rw [List.all_eq_true] at h
  have := h x hx
  unfold withinB at this
  simp at this
  omega
/-- What is known of a profile that was handed back. -/
def gTake (lo : Nat) (tq : Option (List Pt)) : GSp := ⟨fun v => ∃ A c n, v = .tuple #[.agg #[.slice A n c], .bool tq.isSome] ∧ ∀ l, tq = some l → n = l.length, fun v w => ∀ A c (l : List Pt), tq = some l → v = .tuple #[.agg #[.slice A l.length c], .bool tq.isSome] → w.ownsRow lo 150 4 (.slice A l.length c) l.length (l.flatMap Pt.enc) ∧ ∀ y ∈ l, y.ok⟩
theorem gTake_ok (lo : Nat) (tq : Option (List Pt)) : (∀ v, FMono ((gTake lo tq).F v)) ∧ ∃ v, (gTake lo tq).V v := by
  refine ⟨fun v w w' hb h A c l h1 e => ⟨owns_ext (h A c l h1 e).1 hb, (h A c l h1 e).2⟩, ?_⟩
  cases tq with
  | none => exact ⟨_, none, 0, 0, rfl, fun l h => by cases h⟩
  | some l => exact ⟨_, none, 0, l.length, rfl, fun l' h => by injection h with h; rw [h]⟩
theorem RoomO.setp {w : World} {lo g i : Nat} {ps : List Int} {ns : List Node} {up : List Bool} {pl : List (List Pt)} {lic : List Pt} {A1 : Option Addr} {c1 : Nat} {A2 : Option Addr} {c2 : Nat} {A3 : Option Addr} {c3 c4 : Nat} {A5 : Option Addr} {c5 : Nat} {p : List Pt} {A' : Option Addr} {c' : Nat} (h : RoomO w lo ps ns up (pl, lic) A1 c1 A2 c2 A3 c3 (some ⟨g, 0, none⟩) c4 A5 c5) (hi : i < pl.length) (ho : w.ownsRow lo 150 4 (.slice A' p.length c') p.length (p.flatMap Pt.enc)) (hy : ∀ y ∈ p, y.ok) :
    RoomO (w.setCell ⟨g, i, none⟩ (.slice A' p.length c')) lo ps ns up (pl.set i p, lic) A1 c1 A2 c2 A3 c3 (some ⟨g, 0, none⟩) c4 A5 c5 := by
  obtain ⟨_, L, hL, _⟩ := h.pro
  have hs := h.pro.set hi ho hy
  exact ⟨g_far h.par (fun e => g_apart h.par hL (by decide) _ e rfl), g_far h.nod (fun e => g_apart h.nod hL (by decide) _ e rfl), g_far h.ups (fun e => g_apart h.ups hL (by decide) _ e rfl), by show PO _ _ _ (pl.set i p).length _ _; rw [List.length_set]; exact hs, g_far h.lic (fun e => g_apart h.lic hL (by decide) _ e rfl), h.ok1, h.ok2, h.ok3⟩
theorem RoomO.box_far {w : World} {lo lo' g b i : Nat} {ps : List Int} {ns : List Node} {up : List Bool} {pl : List (List Pt)} {lic : List Pt} {A1 : Option Addr} {c1 : Nat} {A2 : Option Addr} {c2 : Nat} {A3 : Option Addr} {c3 c4 : Nat} {A5 : Option Addr} {c5 : Nat} {u : Value} {L0 : List Value} (h : RoomO w lo ps ns up (pl, lic) A1 c1 A2 c2 A3 c3 (some ⟨g, 0, none⟩) c4 A5 c5) (hbox : w.ownsRow lo' 98 5 (.slice (some ⟨b, 0, none⟩) 1 1) 1 L0) : (w.setCell ⟨g, i, none⟩ u).ownsRow lo' 98 5 (.slice (some ⟨b, 0, none⟩) 1 1) 1 L0 := by
  obtain ⟨_, L, hL, _⟩ := h.pro
  exact g_far hbox (fun e => g_apart hbox hL (by decide) _ e rfl)
theorem RoomO.lics {w : World} {lo : Nat} {ps : List Int} {ns : List Node} {up : List Bool} {pl : List (List Pt)} {lic l : List Pt} {A1 : Option Addr} {c1 : Nat} {A2 : Option Addr} {c2 : Nat} {A3 : Option Addr} {c3 : Nat} {A4 : Option Addr} {c4 : Nat} {A5 : Option Addr} {c5 : Nat} {A6 : Option Addr} {c6 : Nat} (h : RoomO w lo ps ns up (pl, lic) A1 c1 A2 c2 A3 c3 A4 c4 A5 c5) (ho : w.ownsRow lo 150 4 (.slice A6 l.length c6) l.length (l.flatMap Pt.enc)) (hy : ∀ y ∈ l, y.ok) : RoomO w lo ps ns up (pl, l) A1 c1 A2 c2 A3 c3 A4 c4 A6 c6 :=
  ⟨h.par, h.nod, h.ups, h.pro, ho, h.ok1, h.ok2, hy⟩
theorem Ext.five {w0 w : World} (h : Ext w0 w) {b : Nat} (hb : w0.heap.size ≤ b) (a0 a1 a2 a3 a4 : Value) : Ext w0 (((((w.setCell ⟨b, 0, none⟩ a0).setCell ⟨b, 1, none⟩ a1).setCell ⟨b, 2, none⟩ a2).setCell ⟨b, 3, none⟩ a3).setCell ⟨b, 4, none⟩ a4) :=
  ((((h.setCell hb a0).setCell hb a1).setCell hb a2).setCell hb a3).setCell hb a4
set_option maxHeartbeats 16000000 in
set_option maxRecDepth 10000 in
theorem moved_c (ps : List Int) (ns : List Node) (up : List Bool) (pl : List (List Pt)) (lic : List Pt) (j : Job) (fr te : Int) (nodes : List Int) (A : Option Addr) (n c : Nat) (v : Value) (w : World) (h : RoomAt w ps ns up (pl, lic) v) (ht : topoB ps ns = true) (hu : up.length = ns.length) (hr : roomOkM ns.length (pl, lic)) (h3 : SlAt RInt 1 w A n nodes) (hl3 : n ≤ maxLen) (hcap : n ≤ c) (hfr : In64 fr) (hto : In64 te) : Calls Tryz.prog 88 #[v, .agg #[.int .i64 j.Id, .int .i64 j.Prio, .int .i64 j.Nodes, .int .i64 j.Need.A, .int .i64 j.Need.B, .int .i64 j.Need.C, .int .i64 j.Lic.A, .int .i64 j.Lic.B, .int .i64 j.Lic.C, .int .i64 j.Wall, .int .i64 j.Level], .int .i64 fr, .int .i64 te, .slice A n c, .func (.func 89) #[] #[]] w (RetRoomB w ps ns up (if (jobB j && jobNodesB ns.length j nodes) = true then moveM fr te j nodes (pl, lic) else none)) := by
  obtain ⟨⟨_, hp1⟩, hn1, _⟩ := topo_parts ht
  have hM := Flat.mono encInt In64
  have hpl := hr.1
  simp only [] at hpl
  have HRO := Lib.hid (fun (u : World) (e : Ext w u) => RoomOk_c ps ns up (pl, lic) v u (h.ext e) ht hu hr)
  have HCP := Lib.hid (fun (u : World) (e : Ext w u) => copyRoom_c ps ns up pl lic v u (h.ext e) hp1 hn1 (by omega) (by omega) (fun p hp => (profB_parts (hr.2.1 p hp)).2.1) (profB_parts hr.2.2).2.1)
  have HJO := Lib.hid (fun (u : World) => JobOk_c j u)
  have HH := Lib.hid h
  obtain ⟨A1, c1, A2, c2, A3, c3, A4, c4, A5, c5, rfl, h1, h2, _, _, _⟩ := h
  have HAJ := Lib.hid (fun (u : World) (e : Ext w u) => areJobNodes_c ps ns j nodes A1 ps.length c1 A2 ns.length c2 A n c u (h1.ext hM e) (h2.ext (Flat.mono _ _) e) (h3.ext hM e) hl3 hcap ht)
  have H3 := Lib.hid (fun (u : World) (e : Ext w u) => h3.ext hM e)
  have HNL := Lib.hid h3.len
  have HR := Lib.hid hr
  have HNI := Lib.hid (fun (hh : jobNodesB ns.length j nodes = true) => show nodesIn ns.length nodes = true from by
    unfold jobNodesB at hh
    simp only [Bool.and_eq_true] at hh
    exact hh.1.2)
  have hl3' := hl3
  unfold maxLen at hl3
  have HPLN := Lib.hid hpl
  clear h1 h2 h3 hr ht hpl hu
  rcases (Bool.eq_false_or_eq_true (jobB j)).symm with hj | hj
  all_goals rw [hj] at HJO ⊢
  · go_enter Tryz.func88, Tryz.ntmps88
    go_wp2_with fail
    refine (HRO.out _ (by repeat (first | exact Ext.refl _ | assumption | apply Ext.alloc | apply Ext.drewN | apply Ext.drew | (refine Ext.setCell ?_ (by first | (simp; done) | (simp; omega) | omega) _) | (refine Ext.trans ?_ (by assumption))))).mono ?_
    rintro e w1 ⟨rfl, hb1⟩
    obtain ⟨hcr1, hfr1, hz1⟩ := hb1.rules
    (try simp at hz1)
    have hy1_w0 : w.heap.size < w1.heap.size := (by omega)
    have hy1_w1 : w.heap.size + 1 < w1.heap.size := (by omega)
    have hy1_w2 : w.heap.size + 1 + 1 < w1.heap.size := (by omega)
    go_wp2_with fail
    refine (HJO.out _).mono ?_
    rintro e w2 ⟨rfl, hb2⟩
    obtain ⟨hcr2, hfr2, hz2⟩ := hb2.rules
    (try simp at hz2)
    have hy2_w0 : w.heap.size < w2.heap.size := (by omega)
    have hy2_w1 : w.heap.size + 1 < w2.heap.size := (by omega)
    have hy2_w2 : w.heap.size + 1 + 1 < w2.heap.size := (by omega)
    have q0 := (hb1.trans hb2).cell (cell_box_at ((w.alloc (.cells #[.slice A1 ps.length c1, .slice A2 ns.length c2, .slice A3 up.length c3, .slice A4 pl.length c4, .slice A5 lic.length c5] 98)).alloc (.cells #[.int .i64 j.Id, .int .i64 j.Prio, .int .i64 j.Nodes, .int .i64 j.Need.A, .int .i64 j.Need.B, .int .i64 j.Need.C, .int .i64 j.Lic.A, .int .i64 j.Lic.B, .int .i64 j.Lic.C, .int .i64 j.Wall, .int .i64 j.Level] 62)) (w.heap.size + 1 + 1) (by simp) [.slice none 0 0, .slice none 0 0, .slice none 0 0, .slice none 0 0, .slice none 0 0] 98 0 _ rfl)
    have q1 := (hb1.trans hb2).cell (cell_box_at ((w.alloc (.cells #[.slice A1 ps.length c1, .slice A2 ns.length c2, .slice A3 up.length c3, .slice A4 pl.length c4, .slice A5 lic.length c5] 98)).alloc (.cells #[.int .i64 j.Id, .int .i64 j.Prio, .int .i64 j.Nodes, .int .i64 j.Need.A, .int .i64 j.Need.B, .int .i64 j.Need.C, .int .i64 j.Lic.A, .int .i64 j.Lic.B, .int .i64 j.Lic.C, .int .i64 j.Wall, .int .i64 j.Level] 62)) (w.heap.size + 1 + 1) (by simp) [.slice none 0 0, .slice none 0 0, .slice none 0 0, .slice none 0 0, .slice none 0 0] 98 1 _ rfl)
    have q2 := (hb1.trans hb2).cell (cell_box_at ((w.alloc (.cells #[.slice A1 ps.length c1, .slice A2 ns.length c2, .slice A3 up.length c3, .slice A4 pl.length c4, .slice A5 lic.length c5] 98)).alloc (.cells #[.int .i64 j.Id, .int .i64 j.Prio, .int .i64 j.Nodes, .int .i64 j.Need.A, .int .i64 j.Need.B, .int .i64 j.Need.C, .int .i64 j.Lic.A, .int .i64 j.Lic.B, .int .i64 j.Lic.C, .int .i64 j.Wall, .int .i64 j.Level] 62)) (w.heap.size + 1 + 1) (by simp) [.slice none 0 0, .slice none 0 0, .slice none 0 0, .slice none 0 0, .slice none 0 0] 98 2 _ rfl)
    have q3 := (hb1.trans hb2).cell (cell_box_at ((w.alloc (.cells #[.slice A1 ps.length c1, .slice A2 ns.length c2, .slice A3 up.length c3, .slice A4 pl.length c4, .slice A5 lic.length c5] 98)).alloc (.cells #[.int .i64 j.Id, .int .i64 j.Prio, .int .i64 j.Nodes, .int .i64 j.Need.A, .int .i64 j.Need.B, .int .i64 j.Need.C, .int .i64 j.Lic.A, .int .i64 j.Lic.B, .int .i64 j.Lic.C, .int .i64 j.Wall, .int .i64 j.Level] 62)) (w.heap.size + 1 + 1) (by simp) [.slice none 0 0, .slice none 0 0, .slice none 0 0, .slice none 0 0, .slice none 0 0] 98 3 _ rfl)
    have q4 := (hb1.trans hb2).cell (cell_box_at ((w.alloc (.cells #[.slice A1 ps.length c1, .slice A2 ns.length c2, .slice A3 up.length c3, .slice A4 pl.length c4, .slice A5 lic.length c5] 98)).alloc (.cells #[.int .i64 j.Id, .int .i64 j.Prio, .int .i64 j.Nodes, .int .i64 j.Need.A, .int .i64 j.Need.B, .int .i64 j.Need.C, .int .i64 j.Lic.A, .int .i64 j.Lic.B, .int .i64 j.Lic.C, .int .i64 j.Wall, .int .i64 j.Level] 62)) (w.heap.size + 1 + 1) (by simp) [.slice none 0 0, .slice none 0 0, .slice none 0 0, .slice none 0 0, .slice none 0 0] 98 4 _ rfl)
    have qf0 := ((hb1.trans hb2).frozenEq (a := ⟨w.heap.size + 1 + 1, 0, none⟩) (by simp)).trans (frozen_box_at ((w.alloc (.cells #[.slice A1 ps.length c1, .slice A2 ns.length c2, .slice A3 up.length c3, .slice A4 pl.length c4, .slice A5 lic.length c5] 98)).alloc (.cells #[.int .i64 j.Id, .int .i64 j.Prio, .int .i64 j.Nodes, .int .i64 j.Need.A, .int .i64 j.Need.B, .int .i64 j.Need.C, .int .i64 j.Lic.A, .int .i64 j.Lic.B, .int .i64 j.Lic.C, .int .i64 j.Wall, .int .i64 j.Level] 62)) (w.heap.size + 1 + 1) (by simp) #[.slice none 0 0, .slice none 0 0, .slice none 0 0, .slice none 0 0, .slice none 0 0] 98 0)
    have qf1 := ((hb1.trans hb2).frozenEq (a := ⟨w.heap.size + 1 + 1, 1, none⟩) (by simp)).trans (frozen_box_at ((w.alloc (.cells #[.slice A1 ps.length c1, .slice A2 ns.length c2, .slice A3 up.length c3, .slice A4 pl.length c4, .slice A5 lic.length c5] 98)).alloc (.cells #[.int .i64 j.Id, .int .i64 j.Prio, .int .i64 j.Nodes, .int .i64 j.Need.A, .int .i64 j.Need.B, .int .i64 j.Need.C, .int .i64 j.Lic.A, .int .i64 j.Lic.B, .int .i64 j.Lic.C, .int .i64 j.Wall, .int .i64 j.Level] 62)) (w.heap.size + 1 + 1) (by simp) #[.slice none 0 0, .slice none 0 0, .slice none 0 0, .slice none 0 0, .slice none 0 0] 98 1)
    have qf2 := ((hb1.trans hb2).frozenEq (a := ⟨w.heap.size + 1 + 1, 2, none⟩) (by simp)).trans (frozen_box_at ((w.alloc (.cells #[.slice A1 ps.length c1, .slice A2 ns.length c2, .slice A3 up.length c3, .slice A4 pl.length c4, .slice A5 lic.length c5] 98)).alloc (.cells #[.int .i64 j.Id, .int .i64 j.Prio, .int .i64 j.Nodes, .int .i64 j.Need.A, .int .i64 j.Need.B, .int .i64 j.Need.C, .int .i64 j.Lic.A, .int .i64 j.Lic.B, .int .i64 j.Lic.C, .int .i64 j.Wall, .int .i64 j.Level] 62)) (w.heap.size + 1 + 1) (by simp) #[.slice none 0 0, .slice none 0 0, .slice none 0 0, .slice none 0 0, .slice none 0 0] 98 2)
    have qf3 := ((hb1.trans hb2).frozenEq (a := ⟨w.heap.size + 1 + 1, 3, none⟩) (by simp)).trans (frozen_box_at ((w.alloc (.cells #[.slice A1 ps.length c1, .slice A2 ns.length c2, .slice A3 up.length c3, .slice A4 pl.length c4, .slice A5 lic.length c5] 98)).alloc (.cells #[.int .i64 j.Id, .int .i64 j.Prio, .int .i64 j.Nodes, .int .i64 j.Need.A, .int .i64 j.Need.B, .int .i64 j.Need.C, .int .i64 j.Lic.A, .int .i64 j.Lic.B, .int .i64 j.Lic.C, .int .i64 j.Wall, .int .i64 j.Level] 62)) (w.heap.size + 1 + 1) (by simp) #[.slice none 0 0, .slice none 0 0, .slice none 0 0, .slice none 0 0, .slice none 0 0] 98 3)
    have qf4 := ((hb1.trans hb2).frozenEq (a := ⟨w.heap.size + 1 + 1, 4, none⟩) (by simp)).trans (frozen_box_at ((w.alloc (.cells #[.slice A1 ps.length c1, .slice A2 ns.length c2, .slice A3 up.length c3, .slice A4 pl.length c4, .slice A5 lic.length c5] 98)).alloc (.cells #[.int .i64 j.Id, .int .i64 j.Prio, .int .i64 j.Nodes, .int .i64 j.Need.A, .int .i64 j.Need.B, .int .i64 j.Need.C, .int .i64 j.Lic.A, .int .i64 j.Lic.B, .int .i64 j.Lic.C, .int .i64 j.Wall, .int .i64 j.Level] 62)) (w.heap.size + 1 + 1) (by simp) #[.slice none 0 0, .slice none 0 0, .slice none 0 0, .slice none 0 0, .slice none 0 0] 98 4)
    have hql := lt_of_cell q0
    have HXF := Lib.hid (((((Ext.refl w).alloc _).alloc _).alloc _).trans (hb1.trans hb2))
    clear HRO HCP HH HAJ H3 HNL HR HNI HPLN hcr1 hfr1 hcr2 hfr2 hb1 hb2
    go_wp2
    exact bodyPost_ret (v := .tuple #[.agg #[.slice none 0 0, .slice none 0 0, .slice none 0 0, .slice none 0 0, .slice none 0 0], .bool false]) (by simp [results, Tryz.results88, go_sem, *]) rfl (retRoom_none rfl (HXF.out.five (by omega) _ _ _ _ _))
  rcases (Bool.eq_false_or_eq_true (jobNodesB ns.length j nodes)).symm with hn | hn
  all_goals rw [hn] at HAJ ⊢
  · go_enter Tryz.func88, Tryz.ntmps88
    go_wp2_with fail
    refine (HRO.out _ (by repeat (first | exact Ext.refl _ | assumption | apply Ext.alloc | apply Ext.drewN | apply Ext.drew | (refine Ext.setCell ?_ (by first | (simp; done) | (simp; omega) | omega) _) | (refine Ext.trans ?_ (by assumption))))).mono ?_
    rintro e w1 ⟨rfl, hb1⟩
    obtain ⟨hcr1, hfr1, hz1⟩ := hb1.rules
    (try simp at hz1)
    have hy1_w0 : w.heap.size < w1.heap.size := (by omega)
    have hy1_w1 : w.heap.size + 1 < w1.heap.size := (by omega)
    have hy1_w2 : w.heap.size + 1 + 1 < w1.heap.size := (by omega)
    go_wp2_with fail
    refine (HJO.out _).mono ?_
    rintro e w2 ⟨rfl, hb2⟩
    obtain ⟨hcr2, hfr2, hz2⟩ := hb2.rules
    (try simp at hz2)
    have hy2_w0 : w.heap.size < w2.heap.size := (by omega)
    have hy2_w1 : w.heap.size + 1 < w2.heap.size := (by omega)
    have hy2_w2 : w.heap.size + 1 + 1 < w2.heap.size := (by omega)
    go_wp2_with fail
    refine (HAJ.out _ (by repeat (first | exact Ext.refl _ | assumption | apply Ext.alloc | apply Ext.drewN | apply Ext.drew | (refine Ext.setCell ?_ (by first | (simp; done) | (simp; omega) | omega) _) | (refine Ext.trans ?_ (by assumption))))).mono ?_
    rintro e w3 ⟨rfl, hb3⟩
    obtain ⟨hcr3, hfr3, hz3⟩ := hb3.rules
    (try simp at hz3)
    have hy3_w0 : w.heap.size < w3.heap.size := (by omega)
    have hy3_w1 : w.heap.size + 1 < w3.heap.size := (by omega)
    have hy3_w2 : w.heap.size + 1 + 1 < w3.heap.size := (by omega)
    have q0 := (hb1.trans (hb2.trans hb3)).cell (cell_box_at ((w.alloc (.cells #[.slice A1 ps.length c1, .slice A2 ns.length c2, .slice A3 up.length c3, .slice A4 pl.length c4, .slice A5 lic.length c5] 98)).alloc (.cells #[.int .i64 j.Id, .int .i64 j.Prio, .int .i64 j.Nodes, .int .i64 j.Need.A, .int .i64 j.Need.B, .int .i64 j.Need.C, .int .i64 j.Lic.A, .int .i64 j.Lic.B, .int .i64 j.Lic.C, .int .i64 j.Wall, .int .i64 j.Level] 62)) (w.heap.size + 1 + 1) (by simp) [.slice none 0 0, .slice none 0 0, .slice none 0 0, .slice none 0 0, .slice none 0 0] 98 0 _ rfl)
    have q1 := (hb1.trans (hb2.trans hb3)).cell (cell_box_at ((w.alloc (.cells #[.slice A1 ps.length c1, .slice A2 ns.length c2, .slice A3 up.length c3, .slice A4 pl.length c4, .slice A5 lic.length c5] 98)).alloc (.cells #[.int .i64 j.Id, .int .i64 j.Prio, .int .i64 j.Nodes, .int .i64 j.Need.A, .int .i64 j.Need.B, .int .i64 j.Need.C, .int .i64 j.Lic.A, .int .i64 j.Lic.B, .int .i64 j.Lic.C, .int .i64 j.Wall, .int .i64 j.Level] 62)) (w.heap.size + 1 + 1) (by simp) [.slice none 0 0, .slice none 0 0, .slice none 0 0, .slice none 0 0, .slice none 0 0] 98 1 _ rfl)
    have q2 := (hb1.trans (hb2.trans hb3)).cell (cell_box_at ((w.alloc (.cells #[.slice A1 ps.length c1, .slice A2 ns.length c2, .slice A3 up.length c3, .slice A4 pl.length c4, .slice A5 lic.length c5] 98)).alloc (.cells #[.int .i64 j.Id, .int .i64 j.Prio, .int .i64 j.Nodes, .int .i64 j.Need.A, .int .i64 j.Need.B, .int .i64 j.Need.C, .int .i64 j.Lic.A, .int .i64 j.Lic.B, .int .i64 j.Lic.C, .int .i64 j.Wall, .int .i64 j.Level] 62)) (w.heap.size + 1 + 1) (by simp) [.slice none 0 0, .slice none 0 0, .slice none 0 0, .slice none 0 0, .slice none 0 0] 98 2 _ rfl)
    have q3 := (hb1.trans (hb2.trans hb3)).cell (cell_box_at ((w.alloc (.cells #[.slice A1 ps.length c1, .slice A2 ns.length c2, .slice A3 up.length c3, .slice A4 pl.length c4, .slice A5 lic.length c5] 98)).alloc (.cells #[.int .i64 j.Id, .int .i64 j.Prio, .int .i64 j.Nodes, .int .i64 j.Need.A, .int .i64 j.Need.B, .int .i64 j.Need.C, .int .i64 j.Lic.A, .int .i64 j.Lic.B, .int .i64 j.Lic.C, .int .i64 j.Wall, .int .i64 j.Level] 62)) (w.heap.size + 1 + 1) (by simp) [.slice none 0 0, .slice none 0 0, .slice none 0 0, .slice none 0 0, .slice none 0 0] 98 3 _ rfl)
    have q4 := (hb1.trans (hb2.trans hb3)).cell (cell_box_at ((w.alloc (.cells #[.slice A1 ps.length c1, .slice A2 ns.length c2, .slice A3 up.length c3, .slice A4 pl.length c4, .slice A5 lic.length c5] 98)).alloc (.cells #[.int .i64 j.Id, .int .i64 j.Prio, .int .i64 j.Nodes, .int .i64 j.Need.A, .int .i64 j.Need.B, .int .i64 j.Need.C, .int .i64 j.Lic.A, .int .i64 j.Lic.B, .int .i64 j.Lic.C, .int .i64 j.Wall, .int .i64 j.Level] 62)) (w.heap.size + 1 + 1) (by simp) [.slice none 0 0, .slice none 0 0, .slice none 0 0, .slice none 0 0, .slice none 0 0] 98 4 _ rfl)
    have qf0 := ((hb1.trans (hb2.trans hb3)).frozenEq (a := ⟨w.heap.size + 1 + 1, 0, none⟩) (by simp)).trans (frozen_box_at ((w.alloc (.cells #[.slice A1 ps.length c1, .slice A2 ns.length c2, .slice A3 up.length c3, .slice A4 pl.length c4, .slice A5 lic.length c5] 98)).alloc (.cells #[.int .i64 j.Id, .int .i64 j.Prio, .int .i64 j.Nodes, .int .i64 j.Need.A, .int .i64 j.Need.B, .int .i64 j.Need.C, .int .i64 j.Lic.A, .int .i64 j.Lic.B, .int .i64 j.Lic.C, .int .i64 j.Wall, .int .i64 j.Level] 62)) (w.heap.size + 1 + 1) (by simp) #[.slice none 0 0, .slice none 0 0, .slice none 0 0, .slice none 0 0, .slice none 0 0] 98 0)
    have qf1 := ((hb1.trans (hb2.trans hb3)).frozenEq (a := ⟨w.heap.size + 1 + 1, 1, none⟩) (by simp)).trans (frozen_box_at ((w.alloc (.cells #[.slice A1 ps.length c1, .slice A2 ns.length c2, .slice A3 up.length c3, .slice A4 pl.length c4, .slice A5 lic.length c5] 98)).alloc (.cells #[.int .i64 j.Id, .int .i64 j.Prio, .int .i64 j.Nodes, .int .i64 j.Need.A, .int .i64 j.Need.B, .int .i64 j.Need.C, .int .i64 j.Lic.A, .int .i64 j.Lic.B, .int .i64 j.Lic.C, .int .i64 j.Wall, .int .i64 j.Level] 62)) (w.heap.size + 1 + 1) (by simp) #[.slice none 0 0, .slice none 0 0, .slice none 0 0, .slice none 0 0, .slice none 0 0] 98 1)
    have qf2 := ((hb1.trans (hb2.trans hb3)).frozenEq (a := ⟨w.heap.size + 1 + 1, 2, none⟩) (by simp)).trans (frozen_box_at ((w.alloc (.cells #[.slice A1 ps.length c1, .slice A2 ns.length c2, .slice A3 up.length c3, .slice A4 pl.length c4, .slice A5 lic.length c5] 98)).alloc (.cells #[.int .i64 j.Id, .int .i64 j.Prio, .int .i64 j.Nodes, .int .i64 j.Need.A, .int .i64 j.Need.B, .int .i64 j.Need.C, .int .i64 j.Lic.A, .int .i64 j.Lic.B, .int .i64 j.Lic.C, .int .i64 j.Wall, .int .i64 j.Level] 62)) (w.heap.size + 1 + 1) (by simp) #[.slice none 0 0, .slice none 0 0, .slice none 0 0, .slice none 0 0, .slice none 0 0] 98 2)
    have qf3 := ((hb1.trans (hb2.trans hb3)).frozenEq (a := ⟨w.heap.size + 1 + 1, 3, none⟩) (by simp)).trans (frozen_box_at ((w.alloc (.cells #[.slice A1 ps.length c1, .slice A2 ns.length c2, .slice A3 up.length c3, .slice A4 pl.length c4, .slice A5 lic.length c5] 98)).alloc (.cells #[.int .i64 j.Id, .int .i64 j.Prio, .int .i64 j.Nodes, .int .i64 j.Need.A, .int .i64 j.Need.B, .int .i64 j.Need.C, .int .i64 j.Lic.A, .int .i64 j.Lic.B, .int .i64 j.Lic.C, .int .i64 j.Wall, .int .i64 j.Level] 62)) (w.heap.size + 1 + 1) (by simp) #[.slice none 0 0, .slice none 0 0, .slice none 0 0, .slice none 0 0, .slice none 0 0] 98 3)
    have qf4 := ((hb1.trans (hb2.trans hb3)).frozenEq (a := ⟨w.heap.size + 1 + 1, 4, none⟩) (by simp)).trans (frozen_box_at ((w.alloc (.cells #[.slice A1 ps.length c1, .slice A2 ns.length c2, .slice A3 up.length c3, .slice A4 pl.length c4, .slice A5 lic.length c5] 98)).alloc (.cells #[.int .i64 j.Id, .int .i64 j.Prio, .int .i64 j.Nodes, .int .i64 j.Need.A, .int .i64 j.Need.B, .int .i64 j.Need.C, .int .i64 j.Lic.A, .int .i64 j.Lic.B, .int .i64 j.Lic.C, .int .i64 j.Wall, .int .i64 j.Level] 62)) (w.heap.size + 1 + 1) (by simp) #[.slice none 0 0, .slice none 0 0, .slice none 0 0, .slice none 0 0, .slice none 0 0] 98 4)
    have hql := lt_of_cell q0
    have HXF := Lib.hid (((((Ext.refl w).alloc _).alloc _).alloc _).trans (hb1.trans (hb2.trans hb3)))
    clear HRO HCP HH HAJ H3 HNL HR HNI HPLN hcr1 hfr1 hcr2 hfr2 hcr3 hfr3 hb1 hb2 hb3
    go_wp2
    exact bodyPost_ret (v := .tuple #[.agg #[.slice none 0 0, .slice none 0 0, .slice none 0 0, .slice none 0 0, .slice none 0 0], .bool false]) (by simp [results, Tryz.results88, go_sem, *]) rfl (retRoom_none rfl (HXF.out.five (by omega) _ _ _ _ _))
  · have HNN := Lib.hid (HNI.out hn)
    simp only [Bool.and_self, if_true]
    have HMV := Lib.hid (show moveM fr te j nodes (pl, lic) = (match takeAll fr te j.Need nodes pl with
      | none => none
      | some ps => match takeQ lic fr te j.Lic with
        | none => none
        | some l => some (ps, l)) from rfl)
    generalize moveM fr te j nodes (pl, lic) = R at *
    clear hj hn
    go_enter Tryz.func88, Tryz.ntmps88
    go_wp2_with fail
    refine (HRO.out _ (by repeat (first | exact Ext.refl _ | assumption | apply Ext.alloc | apply Ext.drewN | apply Ext.drew | (refine Ext.setCell ?_ (by first | (simp; done) | (simp; omega) | omega) _) | (refine Ext.trans ?_ (by assumption))))).mono ?_
    rintro e w1 ⟨rfl, hb1⟩
    obtain ⟨hcr1, hfr1, hz1⟩ := hb1.rules
    (try simp at hz1)
    have hy1_w0 : w.heap.size < w1.heap.size := (by omega)
    have hy1_w1 : w.heap.size + 1 < w1.heap.size := (by omega)
    have hy1_w2 : w.heap.size + 1 + 1 < w1.heap.size := (by omega)
    go_wp2_with fail
    refine (HJO.out _).mono ?_
    rintro e w2 ⟨rfl, hb2⟩
    obtain ⟨hcr2, hfr2, hz2⟩ := hb2.rules
    (try simp at hz2)
    have hy2_w0 : w.heap.size < w2.heap.size := (by omega)
    have hy2_w1 : w.heap.size + 1 < w2.heap.size := (by omega)
    have hy2_w2 : w.heap.size + 1 + 1 < w2.heap.size := (by omega)
    go_wp2_with fail
    refine (HAJ.out _ (by repeat (first | exact Ext.refl _ | assumption | apply Ext.alloc | apply Ext.drewN | apply Ext.drew | (refine Ext.setCell ?_ (by first | (simp; done) | (simp; omega) | omega) _) | (refine Ext.trans ?_ (by assumption))))).mono ?_
    rintro e w3 ⟨rfl, hb3⟩
    obtain ⟨hcr3, hfr3, hz3⟩ := hb3.rules
    (try simp at hz3)
    have hy3_w0 : w.heap.size < w3.heap.size := (by omega)
    have hy3_w1 : w.heap.size + 1 < w3.heap.size := (by omega)
    have hy3_w2 : w.heap.size + 1 + 1 < w3.heap.size := (by omega)
    have hx3 : Ext w w3 := (by repeat (first | exact Ext.refl _ | assumption | apply Ext.alloc | apply Ext.drewN | apply Ext.drew | (refine Ext.setCell ?_ (by first | (simp; done) | (simp; omega) | omega) _) | (refine Ext.trans ?_ (by assumption))))
    go_wp2_with fail
    refine (HCP.out _ hx3).mono ?_
    rintro e w5 ⟨B1, d1, B2, d2, B3, d3, B4, d4, B5, d5, rfl, hro, hb5⟩
    have HRM := Lib.hid hro
    have hx5 : Ext w w5 := hx3.trans hb5
    have HX5 := Lib.hid (show Ext (((w.alloc (.cells #[.slice A1 ps.length c1, .slice A2 ns.length c2, .slice A3 up.length c3, .slice A4 pl.length c4, .slice A5 lic.length c5] 98)).alloc (.cells #[.int .i64 j.Id, .int .i64 j.Prio, .int .i64 j.Nodes, .int .i64 j.Need.A, .int .i64 j.Need.B, .int .i64 j.Need.C, .int .i64 j.Lic.A, .int .i64 j.Lic.B, .int .i64 j.Lic.C, .int .i64 j.Wall, .int .i64 j.Level] 62)).alloc (.cells #[.slice none 0 0, .slice none 0 0, .slice none 0 0, .slice none 0 0, .slice none 0 0] 98)) w5 from hb1.trans (hb2.trans (hb3.trans hb5)))
    have hz5 := hb5.le
    have hz9 : w.heap.size + 1 + 1 + 1 ≤ w3.heap.size := by omega
    have HRB := Lib.hid (hro.base (lo' := w.heap.size + 1 + 1 + 1) hz9)
    clear hro hcr1 hfr1 hcr2 hfr2 hcr3 hfr3 hb1 hb2 hb3 hb5 hx3
    have HBX5 := Lib.hid (show (w5.alloc (.cells #[.slice B1 ps.length d1, .slice B2 ns.length d2, .slice B3 up.length d3, .slice B4 pl.length d4, .slice B5 lic.length d5] 98)).ownsRow (w.heap.size + 1 + 1 + 1) 98 5 (.slice (some ⟨w5.heap.size, 0, none⟩) 1 1) 1 [.slice B1 ps.length d1, .slice B2 ns.length d2, .slice B3 up.length d3, .slice B4 pl.length d4, .slice B5 lic.length d5] from owns_base (gbox w5 [.slice B1 ps.length d1, .slice B2 ns.length d2, .slice B3 up.length d3, .slice B4 pl.length d4, .slice B5 lic.length d5] 98 5 rfl) (by omega))
    have hzb : (w.heap.size + 1 + 1 + 1) ≤ w5.heap.size := by omega
    go_wp2
    go_loopw [42] (fun iv wr => ∃ (k : Nat) (ql : List (List Pt)), k ≤ n ∧ iv = .int .i64 k ∧ Hid (takeAll fr te j.Need nodes pl = takeAll fr te j.Need (nodes.drop k) ql) ∧ Hid (RoomO wr (w.heap.size + 1 + 1 + 1) ps ns up (ql, lic) B1 d1 B2 d2 B3 d3 B4 d4 B5 d5) ∧ Hid (ql.length = ns.length ∧ ∀ p ∈ ql, profB p = true) ∧ Hid (wr.ownsRow (w.heap.size + 1 + 1 + 1) 98 5 (.slice (some ⟨w5.heap.size, 0, none⟩) 1 1) 1 [.slice B1 ps.length d1, .slice B2 ns.length d2, .slice B3 up.length d3, .slice B4 pl.length d4, .slice B5 lic.length d5]) ∧ Ext (((w.alloc (.cells #[.slice A1 ps.length c1, .slice A2 ns.length c2, .slice A3 up.length c3, .slice A4 pl.length c4, .slice A5 lic.length c5] 98)).alloc (.cells #[.int .i64 j.Id, .int .i64 j.Prio, .int .i64 j.Nodes, .int .i64 j.Need.A, .int .i64 j.Need.B, .int .i64 j.Need.C, .int .i64 j.Lic.A, .int .i64 j.Lic.B, .int .i64 j.Lic.C, .int .i64 j.Wall, .int .i64 j.Level] 62)).alloc (.cells #[.slice none 0 0, .slice none 0 0, .slice none 0 0, .slice none 0 0, .slice none 0 0] 98)) wr) (fun iv _ => n - (intOf iv).toNat)
    case atStart => exact ⟨0, pl, Nat.zero_le _, rfl, Lib.hid rfl, Lib.hid (HRB.out.ext ((Ext.refl _).alloc _)), Lib.hid ⟨HPLN.out, HR.out.2.1⟩, HBX5, HX5.out.alloc _⟩
    case round =>
      clear HBX5 hx5 HRO HCP HJO HAJ HH HNI HRM HRB hy1_w0 hy1_w1 hy1_w2 hy2_w0 hy2_w1 hy2_w2 hy3_w0 hy3_w1 hy3_w2 hz1 hz2 hz3 hz5 hM hl3'
      obtain ⟨k, ql, hk, rfl, HTA, HRO2, HQ, HBX, hb⟩ := hrel
      by_cases hlt : k < n
      · obtain ⟨bq, oq, x, cs, rfl, hbw, hx2, _, hc, rfl, hok⟩ := (H3.out wr ((((((Ext.refl w).alloc _).alloc _).alloc _)).trans hb)).at_ hlt
        have g0 := hc 0 _ rfl
        simp only [Nat.mul_one, Nat.add_zero] at g0
        have HST := Lib.hid (take_step (fr := fr) (te := te) (v := j.Need) (pl := ql) hx2)
        obtain ⟨hxa, hxb⟩ := nodesIn_at HNN.out (List.mem_of_getElem? hx2)
        obtain ⟨i, rfl⟩ := Int.eq_ofNat_of_zero_le hxa
        obtain ⟨p, hp⟩ : ∃ p, ql[i]? = some p := ⟨_, List.getElem?_eq_getElem (by have := HQ.out.1; omega)⟩
        obtain ⟨g, rfl, hg1, hg2⟩ := HRO2.out.pro.form (by have := HQ.out.1; simp only []; omega)
        obtain ⟨Ap, cp, hcell, hsp, hfz, _, _⟩ := HRO2.out.pro.get hp
        have HPV := Lib.hid (HQ.out.2 p (List.mem_of_getElem? hp))
        have hpl200 := (profB_parts HPV.out).2.1
        have HTK := Lib.hid (fun (u : World) (e : Ext wr u) => ProfTake_c p fr te j.Need Ap p.length cp u (hsp.ext (Flat.mono _ _) e) (by unfold maxLen; omega))
        have HIL := Lib.hid (show (i : Int) < (pl.length : Int) by rw [HPLN.out]; omega)
        have hil := HIL.out
        have HII := Lib.hid (show i < ql.length by have h1 := HQ.out.1; omega)
        have hil2 : i < pl.length := by omega
        have HGD := Lib.hid (show ql.getD ((i : Int)).toNat [] = p by simp [List.getD, hp])
        rw [HGD.out] at HST
        have HTV := Lib.hid (fun (o : List Pt) (h : takeQ p fr te j.Need = some o) => takeQ_valid h)
        generalize takeQ p fr te j.Need = tq at *
        obtain ⟨t0, t1, t2, t3, t4, tf0, tf1, tf2, tf3, tf4, tl⟩ := gcells5 HBX.out
        have hx2b := HX5.out
        have hbw2 := hb
        have j3 := (((Ext.refl _).alloc _).trans hb).cell (cell_box_at (w.alloc (.cells #[.slice A1 ps.length c1, .slice A2 ns.length c2, .slice A3 up.length c3, .slice A4 pl.length c4, .slice A5 lic.length c5] 98)) (w.heap.size + 1) (by simp) [.int .i64 j.Id, .int .i64 j.Prio, .int .i64 j.Nodes, .int .i64 j.Need.A, .int .i64 j.Need.B, .int .i64 j.Need.C, .int .i64 j.Lic.A, .int .i64 j.Lic.B, .int .i64 j.Lic.C, .int .i64 j.Wall, .int .i64 j.Level] 62 3 _ rfl)
        have j4 := (((Ext.refl _).alloc _).trans hb).cell (cell_box_at (w.alloc (.cells #[.slice A1 ps.length c1, .slice A2 ns.length c2, .slice A3 up.length c3, .slice A4 pl.length c4, .slice A5 lic.length c5] 98)) (w.heap.size + 1) (by simp) [.int .i64 j.Id, .int .i64 j.Prio, .int .i64 j.Nodes, .int .i64 j.Need.A, .int .i64 j.Need.B, .int .i64 j.Need.C, .int .i64 j.Lic.A, .int .i64 j.Lic.B, .int .i64 j.Lic.C, .int .i64 j.Wall, .int .i64 j.Level] 62 4 _ rfl)
        have j5 := (((Ext.refl _).alloc _).trans hb).cell (cell_box_at (w.alloc (.cells #[.slice A1 ps.length c1, .slice A2 ns.length c2, .slice A3 up.length c3, .slice A4 pl.length c4, .slice A5 lic.length c5] 98)) (w.heap.size + 1) (by simp) [.int .i64 j.Id, .int .i64 j.Prio, .int .i64 j.Nodes, .int .i64 j.Need.A, .int .i64 j.Need.B, .int .i64 j.Need.C, .int .i64 j.Lic.A, .int .i64 j.Lic.B, .int .i64 j.Lic.C, .int .i64 j.Wall, .int .i64 j.Level] 62 5 _ rfl)
        have hj3 := lt_of_cell j3
        have HCELL := Lib.hid hcell
        have HFZ := Lib.hid hfz
        have HT3 := Lib.hid t3
        have HLW := Lib.hid (show (w.heap.size + 1 + 1 + 1) ≤ wr.heap.size from by have := hb.le; simp at this; omega)
        clear hx2 hc hok hsp hp hx2b t0 t1 t2 t4 tf0 tf1 tf2 tf4 hbw2
        have HKS := Lib.hid (fun (u : World) (e : Ext wr u) => show Ext wr u ∧ u.cell? ⟨w5.heap.size, 3, none⟩ = some (.slice (some ⟨g, 0, none⟩) pl.length d4) ∧ u.cell? ⟨g, i, none⟩ = some (.slice Ap p.length cp) ∧ u.cell? ⟨w.heap.size + 1, 3, none⟩ = some (.int .i64 j.Need.A) ∧ u.cell? ⟨w.heap.size + 1, 4, none⟩ = some (.int .i64 j.Need.B) ∧ u.cell? ⟨w.heap.size + 1, 5, none⟩ = some (.int .i64 j.Need.C) from ⟨e, e.cell HT3.out, e.cell HCELL.out, e.cell j3, e.cell j4, e.cell j5⟩)
        go_upto_region 7 with fail
        go_cut [17, 18, 42] from 42 to 68 (fun s17 s18 s42 wx => ∃ bz A6 c6 n6, s17 = .pointer (some ⟨bz, 0, none⟩) ∧ s18 = .bool tq.isSome ∧ s42 = .int .i64 (k : Int) ∧ wr.heap.size ≤ bz ∧ Hid (∀ l, tq = some l → n6 = l.length ∧ wx.ownsRow (w.heap.size + 1 + 1 + 1) 150 4 (.slice A6 l.length c6) l.length (l.flatMap Pt.enc) ∧ ∀ y ∈ l, y.ok) ∧ Hid (wx.ownsRow wr.heap.size 96 1 (.slice (some ⟨bz, 0, none⟩) 1 1) 1 [.slice A6 n6 c6]) ∧ Ext wr wx)
        case first =>
          go_region_held3 (fun u => Ext wr u ∧ u.cell? ⟨w5.heap.size, 3, none⟩ = some (.slice (some ⟨g, 0, none⟩) pl.length d4) ∧ u.cell? ⟨g, i, none⟩ = some (.slice Ap p.length cp) ∧ u.cell? ⟨w.heap.size + 1, 3, none⟩ = some (.int .i64 j.Need.A) ∧ u.cell? ⟨w.heap.size + 1, 4, none⟩ = some (.int .i64 j.Need.B) ∧ u.cell? ⟨w.heap.size + 1, 5, none⟩ = some (.int .i64 j.Need.C)) ((refine HKS.out _ ?_; first | exact (Ext.refl _).drew | assumption | exact ((Ext.refl _).drew).alloc _ | exact HE6.out | exact HE6.out.alloc _ | exact HE6.out.setCell (Nat.le_refl _) _)) (first | (go_at_call 89; (with_reducible refine (HTK.out _ (by repeat (first | exact Ext.refl _ | apply Ext.alloc | apply Ext.drew))).mono ?_); rintro e w6 ⟨A6, c6, l, rfl, hR6, ho6, hy6, hb6⟩; have HE6 := Lib.hid (show Ext wr w6 from Ext.trans (by repeat (first | exact Ext.refl _ | apply Ext.alloc | apply Ext.drew)) hb6); have hl6 := HE6.out.le; have HO6 := Lib.hid (owns_base ho6 (show (w.heap.size + 1 + 1 + 1) ≤ _ from (by first | omega | (simp; omega)))); have HR6 := Lib.hid hR6; (first | (have HB6 := Lib.hid (owns_ext (gbox wr [.slice none 0 0] 96 1 rfl) hb6); obtain ⟨m0, mf0, ml0⟩ := gcells1 HB6.out) | (have HB6 := Lib.hid (owns_ext (gbox wr [.slice none 0 0] 96 1 rfl) (((Ext.refl _).drew).trans hb6)); obtain ⟨m0, mf0, ml0⟩ := gcells1 HB6.out) | skip); clear hR6 ho6))
          all_goals
            go_wp2_with fail
            go_meet
            first
              | exact ⟨_, A6, c6, l.length, rfl, rfl, rfl, by first | omega | (simp; omega), Lib.hid (fun l2 h2 => by rcases HR6.out with h6 | ⟨h6, _⟩; (rw [h6] at h2; injection h2 with h2; subst h2; exact ⟨rfl, owns_ext HO6.out ((Ext.refl _).alloc _), hy6⟩); (rw [h6] at h2; cases h2)), Lib.hid (owns_base (gbox w6 [.slice A6 l.length c6] 96 1 rfl) hl6), HE6.out.alloc _⟩
              | exact ⟨_, A6, c6, l.length, rfl, rfl, rfl, Nat.le_refl _, Lib.hid (fun l2 h2 => by rcases HR6.out with h6 | ⟨h6, _⟩; (rw [h6] at h2; injection h2 with h2; subst h2; exact ⟨rfl, g_far HO6.out (fun e => g_apart HO6.out HB6.out (by decide) _ e rfl), hy6⟩); (rw [h6] at h2; cases h2)), Lib.hid (HB6.out.stored 0 _).1, HE6.out.setCell (Nat.le_refl _) _⟩
        case rest =>
          obtain ⟨bz, A6, c6, n6, rfl, rfl, rfl, hbz, HFT, HFB, hx⟩ := hcut
          have hlz := HLW.out
          have hbz1 : w5.heap.size ≠ bz := by omega
          have hbz2 : g ≠ bz := by omega
          have hbz3 : w.heap.size + 1 + 1 ≠ bz := by omega
          have HBW := Lib.hid (hb.trans hx)
          have hxz := hx.le
          obtain ⟨m0, mf0, ml0⟩ := gcells1 HFB.out
          clear hcell hfz t3 tf3 j3 j4 j5
          rcases tq with _ | l
          · have HRN := Lib.hid (show R = none by rw [HMV.out, HTA.out, HST.out])
            have HXF := Lib.hid (((((Ext.refl w).alloc _).alloc _).alloc _).trans (hb.trans hx))
            clear hb hx
            clear tl hg2 HFT HFB HRO2 HBX HTK HKS HST HTA HQ HCELL HFZ HT3 HGD HTV HPV HIL HNN HX5 HPLN HR H3 HMV m0 mf0 ml0 hil hil2
            have q0 := (HBW.out).cell (cell_box_at ((w.alloc (.cells #[.slice A1 ps.length c1, .slice A2 ns.length c2, .slice A3 up.length c3, .slice A4 pl.length c4, .slice A5 lic.length c5] 98)).alloc (.cells #[.int .i64 j.Id, .int .i64 j.Prio, .int .i64 j.Nodes, .int .i64 j.Need.A, .int .i64 j.Need.B, .int .i64 j.Need.C, .int .i64 j.Lic.A, .int .i64 j.Lic.B, .int .i64 j.Lic.C, .int .i64 j.Wall, .int .i64 j.Level] 62)) (w.heap.size + 1 + 1) (by simp) [.slice none 0 0, .slice none 0 0, .slice none 0 0, .slice none 0 0, .slice none 0 0] 98 0 _ rfl)
            have q1 := (HBW.out).cell (cell_box_at ((w.alloc (.cells #[.slice A1 ps.length c1, .slice A2 ns.length c2, .slice A3 up.length c3, .slice A4 pl.length c4, .slice A5 lic.length c5] 98)).alloc (.cells #[.int .i64 j.Id, .int .i64 j.Prio, .int .i64 j.Nodes, .int .i64 j.Need.A, .int .i64 j.Need.B, .int .i64 j.Need.C, .int .i64 j.Lic.A, .int .i64 j.Lic.B, .int .i64 j.Lic.C, .int .i64 j.Wall, .int .i64 j.Level] 62)) (w.heap.size + 1 + 1) (by simp) [.slice none 0 0, .slice none 0 0, .slice none 0 0, .slice none 0 0, .slice none 0 0] 98 1 _ rfl)
            have q2 := (HBW.out).cell (cell_box_at ((w.alloc (.cells #[.slice A1 ps.length c1, .slice A2 ns.length c2, .slice A3 up.length c3, .slice A4 pl.length c4, .slice A5 lic.length c5] 98)).alloc (.cells #[.int .i64 j.Id, .int .i64 j.Prio, .int .i64 j.Nodes, .int .i64 j.Need.A, .int .i64 j.Need.B, .int .i64 j.Need.C, .int .i64 j.Lic.A, .int .i64 j.Lic.B, .int .i64 j.Lic.C, .int .i64 j.Wall, .int .i64 j.Level] 62)) (w.heap.size + 1 + 1) (by simp) [.slice none 0 0, .slice none 0 0, .slice none 0 0, .slice none 0 0, .slice none 0 0] 98 2 _ rfl)
            have q3 := (HBW.out).cell (cell_box_at ((w.alloc (.cells #[.slice A1 ps.length c1, .slice A2 ns.length c2, .slice A3 up.length c3, .slice A4 pl.length c4, .slice A5 lic.length c5] 98)).alloc (.cells #[.int .i64 j.Id, .int .i64 j.Prio, .int .i64 j.Nodes, .int .i64 j.Need.A, .int .i64 j.Need.B, .int .i64 j.Need.C, .int .i64 j.Lic.A, .int .i64 j.Lic.B, .int .i64 j.Lic.C, .int .i64 j.Wall, .int .i64 j.Level] 62)) (w.heap.size + 1 + 1) (by simp) [.slice none 0 0, .slice none 0 0, .slice none 0 0, .slice none 0 0, .slice none 0 0] 98 3 _ rfl)
            have q4 := (HBW.out).cell (cell_box_at ((w.alloc (.cells #[.slice A1 ps.length c1, .slice A2 ns.length c2, .slice A3 up.length c3, .slice A4 pl.length c4, .slice A5 lic.length c5] 98)).alloc (.cells #[.int .i64 j.Id, .int .i64 j.Prio, .int .i64 j.Nodes, .int .i64 j.Need.A, .int .i64 j.Need.B, .int .i64 j.Need.C, .int .i64 j.Lic.A, .int .i64 j.Lic.B, .int .i64 j.Lic.C, .int .i64 j.Wall, .int .i64 j.Level] 62)) (w.heap.size + 1 + 1) (by simp) [.slice none 0 0, .slice none 0 0, .slice none 0 0, .slice none 0 0, .slice none 0 0] 98 4 _ rfl)
            have qf0 := ((HBW.out).frozenEq (a := ⟨w.heap.size + 1 + 1, 0, none⟩) (by simp)).trans (frozen_box_at ((w.alloc (.cells #[.slice A1 ps.length c1, .slice A2 ns.length c2, .slice A3 up.length c3, .slice A4 pl.length c4, .slice A5 lic.length c5] 98)).alloc (.cells #[.int .i64 j.Id, .int .i64 j.Prio, .int .i64 j.Nodes, .int .i64 j.Need.A, .int .i64 j.Need.B, .int .i64 j.Need.C, .int .i64 j.Lic.A, .int .i64 j.Lic.B, .int .i64 j.Lic.C, .int .i64 j.Wall, .int .i64 j.Level] 62)) (w.heap.size + 1 + 1) (by simp) #[.slice none 0 0, .slice none 0 0, .slice none 0 0, .slice none 0 0, .slice none 0 0] 98 0)
            have qf1 := ((HBW.out).frozenEq (a := ⟨w.heap.size + 1 + 1, 1, none⟩) (by simp)).trans (frozen_box_at ((w.alloc (.cells #[.slice A1 ps.length c1, .slice A2 ns.length c2, .slice A3 up.length c3, .slice A4 pl.length c4, .slice A5 lic.length c5] 98)).alloc (.cells #[.int .i64 j.Id, .int .i64 j.Prio, .int .i64 j.Nodes, .int .i64 j.Need.A, .int .i64 j.Need.B, .int .i64 j.Need.C, .int .i64 j.Lic.A, .int .i64 j.Lic.B, .int .i64 j.Lic.C, .int .i64 j.Wall, .int .i64 j.Level] 62)) (w.heap.size + 1 + 1) (by simp) #[.slice none 0 0, .slice none 0 0, .slice none 0 0, .slice none 0 0, .slice none 0 0] 98 1)
            have qf2 := ((HBW.out).frozenEq (a := ⟨w.heap.size + 1 + 1, 2, none⟩) (by simp)).trans (frozen_box_at ((w.alloc (.cells #[.slice A1 ps.length c1, .slice A2 ns.length c2, .slice A3 up.length c3, .slice A4 pl.length c4, .slice A5 lic.length c5] 98)).alloc (.cells #[.int .i64 j.Id, .int .i64 j.Prio, .int .i64 j.Nodes, .int .i64 j.Need.A, .int .i64 j.Need.B, .int .i64 j.Need.C, .int .i64 j.Lic.A, .int .i64 j.Lic.B, .int .i64 j.Lic.C, .int .i64 j.Wall, .int .i64 j.Level] 62)) (w.heap.size + 1 + 1) (by simp) #[.slice none 0 0, .slice none 0 0, .slice none 0 0, .slice none 0 0, .slice none 0 0] 98 2)
            have qf3 := ((HBW.out).frozenEq (a := ⟨w.heap.size + 1 + 1, 3, none⟩) (by simp)).trans (frozen_box_at ((w.alloc (.cells #[.slice A1 ps.length c1, .slice A2 ns.length c2, .slice A3 up.length c3, .slice A4 pl.length c4, .slice A5 lic.length c5] 98)).alloc (.cells #[.int .i64 j.Id, .int .i64 j.Prio, .int .i64 j.Nodes, .int .i64 j.Need.A, .int .i64 j.Need.B, .int .i64 j.Need.C, .int .i64 j.Lic.A, .int .i64 j.Lic.B, .int .i64 j.Lic.C, .int .i64 j.Wall, .int .i64 j.Level] 62)) (w.heap.size + 1 + 1) (by simp) #[.slice none 0 0, .slice none 0 0, .slice none 0 0, .slice none 0 0, .slice none 0 0] 98 3)
            have qf4 := ((HBW.out).frozenEq (a := ⟨w.heap.size + 1 + 1, 4, none⟩) (by simp)).trans (frozen_box_at ((w.alloc (.cells #[.slice A1 ps.length c1, .slice A2 ns.length c2, .slice A3 up.length c3, .slice A4 pl.length c4, .slice A5 lic.length c5] 98)).alloc (.cells #[.int .i64 j.Id, .int .i64 j.Prio, .int .i64 j.Nodes, .int .i64 j.Need.A, .int .i64 j.Need.B, .int .i64 j.Need.C, .int .i64 j.Lic.A, .int .i64 j.Lic.B, .int .i64 j.Lic.C, .int .i64 j.Wall, .int .i64 j.Level] 62)) (w.heap.size + 1 + 1) (by simp) #[.slice none 0 0, .slice none 0 0, .slice none 0 0, .slice none 0 0, .slice none 0 0] 98 4)
            have hql := lt_of_cell q0
            go_wp2
            exact bodyPost_ret (v := .tuple #[.agg #[.slice none 0 0, .slice none 0 0, .slice none 0 0, .slice none 0 0, .slice none 0 0], .bool false]) (by simp [results, Tryz.results88, go_sem, *]) rfl (retRoom_none HRN.out (HXF.out.five (by omega) _ _ _ _ _))
          · obtain rfl := (HFT.out l rfl).1
            have HOL := Lib.hid (HFT.out l rfl).2
            have hcl2 := hx.cell HCELL.out
            have hfz2 := (hx.frozenEq (a := ⟨g, i, none⟩) hg2).trans HFZ.out
            have u3 := hx.cell HT3.out
            have hg3 : g < wc.heap.size := by omega
            have hb3 : w5.heap.size < wc.heap.size := by omega
            clear HTK HKS HCELL HFZ HT3 HGD HPV HX5 HR H3 HMV HBW
            go_wp2
            go_roundw
            case rel => exact ⟨k + 1, ql.set i l, by omega, by go_num, Lib.hid (by rw [HTA.out, HST.out]; simp), Lib.hid ((HRO2.out.ext hx).setp HII.out HOL.out.1 HOL.out.2), Lib.hid ⟨by rw [List.length_set]; exact HQ.out.1, fun q hq => (List.mem_or_eq_of_mem_set hq).elim (HQ.out.2 q) (fun e => by rw [e]; exact HTV.out l rfl)⟩, Lib.hid ((HRO2.out.ext hx).box_far (owns_ext HBX.out hx)), (hb.trans hx).setCell (by simp; omega) _⟩
            case measure => simp [intOf]; omega
      · obtain rfl : k = n := by omega
        have HTN := Lib.hid (show takeAll fr te j.Need nodes pl = some ql by rw [HTA.out, List.drop_eq_nil_of_le (by have := HNL.out; omega)]; rfl)
        have HLW := Lib.hid (show (w.heap.size + 1 + 1 + 1) ≤ wr.heap.size from by have := hb.le; simp at this; omega)
        have hl200 := (profB_parts HR.out.2.2).2.1
        have HTL := Lib.hid (fun (u : World) (e : Ext wr u) => ProfTake_c lic fr te j.Lic B5 lic.length d5 u ((owns_sl Pt.size HRO2.out.lic HRO2.out.ok3).ext (Flat.mono _ _) e) (by unfold maxLen; simp only [] at hl200; omega))
        have HMW := Lib.hid (show R = (match takeQ lic fr te j.Lic with | none => none | some l => some (ql, l)) by rw [HMV.out, HTN.out])
        generalize takeQ lic fr te j.Lic = tq at *
        obtain ⟨t0, t1, t2, t3, t4, tf0, tf1, tf2, tf3, tf4, tl⟩ := gcells5 HBX.out
        have j6 := (((Ext.refl _).alloc _).trans hb).cell (cell_box_at (w.alloc (.cells #[.slice A1 ps.length c1, .slice A2 ns.length c2, .slice A3 up.length c3, .slice A4 pl.length c4, .slice A5 lic.length c5] 98)) (w.heap.size + 1) (by simp) [.int .i64 j.Id, .int .i64 j.Prio, .int .i64 j.Nodes, .int .i64 j.Need.A, .int .i64 j.Need.B, .int .i64 j.Need.C, .int .i64 j.Lic.A, .int .i64 j.Lic.B, .int .i64 j.Lic.C, .int .i64 j.Wall, .int .i64 j.Level] 62 6 _ rfl)
        have j7 := (((Ext.refl _).alloc _).trans hb).cell (cell_box_at (w.alloc (.cells #[.slice A1 ps.length c1, .slice A2 ns.length c2, .slice A3 up.length c3, .slice A4 pl.length c4, .slice A5 lic.length c5] 98)) (w.heap.size + 1) (by simp) [.int .i64 j.Id, .int .i64 j.Prio, .int .i64 j.Nodes, .int .i64 j.Need.A, .int .i64 j.Need.B, .int .i64 j.Need.C, .int .i64 j.Lic.A, .int .i64 j.Lic.B, .int .i64 j.Lic.C, .int .i64 j.Wall, .int .i64 j.Level] 62 7 _ rfl)
        have j8 := (((Ext.refl _).alloc _).trans hb).cell (cell_box_at (w.alloc (.cells #[.slice A1 ps.length c1, .slice A2 ns.length c2, .slice A3 up.length c3, .slice A4 pl.length c4, .slice A5 lic.length c5] 98)) (w.heap.size + 1) (by simp) [.int .i64 j.Id, .int .i64 j.Prio, .int .i64 j.Nodes, .int .i64 j.Need.A, .int .i64 j.Need.B, .int .i64 j.Need.C, .int .i64 j.Lic.A, .int .i64 j.Lic.B, .int .i64 j.Lic.C, .int .i64 j.Wall, .int .i64 j.Level] 62 8 _ rfl)
        have hj6 := lt_of_cell j6
        clear t0 t1 t2 t3 tf0 tf1 tf2 tf3 tf4
        go_wp2_with fail
        refine (HTL.out _ (Ext.refl _)).mono ?_
        rintro e w6 ⟨A6, c6, l, rfl, hR6, ho6, hy6, hb6⟩
        have hlz := HLW.out
        have hz6 := hb6.le
        have HO6 := Lib.hid (owns_base ho6 hlz)
        have HBW := Lib.hid (hb.trans hb6)
        have HR6 := Lib.hid hR6
        clear t4 j6 j7 j8 ho6 hR6
        have q0 := (HBW.out).cell (cell_box_at ((w.alloc (.cells #[.slice A1 ps.length c1, .slice A2 ns.length c2, .slice A3 up.length c3, .slice A4 pl.length c4, .slice A5 lic.length c5] 98)).alloc (.cells #[.int .i64 j.Id, .int .i64 j.Prio, .int .i64 j.Nodes, .int .i64 j.Need.A, .int .i64 j.Need.B, .int .i64 j.Need.C, .int .i64 j.Lic.A, .int .i64 j.Lic.B, .int .i64 j.Lic.C, .int .i64 j.Wall, .int .i64 j.Level] 62)) (w.heap.size + 1 + 1) (by simp) [.slice none 0 0, .slice none 0 0, .slice none 0 0, .slice none 0 0, .slice none 0 0] 98 0 _ rfl)
        have q1 := (HBW.out).cell (cell_box_at ((w.alloc (.cells #[.slice A1 ps.length c1, .slice A2 ns.length c2, .slice A3 up.length c3, .slice A4 pl.length c4, .slice A5 lic.length c5] 98)).alloc (.cells #[.int .i64 j.Id, .int .i64 j.Prio, .int .i64 j.Nodes, .int .i64 j.Need.A, .int .i64 j.Need.B, .int .i64 j.Need.C, .int .i64 j.Lic.A, .int .i64 j.Lic.B, .int .i64 j.Lic.C, .int .i64 j.Wall, .int .i64 j.Level] 62)) (w.heap.size + 1 + 1) (by simp) [.slice none 0 0, .slice none 0 0, .slice none 0 0, .slice none 0 0, .slice none 0 0] 98 1 _ rfl)
        have q2 := (HBW.out).cell (cell_box_at ((w.alloc (.cells #[.slice A1 ps.length c1, .slice A2 ns.length c2, .slice A3 up.length c3, .slice A4 pl.length c4, .slice A5 lic.length c5] 98)).alloc (.cells #[.int .i64 j.Id, .int .i64 j.Prio, .int .i64 j.Nodes, .int .i64 j.Need.A, .int .i64 j.Need.B, .int .i64 j.Need.C, .int .i64 j.Lic.A, .int .i64 j.Lic.B, .int .i64 j.Lic.C, .int .i64 j.Wall, .int .i64 j.Level] 62)) (w.heap.size + 1 + 1) (by simp) [.slice none 0 0, .slice none 0 0, .slice none 0 0, .slice none 0 0, .slice none 0 0] 98 2 _ rfl)
        have q3 := (HBW.out).cell (cell_box_at ((w.alloc (.cells #[.slice A1 ps.length c1, .slice A2 ns.length c2, .slice A3 up.length c3, .slice A4 pl.length c4, .slice A5 lic.length c5] 98)).alloc (.cells #[.int .i64 j.Id, .int .i64 j.Prio, .int .i64 j.Nodes, .int .i64 j.Need.A, .int .i64 j.Need.B, .int .i64 j.Need.C, .int .i64 j.Lic.A, .int .i64 j.Lic.B, .int .i64 j.Lic.C, .int .i64 j.Wall, .int .i64 j.Level] 62)) (w.heap.size + 1 + 1) (by simp) [.slice none 0 0, .slice none 0 0, .slice none 0 0, .slice none 0 0, .slice none 0 0] 98 3 _ rfl)
        have q4 := (HBW.out).cell (cell_box_at ((w.alloc (.cells #[.slice A1 ps.length c1, .slice A2 ns.length c2, .slice A3 up.length c3, .slice A4 pl.length c4, .slice A5 lic.length c5] 98)).alloc (.cells #[.int .i64 j.Id, .int .i64 j.Prio, .int .i64 j.Nodes, .int .i64 j.Need.A, .int .i64 j.Need.B, .int .i64 j.Need.C, .int .i64 j.Lic.A, .int .i64 j.Lic.B, .int .i64 j.Lic.C, .int .i64 j.Wall, .int .i64 j.Level] 62)) (w.heap.size + 1 + 1) (by simp) [.slice none 0 0, .slice none 0 0, .slice none 0 0, .slice none 0 0, .slice none 0 0] 98 4 _ rfl)
        have qf0 := ((HBW.out).frozenEq (a := ⟨w.heap.size + 1 + 1, 0, none⟩) (by simp)).trans (frozen_box_at ((w.alloc (.cells #[.slice A1 ps.length c1, .slice A2 ns.length c2, .slice A3 up.length c3, .slice A4 pl.length c4, .slice A5 lic.length c5] 98)).alloc (.cells #[.int .i64 j.Id, .int .i64 j.Prio, .int .i64 j.Nodes, .int .i64 j.Need.A, .int .i64 j.Need.B, .int .i64 j.Need.C, .int .i64 j.Lic.A, .int .i64 j.Lic.B, .int .i64 j.Lic.C, .int .i64 j.Wall, .int .i64 j.Level] 62)) (w.heap.size + 1 + 1) (by simp) #[.slice none 0 0, .slice none 0 0, .slice none 0 0, .slice none 0 0, .slice none 0 0] 98 0)
        have qf1 := ((HBW.out).frozenEq (a := ⟨w.heap.size + 1 + 1, 1, none⟩) (by simp)).trans (frozen_box_at ((w.alloc (.cells #[.slice A1 ps.length c1, .slice A2 ns.length c2, .slice A3 up.length c3, .slice A4 pl.length c4, .slice A5 lic.length c5] 98)).alloc (.cells #[.int .i64 j.Id, .int .i64 j.Prio, .int .i64 j.Nodes, .int .i64 j.Need.A, .int .i64 j.Need.B, .int .i64 j.Need.C, .int .i64 j.Lic.A, .int .i64 j.Lic.B, .int .i64 j.Lic.C, .int .i64 j.Wall, .int .i64 j.Level] 62)) (w.heap.size + 1 + 1) (by simp) #[.slice none 0 0, .slice none 0 0, .slice none 0 0, .slice none 0 0, .slice none 0 0] 98 1)
        have qf2 := ((HBW.out).frozenEq (a := ⟨w.heap.size + 1 + 1, 2, none⟩) (by simp)).trans (frozen_box_at ((w.alloc (.cells #[.slice A1 ps.length c1, .slice A2 ns.length c2, .slice A3 up.length c3, .slice A4 pl.length c4, .slice A5 lic.length c5] 98)).alloc (.cells #[.int .i64 j.Id, .int .i64 j.Prio, .int .i64 j.Nodes, .int .i64 j.Need.A, .int .i64 j.Need.B, .int .i64 j.Need.C, .int .i64 j.Lic.A, .int .i64 j.Lic.B, .int .i64 j.Lic.C, .int .i64 j.Wall, .int .i64 j.Level] 62)) (w.heap.size + 1 + 1) (by simp) #[.slice none 0 0, .slice none 0 0, .slice none 0 0, .slice none 0 0, .slice none 0 0] 98 2)
        have qf3 := ((HBW.out).frozenEq (a := ⟨w.heap.size + 1 + 1, 3, none⟩) (by simp)).trans (frozen_box_at ((w.alloc (.cells #[.slice A1 ps.length c1, .slice A2 ns.length c2, .slice A3 up.length c3, .slice A4 pl.length c4, .slice A5 lic.length c5] 98)).alloc (.cells #[.int .i64 j.Id, .int .i64 j.Prio, .int .i64 j.Nodes, .int .i64 j.Need.A, .int .i64 j.Need.B, .int .i64 j.Need.C, .int .i64 j.Lic.A, .int .i64 j.Lic.B, .int .i64 j.Lic.C, .int .i64 j.Wall, .int .i64 j.Level] 62)) (w.heap.size + 1 + 1) (by simp) #[.slice none 0 0, .slice none 0 0, .slice none 0 0, .slice none 0 0, .slice none 0 0] 98 3)
        have qf4 := ((HBW.out).frozenEq (a := ⟨w.heap.size + 1 + 1, 4, none⟩) (by simp)).trans (frozen_box_at ((w.alloc (.cells #[.slice A1 ps.length c1, .slice A2 ns.length c2, .slice A3 up.length c3, .slice A4 pl.length c4, .slice A5 lic.length c5] 98)).alloc (.cells #[.int .i64 j.Id, .int .i64 j.Prio, .int .i64 j.Nodes, .int .i64 j.Need.A, .int .i64 j.Need.B, .int .i64 j.Need.C, .int .i64 j.Lic.A, .int .i64 j.Lic.B, .int .i64 j.Lic.C, .int .i64 j.Wall, .int .i64 j.Level] 62)) (w.heap.size + 1 + 1) (by simp) #[.slice none 0 0, .slice none 0 0, .slice none 0 0, .slice none 0 0, .slice none 0 0] 98 4)
        have hql := lt_of_cell q0
        have hbz4 : w.heap.size + 1 + 1 ≠ w5.heap.size := by omega
        rcases tq with _ | l2
        · have HRN := Lib.hid (show R = none by rw [HMW.out])
          have HXF := Lib.hid (((((Ext.refl w).alloc _).alloc _).alloc _).trans (hb.trans hb6))
          clear tl HTA HRO2 HQ HBX HTN HLW HTL HMW HR6 HO6 hb6 hlz hy6 HPLN HR H3 HMV HX5 HNN hb hj6
          go_wp2
          exact bodyPost_ret (v := .tuple #[.agg #[.slice none 0 0, .slice none 0 0, .slice none 0 0, .slice none 0 0, .slice none 0 0], .bool false]) (by simp [results, Tryz.results88, go_sem, *]) rfl (retRoom_none HRN.out ((HXF.out.five (by omega) _ _ _ _ _).alloc _))
        · obtain rfl : l2 = l := by rcases HR6.out with h6 | ⟨h6, _⟩; (injection h6); (cases h6)
          have HRN := Lib.hid (show R = some (ql, l2) by rw [HMW.out])
          have HBY := Lib.hid (owns_ext HBX.out hb6)
          obtain ⟨t0, t1, t2, t3, t4, tf0, tf1, tf2, tf3, tf4, tl2⟩ := gcells5 HBY.out
          have HRO3 := Lib.hid ((HRO2.out.ext hb6).lics HO6.out hy6)
          have HRO4 := Lib.hid ((((((HRO3.out.far HBY.out (p := 4) (u := .slice A6 l2.length c6)).low (b := w.heap.size + 1 + 1) (p := 0) (u := .slice B1 ps.length d1) (by omega)).low (b := w.heap.size + 1 + 1) (p := 1) (u := .slice B2 ns.length d2) (by omega)).low (b := w.heap.size + 1 + 1) (p := 2) (u := .slice B3 up.length d3) (by omega)).low (b := w.heap.size + 1 + 1) (p := 3) (u := .slice B4 pl.length d4) (by omega)).low (b := w.heap.size + 1 + 1) (p := 4) (u := .slice A6 l2.length c6) (by omega))
          have HXF := Lib.hid ((((((Ext.refl w).alloc _).alloc _).alloc _).trans (hb.trans hb6)).setCell (p := ⟨w5.heap.size, 4, none⟩) (by simp only []; omega) (.slice A6 l2.length c6))
          clear hb hb6
          clear HRO3 HBW HBX HBY HRO2 tl HTA HTN HLW HTL HMW HR6 HO6 hlz hy6 HR H3 HMV HX5 HNN hj6
          go_wp2
          exact bodyPost_ret (v := .tuple #[.agg #[.slice B1 ps.length d1, .slice B2 ns.length d2, .slice B3 up.length d3, .slice B4 pl.length d4, .slice A6 l2.length c6], .bool true]) (by simp [results, Tryz.results88, go_sem, *]) rfl ⟨B1, ps.length, d1, B2, ns.length, d2, B3, up.length, d3, B4, pl.length, d4, A6, l2.length, c6, by rw [HRN.out]; rfl, fun r hr => by rw [HRN.out] at hr; injection hr with hr; subst hr; exact ⟨rfl, rfl, rfl, by rw [HPLN.out]; exact HQ.out.1.symm, rfl, (HRO4.out.ext ((Ext.refl _).alloc _)).base (by omega)⟩, ((HXF.out.five (by omega) _ _ _ _ _).alloc _)⟩
end Go.Proofs.YtfcffcgdbmkfgaaGreat
/-! SRow -/
namespace Go.Proofs.YtfcffcgdbmkfgaaGreat
open Go.RowKit
set_option linter.unusedVariables false
def own0 (w : World) (lo : Nat) (e : TypeId) (sz : Nat) (A : Option Addr) (c n : Nat) (L : List Value) : Prop := n = 0 ∨ w.ownsRow lo e sz (.slice A n c) n L
section
variable {w w' : World} {lo lo' g p : Nat} {e e' : TypeId} {sz sz' : Nat} {A : Option Addr} {c n : Nat} {L : List Value} {u : Value}
theorem own0.ext (h : own0 w lo e sz A c n L) (hb : Ext w w') : own0 w' lo e sz A c n L := h.imp id (fun h => owns_ext h hb)
theorem own0.base (h : own0 w lo e sz A c n L) (hb : lo' ≤ lo) : own0 w lo' e sz A c n L := h.imp id (fun h => owns_base h hb)
theorem own0.low (h : own0 w lo e sz A c n L) (hb : g < lo) : own0 (w.setCell ⟨g, p, none⟩ u) lo e sz A c n L := h.imp id (fun h => own_set h hb)
theorem own0.far {L0 : List Value} {m d : Nat} (h : own0 w lo e sz A c n L) (hbox : w.ownsRow lo' e' sz' (.slice (some ⟨g, 0, none⟩) m d) m L0) (hne : e ≠ e') : own0 (w.setCell ⟨g, p, none⟩ u) lo e sz A c n L := h.imp id (fun h => g_far h (fun q => g_apart h hbox hne _ q rfl))
theorem own0.other {v : Value} {m k c' : Nat} {A' : Option Addr} {L0 L' : List Value} (h : own0 w lo e sz A c n L) (hr : AppR w w' lo' e' sz' v A' k c' L') (h2 : w.ownsRow lo' e' sz' v m L0) (hne : e ≠ e') : own0 w' lo e sz A c n L := h.imp id (fun h => hr.other h (g_apart h h2 hne))
end
theorem own0.sl {α : Type} {enc : α → List Value} {ok : α → Prop} {sz : Nat} {w : World} {base : Nat} {e : TypeId} {A : Option Addr} {c : Nat} {xs : List α} (h : own0 w base e sz A c xs.length (xs.flatMap enc)) (hsz : ∀ x, (enc x).length = sz) (hok : ∀ x ∈ xs, ok x) : SlAt (Flat enc ok) sz w A xs.length xs := by
  rcases h with h | h
  · exact ⟨rfl, fun h0 => absurd h (by omega)⟩
  · exact owns_sl hsz h hok
/-- A room in memory of the call's own (rows of length nought are anywhere). -/
structure RoomS (w : World) (lo : Nat) (ps : List Int) (ns : List Node) (up : List Bool) (r : List (List Pt) × List Pt) (A1 : Option Addr) (c1 : Nat) (A2 : Option Addr) (c2 : Nat) (A3 : Option Addr) (c3 : Nat) (A4 : Option Addr) (c4 : Nat) (A5 : Option Addr) (c5 : Nat) : Prop where
  par : own0 w lo 3 1 A1 c1 ps.length (ps.flatMap encInt)
  nod : own0 w lo 84 4 A2 c2 ns.length (ns.flatMap Node.enc)
  ups : own0 w lo 4 1 A3 c3 up.length (up.flatMap encB)
  pro : PO w lo A4 r.1.length c4 r.1
  lic : w.ownsRow lo 150 4 (.slice A5 r.2.length c5) r.2.length (r.2.flatMap Pt.enc)
  ok1 : ∀ x ∈ ps, In64 x
  ok2 : ∀ x ∈ ns, x.ok
  ok3 : ∀ x ∈ r.2, x.ok
section
variable {w w' : World} {lo lo' b g p : Nat} {u : Value} {ps : List Int} {ns : List Node} {up : List Bool} {r : List (List Pt) × List Pt} {pl : List (List Pt)} {lic : List Pt} {A1 : Option Addr} {c1 : Nat} {A2 : Option Addr} {c2 : Nat} {A3 : Option Addr} {c3 : Nat} {A4 : Option Addr} {c4 : Nat} {A5 : Option Addr} {c5 : Nat}
theorem RoomS.ext (h : RoomS w lo ps ns up r A1 c1 A2 c2 A3 c3 A4 c4 A5 c5) (hb : Ext w w') : RoomS w' lo ps ns up r A1 c1 A2 c2 A3 c3 A4 c4 A5 c5 :=
  ⟨h.par.ext hb, h.nod.ext hb, h.ups.ext hb, h.pro.ext hb, owns_ext h.lic hb, h.ok1, h.ok2, h.ok3⟩
theorem RoomS.base (h : RoomS w lo ps ns up r A1 c1 A2 c2 A3 c3 A4 c4 A5 c5) (hb : lo' ≤ lo) : RoomS w lo' ps ns up r A1 c1 A2 c2 A3 c3 A4 c4 A5 c5 :=
  ⟨h.par.base hb, h.nod.base hb, h.ups.base hb, h.pro.base hb, owns_base h.lic hb, h.ok1, h.ok2, h.ok3⟩
theorem RoomS.low (h : RoomS w lo ps ns up r A1 c1 A2 c2 A3 c3 A4 c4 A5 c5) (hb : b < lo) : RoomS (w.setCell ⟨b, p, none⟩ u) lo ps ns up r A1 c1 A2 c2 A3 c3 A4 c4 A5 c5 :=
  ⟨h.par.low hb, h.nod.low hb, h.ups.low hb, h.pro.low hb, own_set h.lic hb, h.ok1, h.ok2, h.ok3⟩
theorem RoomS.at_ (h : RoomS w lo ps ns up r A1 c1 A2 c2 A3 c3 A4 c4 A5 c5) : RoomAt w ps ns up r (.agg #[.slice A1 ps.length c1, .slice A2 ns.length c2, .slice A3 up.length c3, .slice A4 r.1.length c4, .slice A5 r.2.length c5]) :=
  ⟨A1, c1, A2, c2, A3, c3, A4, c4, A5, c5, rfl, h.par.sl (fun _ => rfl) h.ok1, h.nod.sl Node.size h.ok2, own0.sl (enc := encB) (ok := fun _ => True) h.ups (fun _ => rfl) (fun _ _ => trivial), h.pro.sl, owns_sl Pt.size h.lic h.ok3⟩
theorem RoomS.far {L0 : List Value} (h : RoomS w lo ps ns up r A1 c1 A2 c2 A3 c3 A4 c4 A5 c5) (hbox : w.ownsRow lo' 98 5 (.slice (some ⟨g, 0, none⟩) 1 1) 1 L0) : RoomS (w.setCell ⟨g, p, none⟩ u) lo ps ns up r A1 c1 A2 c2 A3 c3 A4 c4 A5 c5 :=
  ⟨h.par.far hbox (by decide), h.nod.far hbox (by decide), h.ups.far hbox (by decide), h.pro.far hbox (by decide) (by decide), g_far h.lic (fun e => g_apart h.lic hbox (by decide) _ e rfl), h.ok1, h.ok2, h.ok3⟩
theorem RoomS.push {A' : Option Addr} {c' m : Nat} {q : List Pt} {B1 : Option Addr} {d1 : Nat} {L L' : List Value} (h : RoomS w lo ps ns up (pl, lic) A1 c1 A2 c2 A3 c3 A4 c4 A5 c5) (hm : pl.length = m) (h2 : w.ownsRow lo 96 1 (.slice A4 m c4) m L) (h3 : ∀ (k : Nat) (p : List Pt), pl[k]? = some p → ∃ A' c', L[k]? = some (.slice A' p.length c') ∧ w.ownsRow lo 150 4 (.slice A' p.length c') p.length (p.flatMap Pt.enc) ∧ ∀ y ∈ p, y.ok)
    (hr : AppR w w' lo 96 1 (.slice A4 m c4) A' (m + 1) c' L') (e : L' = L ++ [.slice B1 q.length d1]) (ho : w.ownsRow lo 150 4 (.slice B1 q.length d1) q.length (q.flatMap Pt.enc)) (hy : ∀ y ∈ q, y.ok) : RoomS w' lo ps ns up (pl ++ [q], lic) A1 c1 A2 c2 A3 c3 A' c' A5 c5 :=
  ⟨h.par.other hr h2 (by decide), h.nod.other hr h2 (by decide), h.ups.other hr h2 (by decide), by have := PO.grow hm h2 h3 hr e ho hy; show PO w' lo A' (pl ++ [q]).length c' (pl ++ [q]); rw [List.length_append, hm]; exact this, hr.other h.lic (g_apart h.lic h2 (by decide)), h.ok1, h.ok2, h.ok3⟩
theorem RoomS.setp {i : Nat} {q : List Pt} {A' : Option Addr} {c' : Nat} (h : RoomS w lo ps ns up (pl, lic) A1 c1 A2 c2 A3 c3 (some ⟨g, 0, none⟩) c4 A5 c5) (hi : i < pl.length) (ho : w.ownsRow lo 150 4 (.slice A' q.length c') q.length (q.flatMap Pt.enc)) (hy : ∀ y ∈ q, y.ok) :
    RoomS (w.setCell ⟨g, i, none⟩ (.slice A' q.length c')) lo ps ns up (pl.set i q, lic) A1 c1 A2 c2 A3 c3 (some ⟨g, 0, none⟩) c4 A5 c5 := by
  obtain ⟨_, L, hL, _⟩ := h.pro
  have hs := h.pro.set hi ho hy
  exact ⟨h.par.far hL (by decide), h.nod.far hL (by decide), h.ups.far hL (by decide), by show PO _ _ _ (pl.set i q).length _ _; rw [List.length_set]; exact hs, g_far h.lic (fun e => g_apart h.lic hL (by decide) _ e rfl), h.ok1, h.ok2, h.ok3⟩
theorem RoomS.box_far {i : Nat} {L0 : List Value} (h : RoomS w lo ps ns up (pl, lic) A1 c1 A2 c2 A3 c3 (some ⟨g, 0, none⟩) c4 A5 c5) (hbox : w.ownsRow lo' 98 5 (.slice (some ⟨b, 0, none⟩) 1 1) 1 L0) : (w.setCell ⟨g, i, none⟩ u).ownsRow lo' 98 5 (.slice (some ⟨b, 0, none⟩) 1 1) 1 L0 := by
  obtain ⟨_, L, hL, _⟩ := h.pro
  exact g_far hbox (fun e => g_apart hbox hL (by decide) _ e rfl)
theorem RoomS.lics {l : List Pt} {A6 : Option Addr} {c6 : Nat} (h : RoomS w lo ps ns up (pl, lic) A1 c1 A2 c2 A3 c3 A4 c4 A5 c5) (ho : w.ownsRow lo 150 4 (.slice A6 l.length c6) l.length (l.flatMap Pt.enc)) (hy : ∀ y ∈ l, y.ok) : RoomS w lo ps ns up (pl, l) A1 c1 A2 c2 A3 c3 A4 c4 A6 c6 :=
  ⟨h.par, h.nod, h.ups, h.pro, ho, h.ok1, h.ok2, hy⟩
end
theorem flat_len {α : Type} {enc : α → List Value} {size : Nat} (hl : ∀ y, (enc y).length = size) (ys : List α) : (ys.flatMap enc).length = ys.length * size := by
  induction ys with
  | nil => simp
  | cons y ys ih => rw [List.flatMap_cons, List.length_append, hl, ih, List.length_cons, Nat.add_mul]; omega
theorem run_append0 {P : Program} {u : World} {α : Type} {enc : α → List Value} {ok : α → Prop} (t ty : TypeId)
    (e : TypeId) (i : TypeInfo) (z : Value) (size bytes : Nat) (ht : P.underlying t = some (.slice e)) (hi : P.info? e = some i) (hz : i.zero = some z)
    (hsize : i.size = size) (hby : i.bytes = bytes) (hzs : z.cells.size = size) (hsz : 0 < size)
    (b : Nat) (A : Option Addr) (m c : Nat) (ys : List α) (hys : SlAt (Flat enc ok) size u A m ys) (hl : ∀ y, (enc y).length = size)
    (h63 : m ≤ maxLen) (hbytes : m * bytes ≤ 140737488355328) :
    ∃ A' c' w', (Builtin.append_ #[t, t] ty #[.slice (some ⟨b, 0, none⟩) 0 0, .slice A m c]).run P u = .ok (.slice A' m c') w' ∧ Ext u w' ∧ own0 w' u.heap.size e size A' c' m (ys.flatMap enc) := by
  rcases Nat.eq_zero_or_pos m with h0 | h0
  · subst h0
    refine ⟨some ⟨b, 0, none⟩, 0, u, ?_, Ext.refl _, .inl rfl⟩
    cases A with
    | none => simp [Builtin.append_, run_underlying ht, sizeOf, typeInfo, hi, Builtin.lenOf, run_firstCells_none, storeCells]
    | some a =>
      have hf := run_firstCells_some (P := P) u i.size 0 a 0 c [] (by simp) (by simp)
      simp [Builtin.append_, run_underlying ht, sizeOf, typeInfo, hi, Builtin.lenOf, hf, storeCells]
  · obtain ⟨bb, off, rfl, _⟩ := hys.2 h0
    have hlen : (ys.flatMap enc).length = m * size := by
      rw [← hys.1]; exact flat_len hl ys
    have hcells : ∀ j v, (ys.flatMap enc)[j]? = some v → u.cell? ((⟨bb, off, none⟩ : Addr).add j) = some v := by
      intro j v hv
      obtain ⟨b2, off2, e1, hb2, hc⟩ := hys.flatCells hl h0
      injection e1 with e1
      injection e1 with e1 e2 _
      subst e1; subst e2
      have := hc j v hv
      unfold Addr.add; split
      · rename_i hj; subst hj; exact this
      · exact this
    obtain ⟨v', w', hr, h2, hg⟩ := run_append_arg_grows (P := P) u t ty e i z size bytes ht hi hz hsize hby hzs hsz ⟨b, 0, none⟩ 0 0 [] (by simp) (by simp) ⟨bb, off, none⟩ m c (ys.flatMap enc) hlen hcells (by omega) (by omega) (by rw [Nat.zero_add]; exact hbytes)
    rw [Nat.zero_add, List.nil_append] at h2
    obtain ⟨A', c', rfl⟩ : ∃ A' c', v' = .slice A' m c' := by
      rcases h2.2 with ⟨rfl, h0⟩ | ⟨g, cap, cur, rfl, _⟩
      · exact ⟨none, 0, by rw [h0]⟩
      · exact ⟨_, _, rfl⟩
    exact ⟨A', c', w', hr, ext_turned (Ext.refl u) (⟨hg.os, hg.tape, hg.output, hg.size, fun q hq _ => hg.block q hq (fun e => by cases e)⟩ : Turned u.heap.size w'.heap.size u w') (Nat.le_refl _), .inr h2⟩
theorem grow_append0 {P : Program} {u : World} {V : Value → Prop} {F : Value → World → Prop} {α : Type} {enc : α → List Value} {ok : α → Prop} {o : Oper} {a : Act} (s x : Operand) (t : TypeId)
    (ho : o.op = .call { callee := .builtin .append, args := #[s, x], argTypes := #[t, t] })
    (e : TypeId) (i : TypeInfo) (z : Value) (size bytes : Nat) (ht : P.underlying t = some (.slice e)) (hi : P.info? e = some i) (hz : i.zero = some z)
    (hsize : i.size = size) (hby : i.bytes = bytes) (hzs : z.cells.size = size) (hsz : 0 < size)
    (b : Nat) (A : Option Addr) (m c : Nat) (ys : List α) (hs : a.eval s = .slice (some ⟨b, 0, none⟩) 0 0) (hx : a.eval x = .slice A m c)
    (hys : SlAt (Flat enc ok) size u A m ys) (hl : ∀ y, (enc y).length = size) (h63 : m ≤ maxLen) (hbytes : m * bytes ≤ 140737488355328)
    (h : ∀ A' c' w', Ext u w' → own0 w' u.heap.size e size A' c' m (ys.flatMap enc) → V (.slice A' m c') ∧ F (.slice A' m c') w') :
    growUpon P u V F ((execOp a.eval o).run P u) := by
  obtain ⟨A', c', w', hr, h1, h2⟩ := run_append0 (P := P) t o.type e i z size bytes ht hi hz hsize hby hzs hsz b A m c ys hys hl h63 hbytes
  unfold execOp
  simp only [ho, resolve, invoke, builtin, Sem.run_bind, Sem.run_pure, Result.andThen_ok, List.map_toArray, List.map_cons, List.map_nil, hs, hx, hr]
  exact ⟨h1, h A' c' w' h1 h2⟩
/-- An empty slice that is not nil. -/
def gLit : GSp := ⟨fun v => ∃ b, v = .slice (some ⟨b, 0, none⟩) 0 0, fun v w => True⟩
def gRow0 (lo : Nat) (e : TypeId) (sz n : Nat) (L : List Value) : GSp := ⟨fun v => ∃ A c, v = .slice A n c, fun v w => ∀ A c, v = .slice A n c → own0 w lo e sz A c n L⟩
theorem gLit_ok : (∀ v, FMono (gLit.F v)) ∧ ∃ v, gLit.V v := ⟨fun v w w' hb h => trivial, _, 0, rfl⟩
theorem gRow0_ok (lo : Nat) (e : TypeId) (sz n : Nat) (L : List Value) : (∀ v, FMono ((gRow0 lo e sz n L).F v)) ∧ ∃ v, (gRow0 lo e sz n L).V v := ⟨fun v w w' hb h A c e => (h A c e).ext hb, _, none, 0, rfl⟩
end Go.Proofs.YtfcffcgdbmkfgaaGreat
/-! Empty -/
namespace Go.Proofs.YtfcffcgdbmkfgaaGreat
open Go.RowKit
set_option linter.unusedVariables false
set_option maxHeartbeats 16000000 in
set_option maxRecDepth 10000 in
theorem empty_c (ps : List Int) (ns : List Node) (up : List Bool) (lic : Vec) (A1 : Option Addr) (c1 : Nat) (A2 : Option Addr) (c2 : Nat) (A3 : Option Addr) (c3 : Nat) (w : World) (h1 : SlAt RInt 1 w A1 ps.length ps) (h2 : SlAt RNode 4 w A2 ns.length ns) (h3 : SlAt RB 1 w A3 up.length up) (hps : ps.length ≤ 24) (hns : ns.length ≤ 24) (hup : up.length ≤ 24) (hv : ∀ n ∈ ns, vecB n.Cap = true) (hl : vecB lic = true) : Calls Tryz.prog 86 #[.agg #[.slice A1 ps.length c1, .slice A2 ns.length c2], .slice A3 up.length c3, .agg #[.int .i64 lic.A, .int .i64 lic.B, .int .i64 lic.C]] w (RetRoom w ps ns up (room0 ns lic)) := by
  obtain ⟨i0, hi, hI0, hI1, hI2⟩ := info_parts CBool.info
  obtain ⟨i1, hi1, hJ0, hJ1, hJ2⟩ := info_parts CProf.info
  have HT := Lib.hid (fun (u : World) (e : Ext w u) => copyTopo_c ps ns A1 ps.length c1 A2 ns.length c2 u (h1.ext (Flat.mono _ _) e) (by omega) (h2.ext (Flat.mono _ _) e) (by omega))
  have HU := Lib.hid (fun (u : World) (e : Ext w u) => h3.ext (Flat.mono encB (fun _ => True)) e)
  have H2 := Lib.hid (fun (u : World) (e : Ext w u) => h2.ext (Flat.mono Node.enc Node.ok) e)
  have HK := Lib.hid (show (∀ x ∈ ps, In64 x) ∧ (∀ x ∈ ns, x.ok) from ⟨h1.all, h2.all⟩)
  have HPN := Lib.hid (fun (v : Vec) (hv : vecB v = true) (u : World) => show Calls Tryz.prog 107 #[.agg #[.int .i64 v.A, .int .i64 v.B, .int .i64 v.C]] u (RetP u (some [⟨0, v⟩])) from by have := ProfNew_c v u; rw [if_pos hv] at this; exact this)
  have HV := Lib.hid hv
  have HL := Lib.hid hl
  clear h1 h2 h3 hv hl
  go_enter Tryz.func86, Tryz.ntmps86
  go_wp2_with fail
  refine (HT.out _ ((((Ext.refl w).alloc _).alloc _).alloc _)).mono ?_
  rintro e w2 ⟨A6, c6, A7, c7, rfl, ho2, ho2', hb2⟩
  have hz2 := hb2.le
  simp at hz2
  have HO2 := Lib.hid (owns_base ho2 (show w.heap.size + 1 + 1 + 1 ≤ _ by simp))
  have HO2' := Lib.hid (owns_base ho2' (show w.heap.size + 1 + 1 + 1 ≤ _ by simp))
  have hx2 : Ext w w2 := ((((Ext.refl w).alloc _).alloc _).alloc _).trans hb2
  clear ho2 ho2'
  go_wp2_with (at_builtin; go_must (refine wpList_append_r (enc := encB) (ok := fun _ => True) (.const (.slice none 0 0)) (.tmp 14) _ (w.heap.size + 1 + 1 + 1) 4 i0 _ 1 1 (.slice none 0 0) 0 [] A3 up.length c3 up rfl rfl Tryz.underlying26 hi hI0 hI1 hI2 rfl (by omega) rfl (World.ownsRow_nil _ _ _ _) rfl (HU.out _ hx2) (fun _ => rfl) encB_one (by unfold maxLen; omega) (by omega) hz2 ?_); intro A8 c8 w3 hr3; have hb3 := hr3.ext_nil; have HO3 := Lib.hid hr3.row; have hz3 := hb3.le; have y0 := (hb2.trans hb3).cell (((((Ext.refl _).alloc (.cells #[.int .i64 lic.A, .int .i64 lic.B, .int .i64 lic.C] 39)).alloc (.cells #[.slice none 0 0, .slice none 0 0, .slice none 0 0, .slice none 0 0, .slice none 0 0] 98))).cell (cell_box_at w w.heap.size rfl [.slice A1 ps.length c1, .slice A2 ns.length c2] 38 1 _ rfl)); have hy0 := lt_of_cell y0; clear hr3)
  simp only [Nat.zero_add, List.nil_append] at HO3 ⊢
  have HX3 := Lib.hid (hb2.trans hb3)
  have HRO := Lib.hid (show RoomO (w3.alloc (.cells #[.slice A6 ps.length c6, .slice A7 ns.length c7, .slice A8 up.length c8, .slice none 0 0, .slice none 0 0] 98)) (w.heap.size + 1 + 1 + 1) ps ns up ([], []) A6 c6 A7 c7 A8 c8 none 0 none 0 from ⟨owns_ext HO2.out (hb3.alloc _), owns_ext HO2'.out (hb3.alloc _), owns_ext HO3.out ((Ext.refl _).alloc _), PO.nil _ _, World.ownsRow_nil _ _ _ _, HK.out.1, HK.out.2, fun x hx => by cases hx⟩)
  have HBX := Lib.hid (show (w3.alloc (.cells #[.slice A6 ps.length c6, .slice A7 ns.length c7, .slice A8 up.length c8, .slice none 0 0, .slice none 0 0] 98)).ownsRow (w.heap.size + 1 + 1 + 1) 98 5 (.slice (some ⟨w3.heap.size, 0, none⟩) 1 1) 1 [.slice A6 ps.length c6, .slice A7 ns.length c7, .slice A8 up.length c8, .slice none 0 0, .slice none 0 0] from owns_base (gbox w3 [.slice A6 ps.length c6, .slice A7 ns.length c7, .slice A8 up.length c8, .slice none 0 0, .slice none 0 0] 98 5 rfl) (by omega))
  have hzz : w.heap.size + 1 + 1 + 1 ≤ w3.heap.size := by omega
  clear hb2 hb3 hx2 HO2 HO2' HO3 HT HU
  go_wp2
  go_loopw [20] (fun iv wr => ∃ (k : Nat) (A10 : Option Addr) (c10 : Nat), k ≤ ns.length ∧ iv = .int .i64 k ∧ Hid (RoomO wr (w.heap.size + 1 + 1 + 1) ps ns up ((ns.take k).map (fun n => [⟨0, n.Cap⟩]), []) A6 c6 A7 c7 A8 c8 A10 c10 none 0) ∧ Hid (wr.ownsRow (w.heap.size + 1 + 1 + 1) 98 5 (.slice (some ⟨w3.heap.size, 0, none⟩) 1 1) 1 [.slice A6 ps.length c6, .slice A7 ns.length c7, .slice A8 up.length c8, .slice A10 k c10, .slice none 0 0]) ∧ Ext (((w.alloc (.cells #[.slice A1 ps.length c1, .slice A2 ns.length c2] 38)).alloc (.cells #[.int .i64 lic.A, .int .i64 lic.B, .int .i64 lic.C] 39)).alloc (.cells #[.slice none 0 0, .slice none 0 0, .slice none 0 0, .slice none 0 0, .slice none 0 0] 98)) wr ∧ w3.heap.size < wr.heap.size) (fun iv _ => ns.length - (intOf iv).toNat)
  case atStart => exact ⟨0, none, 0, Nat.zero_le _, rfl, HRO, HBX, HX3.out.alloc _, by simp⟩
  case round =>
    clear HRO HBX y0
    obtain ⟨k, A10, c10, hk, rfl, HRO, HBX, hb, hzb⟩ := hrel
    have hxw : Ext w wr := ((((Ext.refl w).alloc _).alloc _).alloc _).trans hb
    by_cases hlt : k < ns.length
    · obtain ⟨bq, oq, x, cs, hA2, hbw, hx2, _, hc, rfl, hok⟩ := (H2.out wr hxw).at_ hlt
      subst hA2
      have g0 := hc 0 _ rfl
      have g1 := hc 1 _ rfl
      have g2 := hc 2 _ rfl
      have g3 := hc 3 _ rfl
      simp only [Nat.add_zero] at g0
      have HX := Lib.hid hx2
      have HVX := Lib.hid (HV.out x (List.mem_of_getElem? hx2))
      obtain ⟨_, L, hL, hLi⟩ := HRO.out.pro
      have HTK := Lib.hid (show ((ns.take k).map (fun n : Node => [(⟨0, n.Cap⟩ : Pt)])).length = k by rw [List.length_map, List.length_take]; omega)
      have HLL := Lib.hid (show wr.ownsRow (w.heap.size + 1 + 1 + 1) 96 1 (.slice A10 k c10) k L by rw [← HTK.out]; exact hL)
      have HLI := Lib.hid hLi
      clear hx2 hc hok hL hLi hxw
      go_wp2_with fail
      refine (HPN.out x.Cap HVX.out _).mono ?_
      rintro e w4 ⟨A11, c11, l, rfl, hr4, ho4, hy4, hb4⟩
      obtain rfl : l = [⟨0, x.Cap⟩] := by rcases hr4 with h4 | ⟨h4, _⟩; (injection h4 with h4; exact h4.symm); (cases h4)
      have HE4 := Lib.hid (show Ext wr w4 from ((Ext.refl wr).alloc _).trans hb4)
      have hz4 := HE4.out.le
      have HO4 := Lib.hid (owns_base ho4 (show w.heap.size + 1 + 1 + 1 ≤ _ by simp; omega))
      have HY4 := Lib.hid hy4
      have x4 := HE4.out.cell (gcells5 HBX.out).2.2.2.1
      have hl4 : w3.heap.size < w4.heap.size := by omega
      clear hr4 ho4 hy4 hb4
      go_wp2_with (at_builtin; go_must (refine wpList_append_r (enc := encS) (ok := fun _ => True) (.tmp 31) (.tmp 33) _ (w.heap.size + 1 + 1 + 1) 96 i1 _ 1 24 (.slice A10 k c10) k L _ 1 1 [(A11, 1, c11)] rfl rfl Tryz.underlying93 hi1 hJ0 hJ1 hJ2 rfl (by omega) rfl (owns_ext HLL.out ((HE4.out.alloc _).alloc _)) rfl (by exact sl_one_at (enc := encS) _ _ (by simp) (A11, 1, c11) 96 rfl trivial) (fun _ => rfl) encS_one (by unfold maxLen; omega) (by omega) (by simp; omega) ?_); intro A12 c12 w5 hr5; have HR5 := Lib.hid hr5; have HB5 := Lib.hid (hr5.other (owns_ext HBX.out ((HE4.out.alloc _).alloc _)) (g_apart HBX.out HLL.out (by decide))); have x5 := (gcells5 HB5.out).2.2.2.1; have xf5 := HB5.out.frozenAt 3; have hl5 := (HB5.out.lt w3.heap.size rfl).2; have hz5 := hr5.size; clear hr5)
      have HRN := Lib.hid ((HRO.out.ext ((HE4.out.alloc _).alloc _)).push HTK.out (owns_ext HLL.out ((HE4.out.alloc _).alloc _)) (fun j p hj => by obtain ⟨Ap, cp, e1, e2, e3⟩ := HLI.out j p hj; exact ⟨Ap, cp, e1, owns_ext e2 ((HE4.out.alloc _).alloc _), e3⟩) HR5.out (q := [⟨0, x.Cap⟩]) (by simp [encS]) (owns_ext HO4.out (((Ext.refl w4).alloc _).alloc _)) HY4.out)
      have HXT := Lib.hid (ext_turned (hb.trans ((HE4.out.alloc _).alloc _)) (HR5.out.turned (lo := w.heap.size + 1 + 1 + 1) (fun q hq => (HLL.out.lt q hq).1)) (by simp))
      clear x4
      go_wp2
      go_roundw
      case rel => exact ⟨k + 1, A12, c12, by omega, by go_num, Lib.hid (by rw [take_succ HX.out, List.map_append]; exact HRN.out.far HB5.out), Lib.hid (HB5.out.stored 3 _).1, HXT.out.setCell (by simp; omega) _, by simp; omega⟩
      case measure => simp [intOf]; omega
    · have HKN := Lib.hid (show k = ns.length by omega)
      have HMP := Lib.hid (show (ns.take k).map (fun n : Node => [(⟨0, n.Cap⟩ : Pt)]) = ns.map (fun n => [⟨0, n.Cap⟩]) by rw [List.take_of_length_le (by have := HKN.out; omega)])
      rw [HMP.out] at HRO
      have v0 := (((Ext.refl _).alloc _).trans hb).cell (cell_box_at (w.alloc (.cells #[.slice A1 ps.length c1, .slice A2 ns.length c2] 38)) (w.heap.size + 1) (by simp) [.int .i64 lic.A, .int .i64 lic.B, .int .i64 lic.C] 39 0 _ rfl)
      have v1 := (((Ext.refl _).alloc _).trans hb).cell (cell_box_at (w.alloc (.cells #[.slice A1 ps.length c1, .slice A2 ns.length c2] 38)) (w.heap.size + 1) (by simp) [.int .i64 lic.A, .int .i64 lic.B, .int .i64 lic.C] 39 1 _ rfl)
      have v2 := (((Ext.refl _).alloc _).trans hb).cell (cell_box_at (w.alloc (.cells #[.slice A1 ps.length c1, .slice A2 ns.length c2] 38)) (w.heap.size + 1) (by simp) [.int .i64 lic.A, .int .i64 lic.B, .int .i64 lic.C] 39 2 _ rfl)
      have vf0 := ((((Ext.refl _).alloc _).trans hb).frozenEq (a := ⟨w.heap.size + 1, 0, none⟩) (by simp)).trans (frozen_box_at (w.alloc (.cells #[.slice A1 ps.length c1, .slice A2 ns.length c2] 38)) (w.heap.size + 1) (by simp) #[.int .i64 lic.A, .int .i64 lic.B, .int .i64 lic.C] 39 0)
      have vf1 := ((((Ext.refl _).alloc _).trans hb).frozenEq (a := ⟨w.heap.size + 1, 1, none⟩) (by simp)).trans (frozen_box_at (w.alloc (.cells #[.slice A1 ps.length c1, .slice A2 ns.length c2] 38)) (w.heap.size + 1) (by simp) #[.int .i64 lic.A, .int .i64 lic.B, .int .i64 lic.C] 39 1)
      have vf2 := ((((Ext.refl _).alloc _).trans hb).frozenEq (a := ⟨w.heap.size + 1, 2, none⟩) (by simp)).trans (frozen_box_at (w.alloc (.cells #[.slice A1 ps.length c1, .slice A2 ns.length c2] 38)) (w.heap.size + 1) (by simp) #[.int .i64 lic.A, .int .i64 lic.B, .int .i64 lic.C] 39 2)
      have hv0 := lt_of_cell v0
      go_wp2_with fail
      refine (HPN.out lic HL.out _).mono ?_
      rintro e w4 ⟨A11, c11, l, rfl, hr4, ho4, hy4, hb4⟩
      obtain rfl : l = [⟨0, lic⟩] := by rcases hr4 with h4 | ⟨h4, _⟩; (injection h4 with h4; exact h4.symm); (cases h4)
      have hz4 := hb4.le
      have HRO2 := Lib.hid ((HRO.out.ext hb4).lics (owns_base ho4 (by omega)) hy4)
      have HBY := Lib.hid (owns_ext HBX.out hb4)
      obtain ⟨t0, t1, t2, t3, t4, tf0, tf1, tf2, tf3, tf4, tl⟩ := gcells5 HBY.out
      have q0 := (hb.trans hb4).cell (cell_box_at ((w.alloc (.cells #[.slice A1 ps.length c1, .slice A2 ns.length c2] 38)).alloc (.cells #[.int .i64 lic.A, .int .i64 lic.B, .int .i64 lic.C] 39)) (w.heap.size + 1 + 1) (by simp) [.slice none 0 0, .slice none 0 0, .slice none 0 0, .slice none 0 0, .slice none 0 0] 98 0 _ rfl)
      have q1 := (hb.trans hb4).cell (cell_box_at ((w.alloc (.cells #[.slice A1 ps.length c1, .slice A2 ns.length c2] 38)).alloc (.cells #[.int .i64 lic.A, .int .i64 lic.B, .int .i64 lic.C] 39)) (w.heap.size + 1 + 1) (by simp) [.slice none 0 0, .slice none 0 0, .slice none 0 0, .slice none 0 0, .slice none 0 0] 98 1 _ rfl)
      have q2 := (hb.trans hb4).cell (cell_box_at ((w.alloc (.cells #[.slice A1 ps.length c1, .slice A2 ns.length c2] 38)).alloc (.cells #[.int .i64 lic.A, .int .i64 lic.B, .int .i64 lic.C] 39)) (w.heap.size + 1 + 1) (by simp) [.slice none 0 0, .slice none 0 0, .slice none 0 0, .slice none 0 0, .slice none 0 0] 98 2 _ rfl)
      have q3 := (hb.trans hb4).cell (cell_box_at ((w.alloc (.cells #[.slice A1 ps.length c1, .slice A2 ns.length c2] 38)).alloc (.cells #[.int .i64 lic.A, .int .i64 lic.B, .int .i64 lic.C] 39)) (w.heap.size + 1 + 1) (by simp) [.slice none 0 0, .slice none 0 0, .slice none 0 0, .slice none 0 0, .slice none 0 0] 98 3 _ rfl)
      have q4 := (hb.trans hb4).cell (cell_box_at ((w.alloc (.cells #[.slice A1 ps.length c1, .slice A2 ns.length c2] 38)).alloc (.cells #[.int .i64 lic.A, .int .i64 lic.B, .int .i64 lic.C] 39)) (w.heap.size + 1 + 1) (by simp) [.slice none 0 0, .slice none 0 0, .slice none 0 0, .slice none 0 0, .slice none 0 0] 98 4 _ rfl)
      have qf0 := ((hb.trans hb4).frozenEq (a := ⟨w.heap.size + 1 + 1, 0, none⟩) (by simp)).trans (frozen_box_at ((w.alloc (.cells #[.slice A1 ps.length c1, .slice A2 ns.length c2] 38)).alloc (.cells #[.int .i64 lic.A, .int .i64 lic.B, .int .i64 lic.C] 39)) (w.heap.size + 1 + 1) (by simp) #[.slice none 0 0, .slice none 0 0, .slice none 0 0, .slice none 0 0, .slice none 0 0] 98 0)
      have qf1 := ((hb.trans hb4).frozenEq (a := ⟨w.heap.size + 1 + 1, 1, none⟩) (by simp)).trans (frozen_box_at ((w.alloc (.cells #[.slice A1 ps.length c1, .slice A2 ns.length c2] 38)).alloc (.cells #[.int .i64 lic.A, .int .i64 lic.B, .int .i64 lic.C] 39)) (w.heap.size + 1 + 1) (by simp) #[.slice none 0 0, .slice none 0 0, .slice none 0 0, .slice none 0 0, .slice none 0 0] 98 1)
      have qf2 := ((hb.trans hb4).frozenEq (a := ⟨w.heap.size + 1 + 1, 2, none⟩) (by simp)).trans (frozen_box_at ((w.alloc (.cells #[.slice A1 ps.length c1, .slice A2 ns.length c2] 38)).alloc (.cells #[.int .i64 lic.A, .int .i64 lic.B, .int .i64 lic.C] 39)) (w.heap.size + 1 + 1) (by simp) #[.slice none 0 0, .slice none 0 0, .slice none 0 0, .slice none 0 0, .slice none 0 0] 98 2)
      have qf3 := ((hb.trans hb4).frozenEq (a := ⟨w.heap.size + 1 + 1, 3, none⟩) (by simp)).trans (frozen_box_at ((w.alloc (.cells #[.slice A1 ps.length c1, .slice A2 ns.length c2] 38)).alloc (.cells #[.int .i64 lic.A, .int .i64 lic.B, .int .i64 lic.C] 39)) (w.heap.size + 1 + 1) (by simp) #[.slice none 0 0, .slice none 0 0, .slice none 0 0, .slice none 0 0, .slice none 0 0] 98 3)
      have qf4 := ((hb.trans hb4).frozenEq (a := ⟨w.heap.size + 1 + 1, 4, none⟩) (by simp)).trans (frozen_box_at ((w.alloc (.cells #[.slice A1 ps.length c1, .slice A2 ns.length c2] 38)).alloc (.cells #[.int .i64 lic.A, .int .i64 lic.B, .int .i64 lic.C] 39)) (w.heap.size + 1 + 1) (by simp) #[.slice none 0 0, .slice none 0 0, .slice none 0 0, .slice none 0 0, .slice none 0 0] 98 4)
      have hql := lt_of_cell q0
      have hqb : w.heap.size + 1 + 1 ≠ w3.heap.size := by omega
      have HRO4 := Lib.hid ((((((HRO2.out.far HBY.out (p := 4) (u := .slice A11 1 c11)).low (b := w.heap.size + 1 + 1) (p := 0) (u := .slice A6 ps.length c6) (by omega)).low (b := w.heap.size + 1 + 1) (p := 1) (u := .slice A7 ns.length c7) (by omega)).low (b := w.heap.size + 1 + 1) (p := 2) (u := .slice A8 up.length c8) (by omega)).low (b := w.heap.size + 1 + 1) (p := 3) (u := .slice A10 k c10) (by omega)).low (b := w.heap.size + 1 + 1) (p := 4) (u := .slice A11 1 c11) (by omega))
      have HXF := Lib.hid ((hxw.trans hb4).setCell (p := ⟨w3.heap.size, 4, none⟩) (by simp only []; omega) (.slice A11 1 c11))
      clear hxw hb hb4 ho4 hy4 hr4 HRO HBX HRO2 HBY HMP HV HPN H2 HX3 HK v0 v1 v2 vf0 vf1 vf2 hv0 hlt hk
      go_wp2
      exact bodyPost_ret (v := .agg #[.slice A6 ps.length c6, .slice A7 ns.length c7, .slice A8 up.length c8, .slice A10 k c10, .slice A11 1 c11]) (by simp [results, Tryz.results86, go_sem, *]) rfl ⟨A6, c6, A7, c7, A8, c8, A10, c10, A11, c11, by rw [HKN.out]; simp [room0], HRO4.out.base (by omega), HXF.out.five (by omega) _ _ _ _ _⟩
end Go.Proofs.YtfcffcgdbmkfgaaGreat
