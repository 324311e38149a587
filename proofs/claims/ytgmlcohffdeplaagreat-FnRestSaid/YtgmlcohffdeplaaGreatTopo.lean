/- Contracts: whether a tree of switches with its nodes is right, the given program. -/
import Derived.Test.YtgmlcohffdeplaaGreatTree
import Derived.Test.YtgmlcohffdeplaaGreatSmall
import Derived.Test.YtgmlcohffdeplaaGreatInts
import Derived.Test.YtgmlcohffdeplaaGreatLaw
namespace Go.Proofs.YtgmlcohffdeplaaGreat
open Go.RowKit
set_option linter.unusedVariables false
def nodeB (ps : List Int) (x : Node) : Bool := withinB x.Leaf 0 ((ps.length : Int) - 1) && (leafB ps x.Leaf && vecB x.Cap)
def topoB (ps : List Int) (ns : List Node) : Bool := (decide (1 ≤ ps.length ∧ ps.length ≤ 24) && ((ps.getD 0 0 == 0) && decide (ns.length ≤ 24))) && (upGo (ps.drop 1) 1 && (deepGo ps ps.length 0 (-1) && ns.all (nodeB ps)))
theorem dep_le (ps : List Int) : ∀ s, dep ps s ≤ s := by
  intro s
  induction s using Nat.strongRecOn with
  | ind s ih =>
    rw [dep]
    split
    · omega
    · split
      · rename_i h; have := ih _ h; omega
      · omega
theorem upGo_next {l : List Int} {k : Nat} {x : Int} (hx : l[k]? = some x) : upGo (l.drop k) k = (decide (0 ≤ x ∧ x < k) && upGo (l.drop (k + 1)) (k + 1)) := by rw [drop_cons hx, upGo]
theorem deepGo_next (ps : List Int) (r s : Nat) (d : Int) : deepGo ps (r + 1) s d = if leafB ps s = true then (if 0 ≤ d ∧ (dep ps s : Int) ≠ d then false else deepGo ps r (s + 1) (dep ps s)) else deepGo ps r (s + 1) d := rfl
set_option maxHeartbeats 1000000 in
theorem isLeaf_c (ps : List Int) (s : Int) (A : Option Addr) (n c : Nat) (w : World) (h : SlAt RInt 1 w A n ps) (hl : n ≤ maxLen) : Calls Tryz.prog 97 #[.slice A n c, .int .i64 s] w (Same w (.bool (leafB ps s))) := by
  unfold maxLen at hl
  have HN := Lib.hid h.len
  go_enter Tryz.func97, Tryz.ntmps97
  go_wp2
  go_loop [5] (fun iv => ∃ k : Nat, 1 ≤ k ∧ k ≤ n + 1 ∧ iv = .int .i64 k ∧ Hid (leafB ps s = !(ps.drop k).contains s)) (fun iv => n + 1 - (intOf iv).toNat)
  case atStart => exact ⟨1, by omega, by omega, rfl, Lib.hid rfl⟩
  case round =>
    obtain ⟨k, hk1, hk, rfl, HE⟩ := hrel
    by_cases hlt : k < n
    · obtain ⟨b, o, x, cs, rfl, hbw, hx, _, hc, rfl, _⟩ := h.at_ hlt
      have c0 := hc 0 _ rfl
      simp only [Nat.mul_one, Nat.add_zero] at c0
      have HX := Lib.hid hx
      clear hc hx h
      rcases Bool.eq_false_or_eq_true (x == s) with h1 | h1
      · have H1 := Lib.hid (show (x :: ps.drop (k + 1)).contains s = true by rw [contains_cons', h1]; rfl)
        go_wp2
        exact same_bool rfl rfl rfl (by rw [HE.out, drop_cons HX.out, H1.out]; rfl)
      · have H1 := Lib.hid (show (x :: ps.drop (k + 1)).contains s = (ps.drop (k + 1)).contains s by rw [contains_cons', h1]; rfl)
        go_wp2
        go_round
        case rel => exact ⟨k + 1, by omega, by omega, by go_num, Lib.hid (by rw [HE.out, drop_cons HX.out, H1.out])⟩
        case measure => simp [intOf]; omega
    · go_wp2
      exact same_bool rfl rfl rfl (by rw [HE.out, List.drop_eq_nil_of_le (by have := HN.out; omega)]; rfl)
set_option maxHeartbeats 1000000 in
theorem depth_c (ps : List Int) (s : Nat) (A : Option Addr) (n c : Nat) (w : World) (h : SlAt RInt 1 w A n ps) (hl : n ≤ maxLen) (hs : s < n) (hup : upGo (ps.drop 1) 1 = true) : Calls Tryz.prog 98 #[.slice A n c, .int .i64 s] w (Same w (.int .i64 (dep ps s))) := by
  unfold maxLen at hl
  have HN := Lib.hid h.len
  have HUP := Lib.hid hup
  clear hup
  go_enter Tryz.func98, Tryz.ntmps98
  go_wp2
  go_loop [1, 5] (fun sv nv => ∃ t d : Nat, sv = .int .i64 t ∧ nv = .int .i64 d ∧ t < n ∧ d + t ≤ s ∧ Hid (d + dep ps t = dep ps s)) (fun sv _ => (intOf sv).toNat)
  case atStart => exact ⟨s, 0, rfl, rfl, hs, by omega, Lib.hid (by omega)⟩
  case round =>
    obtain ⟨t, d, rfl, rfl, ht, hd, HE⟩ := hrel
    by_cases h0 : 0 < t
    · obtain ⟨b, o, x, cs, rfl, hbw, hx, _, hc, rfl, _⟩ := h.at_ ht
      have c0 := hc 0 _ rfl
      simp only [Nat.mul_one, Nat.add_zero] at c0
      have hp := par_lt HUP.out h0 (by rw [HN.out]; exact ht)
      have hxe : x = (parN ps t : Int) := by
        obtain ⟨h1, h2⟩ := List.getElem?_eq_some_iff.1 hx
        rw [← hp.1]; exact h2.symm
      subst hxe
      have hp2 := hp.2
      have HQ := Lib.hid (dep_kid HUP.out h0 (by rw [HN.out]; exact ht))
      generalize parN ps t = q at *
      clear hc hx hp h
      go_wp2
      go_round
      case rel => exact ⟨q, d + 1, rfl, by go_num, by omega, by omega, Lib.hid (by have h1 := HQ.out; have h2 := HE.out; omega)⟩
      case measure => simp [intOf]; omega
    · have h00 : t = 0 := by omega
      subst h00
      go_wp2
      exact same_int rfl rfl rfl (by
        have h1 := HE.out
        have h2 : dep ps 0 = 0 := by rw [dep]; rfl
        omega)
set_option maxHeartbeats 4000000 in
set_option maxRecDepth 10000 in
theorem TopoOk_c (ps : List Int) (ns : List Node) (A : Option Addr) (n c : Nat) (B : Option Addr) (m d : Nat) (w : World) (h : SlAt RInt 1 w A n ps) (hl : n ≤ maxLen) (h2 : SlAt RNode 4 w B m ns) (hl2 : m ≤ maxLen) : Calls Tryz.prog 59 #[.agg #[.slice A n c, .slice B m d]] w (Ret w (.bool (topoB ps ns))) := by
  have hl' := hl
  unfold maxLen at hl hl2
  have HN := Lib.hid h.len
  have HN2 := Lib.hid h2.len
  have hM := Flat.mono Node.enc Node.ok
  have HWI := Lib.hid (fun (x lo hi : Int) (u : World) => within_c x lo hi u)
  by_cases hn1 : 1 ≤ n
  rotate_left
  · have h0 : n = 0 := by omega
    subst h0
    have HF := Lib.hid (show topoB ps ns = false by unfold topoB; rw [HN.out]; rfl)
    clear h h2
    go_enter Tryz.func59, Tryz.ntmps59
    go_wp2_with fail
    refine (HWI.out 0 1 24 _).mono ?_
    rintro e w1 ⟨rfl, rfl⟩
    have hw : withinB 0 1 24 = false := by decide
    go_wp2
    exact ret_bool rfl rfl rfl HF.out.symm (by repeat (first | exact Ext.refl _ | assumption | apply Ext.alloc | apply Ext.drewN | apply Ext.drew | (refine Ext.setCell ?_ (by first | (simp; done) | (simp; omega) | omega) _) | (refine Ext.trans ?_ (by assumption))))
  by_cases hn24 : n ≤ 24
  rotate_left
  · have HF := Lib.hid (show topoB ps ns = false by unfold topoB; rw [HN.out, show decide (1 ≤ n ∧ n ≤ 24) = false by rw [decide_eq_false_iff_not]; omega]; rfl)
    have hw : withinB n 1 24 = false := by unfold withinB; rw [decide_eq_false_iff_not]; omega
    clear h h2
    go_enter Tryz.func59, Tryz.ntmps59
    go_wp2_with fail
    refine (HWI.out n 1 24 _).mono ?_
    rintro e w1 ⟨rfl, rfl⟩
    go_wp2
    exact ret_bool rfl rfl rfl HF.out.symm (by repeat (first | exact Ext.refl _ | assumption | apply Ext.alloc | apply Ext.drewN | apply Ext.drew | (refine Ext.setCell ?_ (by first | (simp; done) | (simp; omega) | omega) _) | (refine Ext.trans ?_ (by assumption))))
  have hw : withinB n 1 24 = true := by unfold withinB; rw [decide_eq_true_iff]; omega
  obtain ⟨b, o, p0, cs, rfl, hbw, hp0, _, hc, rfl, _⟩ := h.at_ hn1
  have k0 := hc 0 _ rfl
  simp only [Nat.mul_one, Nat.add_zero] at k0
  have HG0 := Lib.hid (show ps.getD 0 0 = p0 by rw [List.getD_eq_getElem?_getD, hp0]; rfl)
  clear hc hp0
  rcases (Bool.eq_false_or_eq_true (p0 == 0)).symm with hz | hz
  · have HF := Lib.hid (show topoB ps ns = false by unfold topoB; rw [HG0.out, hz]; simp)
    have hz' : (p0 != 0) = true := by rw [bne, hz]; rfl
    clear h h2
    go_enter Tryz.func59, Tryz.ntmps59
    go_wp2_with fail
    refine (HWI.out n 1 24 _).mono ?_
    rintro e w1 ⟨rfl, rfl⟩
    go_wp2
    exact ret_bool rfl rfl rfl HF.out.symm (by repeat (first | exact Ext.refl _ | assumption | apply Ext.alloc | apply Ext.drewN | apply Ext.drew | (refine Ext.setCell ?_ (by first | (simp; done) | (simp; omega) | omega) _) | (refine Ext.trans ?_ (by assumption))))
  have hz' : (p0 != 0) = false := by rw [bne, hz]; rfl
  by_cases hm24 : m ≤ 24
  rotate_left
  · have HF := Lib.hid (show topoB ps ns = false by unfold topoB; rw [HN2.out, show decide (m ≤ 24) = false by rw [decide_eq_false_iff_not]; omega]; simp)
    clear h h2
    go_enter Tryz.func59, Tryz.ntmps59
    go_wp2_with fail
    refine (HWI.out n 1 24 _).mono ?_
    rintro e w1 ⟨rfl, rfl⟩
    go_wp2
    exact ret_bool rfl rfl rfl HF.out.symm (by repeat (first | exact Ext.refl _ | assumption | apply Ext.alloc | apply Ext.drewN | apply Ext.drew | (refine Ext.setCell ?_ (by first | (simp; done) | (simp; omega) | omega) _) | (refine Ext.trans ?_ (by assumption))))
  have HHD := Lib.hid (show topoB ps ns = (upGo (ps.drop 1) 1 && (deepGo ps n 0 (-1) && ns.all (nodeB ps))) by
    unfold topoB
    rw [HG0.out, hz, HN.out, HN2.out, show decide (1 ≤ n ∧ n ≤ 24) = true by rw [decide_eq_true_iff]; omega, show decide (m ≤ 24) = true by rw [decide_eq_true_iff]; omega]; rfl)
  have HS := Lib.hid (fun (u : World) (e : Ext w u) => h.ext (Flat.mono _ _) e)
  have HS2 := Lib.hid (fun (u : World) (e : Ext w u) => h2.ext hM e)
  clear h h2 HG0
  go_enter Tryz.func59, Tryz.ntmps59
  go_wp2_with fail
  refine (HWI.out n 1 24 _).mono ?_
  rintro e w1 ⟨rfl, rfl⟩
  go_wp2
  clear k0 hz hz' hw
  obtain ⟨W1, hW1⟩ : ∃ u, u = w.alloc (.cells #[.slice (some ⟨b, o, none⟩) n c, .slice B m d] 38) := ⟨_, rfl⟩
  have E1 : Ext w W1 := by rw [hW1]; exact (Ext.refl w).alloc _
  have q0 : W1.cell? ⟨w.heap.size, 0, none⟩ = some (.slice (some ⟨b, o, none⟩) n c) := by rw [hW1]; exact law_box w [.slice (some ⟨b, o, none⟩) n c, .slice B m d] _ 0 _ rfl
  have q1 : W1.cell? ⟨w.heap.size, 1, none⟩ = some (.slice B m d) := by rw [hW1]; exact law_box w [.slice (some ⟨b, o, none⟩) n c, .slice B m d] _ 1 _ rfl
  rw [← hW1]
  clear hW1
  go_loop [3] (fun iv => ∃ k : Nat, 1 ≤ k ∧ k ≤ n ∧ iv = .int .i64 k ∧ Hid (upGo (ps.drop 1) 1 = upGo (ps.drop k) k)) (fun iv => n - (intOf iv).toNat)
  case atStart => exact ⟨1, by omega, hn1, rfl, Lib.hid rfl⟩
  case round =>
    obtain ⟨k, hk1, hk, rfl, HE⟩ := hrel
    by_cases hlt : k < n
    · obtain ⟨b', o', x, cs, eb, hbw', hx, _, hc, rfl, _⟩ := (HS.out W1 E1).at_ hlt
      injection eb with eb
      injection eb with eb eo
      subst eb eo
      have c0 := hc 0 _ rfl
      simp only [Nat.mul_one, Nat.add_zero] at c0
      have HU := Lib.hid (upGo_next hx)
      have HWX := Lib.hid (show withinB x 0 ((k : Int) - 1) = decide (0 ≤ x ∧ x < k) by unfold withinB; rw [decide_eq_decide]; omega)
      clear hc hx
      go_wp2_with fail
      refine (HWI.out x 0 ((k : Int) - 1) _).mono ?_
      rintro e w1 ⟨rfl, rfl⟩
      rcases (Bool.eq_false_or_eq_true (withinB x 0 ((k : Int) - 1))).symm with h1 | h1
      · have HF := Lib.hid (show topoB ps ns = false by rw [HHD.out, HE.out, HU.out, ← HWX.out, h1]; rfl)
        go_wp2
        exact ret_bool rfl rfl rfl HF.out.symm E1
      · have HT := Lib.hid (show upGo (ps.drop 1) 1 = upGo (ps.drop (k + 1)) (k + 1) by rw [HE.out, HU.out, ← HWX.out, h1]; rfl)
        go_wp2
        go_round
        case rel => exact ⟨k + 1, by omega, by omega, by go_num, HT⟩
        case measure => simp [intOf]; omega
    · have HUP := Lib.hid (show upGo (ps.drop 1) 1 = true by rw [HE.out, List.drop_eq_nil_of_le (by have := HN.out; omega)]; rfl)
      have HH2 := Lib.hid (show topoB ps ns = (deepGo ps n 0 (-1) && ns.all (nodeB ps)) by rw [HHD.out, HUP.out]; rfl)
      have HLF := Lib.hid (fun (s : Int) (u : World) (e : Ext w u) => isLeaf_c ps s (some ⟨b, o, none⟩) n c u (HS.out u e) hl')
      have HDP := Lib.hid (fun (s : Nat) (hs : s < n) (u : World) (e : Ext w u) => depth_c ps s (some ⟨b, o, none⟩) n c u (HS.out u e) hl' hs HUP.out)
      clear HE HHD
      go_wp2
      go_loop [4, 46] (fun dv iv => ∃ (k : Nat) (d : Int), k ≤ n ∧ iv = .int .i64 k ∧ dv = .int .i64 d ∧ -1 ≤ d ∧ d ≤ 1000 ∧ Hid (deepGo ps n 0 (-1) = deepGo ps (n - k) k d)) (fun _ iv => n - (intOf iv).toNat)
      case atStart => exact ⟨0, -1, Nat.zero_le _, rfl, rfl, by omega, by omega, Lib.hid rfl⟩
      case round =>
        obtain ⟨k, d', hk, rfl, rfl, hd0, hd1, HE⟩ := hrel
        by_cases hlt : k < n
        · have HNX := Lib.hid (show deepGo ps (n - k) k d' = (if leafB ps k = true then (if 0 ≤ d' ∧ (dep ps k : Int) ≠ d' then false else deepGo ps (n - (k + 1)) (k + 1) (dep ps k)) else deepGo ps (n - (k + 1)) (k + 1) d') by rw [show n - k = (n - (k + 1)) + 1 by omega, deepGo_next])
          go_wp2_with fail
          refine (HLF.out k _ E1).mono ?_
          rintro e w1 ⟨rfl, rfl⟩
          rcases (Bool.eq_false_or_eq_true (leafB ps k)).symm with h1 | h1
          · have HT := Lib.hid (show deepGo ps n 0 (-1) = deepGo ps (n - (k + 1)) (k + 1) d' by rw [HE.out, HNX.out, if_neg (by rw [h1]; simp)])
            go_wp2
            go_round
            case rel => exact ⟨k + 1, d', by omega, by go_num, rfl, hd0, hd1, HT⟩
            case measure => simp [intOf]; omega
          · have hdl := dep_le ps k
            have HNY := Lib.hid (show deepGo ps n 0 (-1) = if 0 ≤ d' ∧ (dep ps k : Int) ≠ d' then false else deepGo ps (n - (k + 1)) (k + 1) (dep ps k) by rw [HE.out, HNX.out, if_pos h1])
            go_wp2_with fail
            refine (HDP.out k hlt _ E1).mono ?_
            rintro e w1 ⟨rfl, rfl⟩
            generalize dep ps k = q at *
            by_cases hdn : 0 ≤ d'
            · rcases (Bool.eq_false_or_eq_true ((q : Int) == d')).symm with h3 | h3
              · have h3' : ((q : Int) != d') = true := by rw [bne, h3]; rfl
                have HF := Lib.hid (show topoB ps ns = false by rw [HH2.out, HNY.out, if_pos ⟨hdn, by simpa using h3⟩]; rfl)
                go_wp2
                exact ret_bool rfl rfl rfl HF.out.symm E1
              · have h3' : ((q : Int) != d') = false := by rw [bne, h3]; rfl
                have HT := Lib.hid (show deepGo ps n 0 (-1) = deepGo ps (n - (k + 1)) (k + 1) (q : Int) by rw [HNY.out, if_neg (by rintro ⟨_, h⟩; exact h (by simpa using h3))])
                clear h3
                go_wp2
                go_round
                case rel => exact ⟨k + 1, q, by omega, by go_num, rfl, by omega, by omega, HT⟩
                case measure => simp [intOf]; omega
            · have HT := Lib.hid (show deepGo ps n 0 (-1) = deepGo ps (n - (k + 1)) (k + 1) (q : Int) by rw [HNY.out, if_neg (by rintro ⟨h, _⟩; exact hdn h)])
              go_wp2
              go_round
              case rel => exact ⟨k + 1, q, by omega, by go_num, rfl, by omega, by omega, HT⟩
              case measure => simp [intOf]; omega
        · have hkn : k = n := by omega
          subst hkn
          have HH3 := Lib.hid (show topoB ps ns = ns.all (nodeB ps) by rw [HH2.out, HE.out, Nat.sub_self]; rfl)
          clear HE HH2 HDP
          go_wp2
          go_loopw [70] (fun iv wr => ∃ j : Nat, j ≤ m ∧ iv = .int .i64 j ∧ Ext W1 wr ∧ Hid (ns.all (nodeB ps) = (ns.drop j).all (nodeB ps))) (fun iv _ => m - (intOf iv).toNat)
          case atStart => exact ⟨0, Nat.zero_le _, rfl, Ext.refl _, Lib.hid rfl⟩
          case round =>
            obtain ⟨j, hj, rfl, hb, HE⟩ := hrel
            have E2 := E1.trans hb
            by_cases hlt : j < m
            · obtain ⟨b', o', x, cs, rfl, hbw', hx, _, hc, rfl, _⟩ := (HS2.out wr E2).at_ hlt
              have y0 := hc 0 _ rfl
              have y1 := hc 1 _ rfl
              have y2 := hc 2 _ rfl
              have y3 := hc 3 _ rfl
              simp only [Nat.add_zero] at y0
              have r0 := hb.cell q0
              have r1 := hb.cell q1
              have hsz : w.heap.size < wr.heap.size := lt_of_cell r0
              have HA := Lib.hid (show ns.all (nodeB ps) = (nodeB ps x && (ns.drop (j + 1)).all (nodeB ps)) by rw [HE.out, drop_cons hx, List.all_cons])
              have HQ := Lib.hid (show nodeB ps x = (withinB x.Leaf 0 ((k : Int) - 1) && (leafB ps x.Leaf && vecB x.Cap)) by unfold nodeB; rw [HN.out])
              clear hc hx
              go_wp2_with fail
              refine (HWI.out x.Leaf 0 ((k : Int) - 1) _).mono ?_
              rintro e w1 ⟨rfl, rfl⟩
              rcases (Bool.eq_false_or_eq_true (withinB x.Leaf 0 ((k : Int) - 1))).symm with h1 | h1
              · have HF := Lib.hid (show topoB ps ns = false by rw [HH3.out, HA.out, HQ.out, h1]; rfl)
                go_wp2
                exact ret_bool rfl rfl rfl HF.out.symm (E2.trans ((Ext.refl _).alloc _))
              go_wp2_with fail
              refine (HLF.out x.Leaf _ (E2.trans ((Ext.refl _).alloc _))).mono ?_
              rintro e w1 ⟨rfl, rfl⟩
              rcases (Bool.eq_false_or_eq_true (leafB ps x.Leaf)).symm with h2 | h2
              · have HF := Lib.hid (show topoB ps ns = false by rw [HH3.out, HA.out, HQ.out, h1, h2]; rfl)
                go_wp2
                exact ret_bool rfl rfl rfl HF.out.symm (E2.trans ((Ext.refl _).alloc _))
              go_wp2_with fail
              refine (VecOk_c x.Cap _).mono ?_
              rintro e w3 ⟨rfl, hb3⟩
              have E3 := Lib.hid (hb.trans (((Ext.refl _).alloc _).trans hb3))
              clear hb3 y0 y1 y2 y3 r0 r1
              rcases (Bool.eq_false_or_eq_true (vecB x.Cap)).symm with h3 | h3
              · have HF := Lib.hid (show topoB ps ns = false by rw [HH3.out, HA.out, HQ.out, h1, h2, h3]; rfl)
                go_wp2
                exact ret_bool rfl rfl rfl HF.out.symm (E1.trans E3.out)
              · have HT := Lib.hid (show ns.all (nodeB ps) = (ns.drop (j + 1)).all (nodeB ps) by rw [HA.out, HQ.out, h1, h2, h3]; rfl)
                go_wp2
                go_roundw
                case rel => exact ⟨j + 1, by omega, by go_num, E3.out, HT⟩
                case measure => simp [intOf]; omega
            · have HT := Lib.hid (show topoB ps ns = true by rw [HH3.out, HE.out, List.drop_eq_nil_of_le (by have := HN2.out; omega)]; rfl)
              go_wp2
              exact ret_bool rfl rfl rfl HT.out.symm E2
end Go.Proofs.YtgmlcohffdeplaaGreat
