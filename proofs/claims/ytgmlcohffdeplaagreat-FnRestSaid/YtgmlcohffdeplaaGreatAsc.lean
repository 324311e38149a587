/- Contracts: spans of times, rising lists, numbers of nodes. -/
import Derived.Test.YtgmlcohffdeplaaGreatTopo2
import Derived.Test.YtgmlcohffdeplaaGreatChain
namespace Go.Proofs.YtgmlcohffdeplaaGreat
open Go.RowKit
set_option linter.unusedVariables false
def wspanB (a b : Int) : Bool := timeB a && (timeB b && decide (a < b))
def ltI (a b : Int) : Bool := decide (a < b)
def ascB (l : List Int) : Bool := chainGo (fun _ => true) ltI none l
def nodesB (m : Nat) (l : List Int) : Bool := l.all (fun x => withinB x 0 ((m : Int) - 1))
theorem acell_box (w : World) (cs : List Value) (e : TypeId) (j : Nat) (u : Value) (h : cs[j]? = some u) : (w.alloc (.cells cs.toArray e)).cell? ⟨w.heap.size, j, none⟩ = some u := law_box w cs e j u h
theorem wisSpan_c (a b : Int) (w : World) : Calls Tryz.prog 73 #[.int .i64 a, .int .i64 b] w (Same w (.bool (wspanB a b))) := by
  rcases (Bool.eq_false_or_eq_true (timeB a)).symm with h1 | h1
  · have HF := Lib.hid (show wspanB a b = false by unfold wspanB; rw [h1]; rfl)
    go_enter Tryz.func73, Tryz.ntmps73
    go_wp2_with fail
    refine (isTime_c a _).mono ?_
    rintro e w1 ⟨rfl, rfl⟩
    go_wp2
    exact same_bool rfl rfl rfl HF.out.symm
  rcases (Bool.eq_false_or_eq_true (timeB b)).symm with h2 | h2
  · have HF := Lib.hid (show wspanB a b = false by unfold wspanB; rw [h1, h2]; rfl)
    go_enter Tryz.func73, Tryz.ntmps73
    go_wp2_with fail
    refine (isTime_c a _).mono ?_
    rintro e w1 ⟨rfl, rfl⟩
    go_wp2_with fail
    refine (isTime_c b _).mono ?_
    rintro e w2 ⟨rfl, rfl⟩
    go_wp2
    exact same_bool rfl rfl rfl HF.out.symm
  have HF := Lib.hid (show wspanB a b = decide (a < b) by unfold wspanB; rw [h1, h2]; rfl)
  go_enter Tryz.func73, Tryz.ntmps73
  go_wp2_with fail
  refine (isTime_c a _).mono ?_
  rintro e w1 ⟨rfl, rfl⟩
  go_wp2_with fail
  refine (isTime_c b _).mono ?_
  rintro e w2 ⟨rfl, rfl⟩
  go_wp2
  exact same_bool rfl rfl rfl HF.out.symm
theorem asc_next {l : List Int} {k : Nat} {p x : Int} (hk : 0 < k) (hp : l[k - 1]? = some p) (hx : l[k]? = some x) : chainGo (fun _ => true) ltI (prevOf l k) (l.drop k) = (ltI p x && chainGo (fun _ => true) ltI (prevOf l (k + 1)) (l.drop (k + 1))) := by
  rw [drop_cons hx, prevOf_succ hx, prevOf, if_neg (by omega), hp]; simp [chainGo]
theorem asc_start (l : List Int) : ascB l = chainGo (fun _ => true) ltI (prevOf l 1) (l.drop 1) := by
  cases l with
  | nil => rfl
  | cons a r => simp [ascB, chainGo, prevOf]
theorem asc_end {l : List Int} {k : Nat} (h : l.length ≤ k) : chainGo (fun _ => true) ltI (prevOf l k) (l.drop k) = true := by
  rw [List.drop_eq_nil_of_le h, chain_end]
set_option maxHeartbeats 1000000 in
theorem areAscending_c (xs : List Int) (A : Option Addr) (n c : Nat) (w : World) (h : SlAt RInt 1 w A n xs) (hl : n ≤ maxLen) : Calls Tryz.prog 75 #[.slice A n c] w (Ret w (.bool (ascB xs))) := by
  unfold maxLen at hl
  have HN := Lib.hid h.len
  go_enter Tryz.func75, Tryz.ntmps75
  go_wp2
  go_loopw [3] (fun iv wr => ∃ k : Nat, 1 ≤ k ∧ k ≤ n + 1 ∧ iv = .int .i64 k ∧ Ext w wr ∧ Hid (ascB xs = chainGo (fun _ => true) ltI (prevOf xs k) (xs.drop k))) (fun iv _ => n + 1 - (intOf iv).toNat)
  case atStart => exact ⟨1, by omega, by omega, rfl, Ext.refl _, Lib.hid (asc_start xs)⟩
  case round =>
    obtain ⟨k, hk1, hk, rfl, hb, HE⟩ := hrel
    by_cases hlt : k < n
    · obtain ⟨b, o, x, cs, rfl, hbw, hx, _, hc, rfl, _⟩ := (h.ext (Flat.mono _ _) hb).at_ hlt
      obtain ⟨b', o', p, cs', eb, _, hp, _, hc', rfl, _⟩ := (h.ext (Flat.mono _ _) hb).at_ (show k - 1 < n by omega)
      injection eb with eb
      injection eb with eb eo
      subst eb eo
      have c0 := hc 0 _ rfl
      simp only [Nat.mul_one, Nat.add_zero] at c0
      have d0 := hc' 0 _ rfl
      simp only [Nat.mul_one, Nat.add_zero] at d0
      have HNX := Lib.hid (asc_next hk1 hp hx)
      have HB := Lib.hid hb
      have hk0 : 0 < k := hk1
      clear hc hc' hx hp hb h
      rcases Bool.eq_false_or_eq_true (decide (x ≤ p)) with h1 | h1
      · have HF := Lib.hid (show ascB xs = false by rw [HE.out, HNX.out, show ltI p x = false by unfold ltI; rw [decide_eq_false_iff_not]; have := of_decide_eq_true h1; omega]; rfl)
        have hcx := @Later.cell wr
        go_wp2
        refine wp_region_ext (by kernel_rfl) (by kernel_rfl) ?_
        repeat (go_big_quiet_step (fail))
        refine wpQuiet_nil ?_
        intro w1 hb1
        have HB1 := Lib.hid hb1
        clear hcx c0 d0 hb1
        go_wp2
        exact ret_bool rfl rfl rfl HF.out.symm (HB.out.trans HB1.out)
      · have HT := Lib.hid (show ascB xs = chainGo (fun _ => true) ltI (prevOf xs (k + 1)) (xs.drop (k + 1)) by rw [HE.out, HNX.out, show ltI p x = true by unfold ltI; rw [decide_eq_true_iff]; have := of_decide_eq_false h1; omega]; rfl)
        have hcx := @Later.cell wr
        go_wp2
        refine wp_region_ext (by kernel_rfl) (by kernel_rfl) ?_
        repeat (go_big_quiet_step (fail))
        refine wpQuiet_nil ?_
        intro w1 hb1
        have HB1 := Lib.hid hb1
        clear hcx c0 d0 hb1
        go_wp2
        go_roundw
        case rel => exact ⟨k + 1, by omega, by omega, by go_num, HB.out.trans HB1.out, HT⟩
        case measure => simp [intOf]; omega
    · have HF := Lib.hid (show ascB xs = true by rw [HE.out, asc_end (by have := HN.out; omega)])
      clear h
      go_wp2
      exact ret_bool rfl rfl rfl HF.out.symm hb
set_option maxHeartbeats 2000000 in
theorem areNodes_c (ps : List Int) (ns : List Node) (xs : List Int) (A : Option Addr) (n c : Nat) (B : Option Addr) (m d : Nat) (D : Option Addr) (q f : Nat) (w : World) (h : SlAt RInt 1 w A n ps) (hl : n ≤ maxLen) (h2 : SlAt RNode 4 w B m ns) (hl2 : m ≤ maxLen) (h3 : SlAt RInt 1 w D q xs) (hl3 : q ≤ maxLen) : Calls Tryz.prog 74 #[.agg #[.slice A n c, .slice B m d], .slice D q f] w (Ret w (.bool (nodesB ns.length xs && topoB ps ns))) := by
  have HT := Lib.hid (fun (u : World) (e : Ext w u) => TopoOk_c ps ns A n c B m d u (h.ext (Flat.mono _ _) e) hl (h2.ext (Flat.mono _ _) e) hl2)
  have HWI := Lib.hid (fun (x lo hi : Int) (u : World) => within_c x lo hi u)
  have HM := Lib.hid h2.len
  unfold maxLen at hl hl2 hl3
  have HN := Lib.hid h3.len
  clear h h2
  go_enter Tryz.func74, Tryz.ntmps74
  go_wp2
  go_loopw [9] (fun iv wr => ∃ k : Nat, k ≤ q ∧ iv = .int .i64 k ∧ Ext (w.alloc (.cells #[.slice A n c, .slice B m d] 38)) wr ∧ Hid (nodesB ns.length xs = (xs.drop k).all (fun x => withinB x 0 ((m : Int) - 1)))) (fun iv _ => q - (intOf iv).toNat)
  case atStart => exact ⟨0, Nat.zero_le _, rfl, Ext.refl _, Lib.hid (by unfold nodesB; rw [HM.out]; rfl)⟩
  case round =>
    obtain ⟨k, hk, rfl, hb, HE⟩ := hrel
    have q0 := hb.cell (acell_box w [.slice A n c, .slice B m d] 38 0 _ rfl)
    have q1 := hb.cell (acell_box w [.slice A n c, .slice B m d] 38 1 _ rfl)
    have eW : Ext w wr := ((Ext.refl w).alloc _).trans hb
    have hsz : w.heap.size < wr.heap.size := lt_of_cell q0
    by_cases hlt : k < q
    · obtain ⟨b, o, x, cs, rfl, hbw, hx, _, hc, rfl, _⟩ := (h3.ext (Flat.mono _ _) eW).at_ hlt
      have y0 := hc 0 _ rfl
      simp only [Nat.mul_one, Nat.add_zero] at y0
      have HNX := Lib.hid (show nodesB ns.length xs = (withinB x 0 ((m : Int) - 1) && (xs.drop (k + 1)).all (fun x => withinB x 0 ((m : Int) - 1))) by rw [HE.out, drop_cons hx, List.all_cons])
      clear hc hx h3
      go_wp2_with fail
      refine (HWI.out x 0 ((m : Int) - 1) _).mono ?_
      rintro e w1 ⟨rfl, rfl⟩
      rcases (Bool.eq_false_or_eq_true (withinB x 0 ((m : Int) - 1))).symm with h1 | h1
      · have HF := Lib.hid (show (nodesB ns.length xs && topoB ps ns) = false by rw [HNX.out, h1]; rfl)
        go_wp2
        exact ret_bool rfl rfl rfl HF.out.symm eW
      · have HF := Lib.hid (show nodesB ns.length xs = (xs.drop (k + 1)).all (fun x => withinB x 0 ((m : Int) - 1)) by rw [HNX.out, h1]; rfl)
        go_wp2
        go_roundw
        case rel => exact ⟨k + 1, by omega, by go_num, hb, HF⟩
        case measure => simp [intOf]; omega
    · have HF := Lib.hid (show (nodesB ns.length xs && topoB ps ns) = topoB ps ns by rw [HE.out, List.drop_eq_nil_of_le (by have := HN.out; omega)]; rfl)
      clear h3
      go_wp2_with fail
      refine (HT.out _ eW).mono ?_
      rintro e w2 ⟨rfl, hb2⟩
      go_wp2
      exact ret_bool rfl rfl rfl HF.out.symm (eW.trans hb2)
set_option maxHeartbeats 2000000 in
theorem l02Nodes_c (ps : List Int) (ns : List Node) (xs : List Int) (A : Option Addr) (n c : Nat) (B : Option Addr) (m d : Nat) (D : Option Addr) (q f : Nat) (w : World) (h : SlAt RInt 1 w A n ps) (hl : n ≤ maxLen) (h2 : SlAt RNode 4 w B m ns) (hl2 : m ≤ maxLen) (h3 : SlAt RInt 1 w D q xs) (hl3 : q ≤ maxLen) : Calls Tryz.prog 66 #[.agg #[.slice A n c, .slice B m d], .slice D q f] w (Ret w (.bool (nodesB ns.length xs && topoB ps ns))) := by
  have HT := Lib.hid (fun (u : World) (e : Ext w u) => sTopoOk_c ps ns A n c B m d u (h.ext (Flat.mono _ _) e) hl (h2.ext (Flat.mono _ _) e) hl2)
  have HM := Lib.hid h2.len
  unfold maxLen at hl hl2 hl3
  have HN := Lib.hid h3.len
  clear h h2
  go_enter Tryz.func66, Tryz.ntmps66
  go_wp2
  go_loopw [9] (fun iv wr => ∃ k : Nat, k ≤ q ∧ iv = .int .i64 k ∧ Ext (w.alloc (.cells #[.slice A n c, .slice B m d] 38)) wr ∧ Hid (nodesB ns.length xs = (xs.drop k).all (fun x => withinB x 0 ((m : Int) - 1)))) (fun iv _ => q - (intOf iv).toNat)
  case atStart => exact ⟨0, Nat.zero_le _, rfl, Ext.refl _, Lib.hid (by unfold nodesB; rw [HM.out]; rfl)⟩
  case round =>
    obtain ⟨k, hk, rfl, hb, HE⟩ := hrel
    have q0 := hb.cell (acell_box w [.slice A n c, .slice B m d] 38 0 _ rfl)
    have q1 := hb.cell (acell_box w [.slice A n c, .slice B m d] 38 1 _ rfl)
    have eW : Ext w wr := ((Ext.refl w).alloc _).trans hb
    have hsz : w.heap.size < wr.heap.size := lt_of_cell q0
    by_cases hlt : k < q
    · obtain ⟨b, o, x, cs, rfl, hbw, hx, _, hc, rfl, _⟩ := (h3.ext (Flat.mono _ _) eW).at_ hlt
      have y0 := hc 0 _ rfl
      simp only [Nat.mul_one, Nat.add_zero] at y0
      have HNX := Lib.hid (show nodesB ns.length xs = (withinB x 0 ((m : Int) - 1) && (xs.drop (k + 1)).all (fun x => withinB x 0 ((m : Int) - 1))) by rw [HE.out, drop_cons hx, List.all_cons])
      clear hc hx h3
      by_cases h1 : x < 0
      · have HF := Lib.hid (show (nodesB ns.length xs && topoB ps ns) = false by rw [HNX.out, show withinB x 0 ((m : Int) - 1) = false by unfold withinB; rw [decide_eq_false_iff_not]; omega]; rfl)
        go_wp2
        exact ret_bool rfl rfl rfl HF.out.symm eW
      by_cases h2 : (m : Int) ≤ x
      · have HF := Lib.hid (show (nodesB ns.length xs && topoB ps ns) = false by rw [HNX.out, show withinB x 0 ((m : Int) - 1) = false by unfold withinB; rw [decide_eq_false_iff_not]; omega]; rfl)
        go_wp2
        exact ret_bool rfl rfl rfl HF.out.symm eW
      · have HF := Lib.hid (show nodesB ns.length xs = (xs.drop (k + 1)).all (fun x => withinB x 0 ((m : Int) - 1)) by rw [HNX.out, show withinB x 0 ((m : Int) - 1) = true by unfold withinB; rw [decide_eq_true_iff]; omega]; rfl)
        go_wp2
        go_roundw
        case rel => exact ⟨k + 1, by omega, by go_num, hb, HF⟩
        case measure => simp [intOf]; omega
    · have HF := Lib.hid (show (nodesB ns.length xs && topoB ps ns) = topoB ps ns by rw [HE.out, List.drop_eq_nil_of_le (by have := HN.out; omega)]; rfl)
      clear h3
      go_wp2_with fail
      refine (HT.out _ eW).mono ?_
      rintro e w2 ⟨rfl, hb2⟩
      go_wp2
      exact ret_bool rfl rfl rfl HF.out.symm (eW.trans hb2)
end Go.Proofs.YtgmlcohffdeplaaGreat
