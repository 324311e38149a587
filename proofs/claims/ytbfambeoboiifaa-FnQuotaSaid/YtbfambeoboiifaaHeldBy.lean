/- Contracts: what one name holds, both sides. -/
import Derived.Test.YtbfambeoboiifaaHeld
namespace Go.Proofs.Ytbfambeoboiifaa
open Go.RowKit
set_option linter.unusedVariables false
set_option maxHeartbeats 8000000 in
set_option maxRecDepth 10000 in
theorem HeldBy_c (xs : List Hold) (name : ByteArray) (A : Option Addr) (n c : Nat) (w : World) (h : SlAt RHold 12 w A n xs) (hl : n ≤ maxLen) (hcap : n ≤ c) : Calls Try.prog 27 #[.slice A n c, .string name] w (Ret w (.tuple #[.int .i64 (heldJ xs name), .int .i64 (heldN xs name), .agg #[.int .i64 (heldV xs name).A, .int .i64 (heldV xs name).B, .int .i64 (heldV xs name).C], .bool (heldB xs name)])) := by
  have hl' := hl
  unfold maxLen at hl
  have HN := Lib.hid h.len
  have hM := Flat.mono Hold.enc Hold.ok
  have hA := Lib.hid (fun (u : World) (e : Ext w u) => HoldsOk_c xs A n c u (h.ext hM e) hl' hcap)
  rcases (Bool.eq_false_or_eq_true (holdsB xs)).symm with hB | hB
  all_goals rw [hB] at hA
  · obtain ⟨e1, e2, e3, e4⟩ := held_none (l := xs) (name := name) (by unfold heldL; rw [hB]; rfl)
    rw [e1, e2, e3, e4]
    simp only [Vec.zero]
    clear e1 e2 e3 e4
    go_enter Try.func27, Try.ntmps27
    go_wp2_with fail
    refine (hA.out _ (by repeat (first | exact Ext.refl _ | apply Ext.alloc))).mono ?_
    rintro e w1 ⟨rfl, hb1⟩
    obtain ⟨hcr1, hfr1, hz1⟩ := hb1.rules
    (try simp at hz1)
    have hy1_w0 : w.heap.size < w1.heap.size := (by omega)
    have e0 : Ext (w.alloc (.cells #[.int .i64 0, .int .i64 0, .int .i64 0] 42)) w1 := by first | exact hb1 | exact ((Ext.refl _).alloc _).trans hb1
    have q0 := e0.cell (cell_box w [.int .i64 0, .int .i64 0, .int .i64 0] 42 0 _ rfl)
    have q1 := e0.cell (cell_box w [.int .i64 0, .int .i64 0, .int .i64 0] 42 1 _ rfl)
    have q2 := e0.cell (cell_box w [.int .i64 0, .int .i64 0, .int .i64 0] 42 2 _ rfl)
    go_wp2
    skip
    exact ret_is (by simp [results, Try.results27, go_sem, *]) rfl (by repeat (first | exact Ext.refl _ | assumption | apply Ext.alloc | apply Ext.drewN | apply Ext.drew | (refine Ext.setCell ?_ (by first | (simp; done) | (simp; omega) | omega) _) | (refine Ext.trans ?_ (by assumption))))
  obtain ⟨hall, hlen⟩ := holdsB_all hB
  have hn60 : n ≤ 60 := by rw [← HN.out]; exact hlen
  have HALL := Lib.hid hall
  have HFR := Lib.hid (fun k => fold_rest (name := name) (k := k) hB)
  clear hall hlen hB
  go_enter Try.func27, Try.ntmps27
  go_wp2_with fail
  refine (hA.out _ (by repeat (first | exact Ext.refl _ | apply Ext.alloc))).mono ?_
  rintro e w1 ⟨rfl, hb1⟩
  obtain ⟨hcr1, hfr1, hz1⟩ := hb1.rules
  (try simp at hz1)
  have hy1_w0 : w.heap.size < w1.heap.size := (by omega)
  clear hA
  go_wp2
  go_loopw [8, 9, 24] (fun jv nv i wr => ∃ (k : Nat) (jj nn : Int) (s : Vec), k ≤ n ∧ i = .int .i64 k ∧ jv = .int .i64 jj ∧ nv = .int .i64 nn ∧ 0 ≤ jj ∧ jj ≤ k ∧ 0 ≤ nn ∧ nn ≤ 24 * k ∧ Hid (vecB s = true) ∧ Hid ((xs.take k).foldl (heldStep name) (some (0, 0, Vec.zero)) = some (jj, nn, s)) ∧ wr.cell? ⟨w1.heap.size, 0, none⟩ = some (.int .i64 s.A) ∧ wr.cell? ⟨w1.heap.size, 1, none⟩ = some (.int .i64 s.B) ∧ wr.cell? ⟨w1.heap.size, 2, none⟩ = some (.int .i64 s.C) ∧ wr.frozen? ⟨w1.heap.size, 0, none⟩ = false ∧ wr.frozen? ⟨w1.heap.size, 1, none⟩ = false ∧ wr.frozen? ⟨w1.heap.size, 2, none⟩ = false ∧ Ext w1 wr ∧ w1.heap.size ≤ wr.heap.size ∧ w1.heap.size < wr.heap.size) (fun _ _ i _ => n - (intOf i).toNat)
  case atStart => exact ⟨0, 0, 0, Vec.zero, Nat.zero_le _, rfl, rfl, rfl, by omega, by omega, by omega, by omega, Lib.hid rfl, Lib.hid rfl, by simp [*, Vec.zero], by simp [*, Vec.zero], by simp [*, Vec.zero], by simp [*], by simp [*], by simp [*], by first | exact (Ext.refl _).alloc _ | exact ((Ext.refl _).alloc _).trans hb1, by first | omega | simp, by first | omega | (simp; done) | (simp; omega)⟩
  case round =>
    obtain ⟨k, jj, nn, s, hk, rfl, rfl, rfl, j0, j1, n0, n1, HSV, HACC, c0, c1, c2, f0, f1, f2, hbr, hzr0, hzr⟩ := hrel
    obtain ⟨hcrr, hfrr, hzr2⟩ := hbr.rules
    (try simp at hzr2)
    have eW : Ext w w1 := (by repeat (first | exact Ext.refl _ | apply Ext.alloc | (refine Ext.trans ?_ hb1)))
    have hb := eW.trans hbr
    have hyr0 : w.heap.size < wr.heap.size := by omega
    have ew0 : Ext (w.alloc (.cells #[.int .i64 0, .int .i64 0, .int .i64 0] 42)) wr := Ext.trans (by first | exact hb1 | exact Ext.refl _) hbr
    by_cases hlt : k < n
    · obtain ⟨b, o, x, cs, rfl, hbw, hx, _, hc, rfl, _⟩ := (h.ext hM hb).at_ hlt
      have g0 := hc 0 _ rfl
      have g1 := hc 1 _ rfl
      have g2 := hc 2 _ rfl
      have g3 := hc 3 _ rfl
      have g4 := hc 4 _ rfl
      have g5 := hc 5 _ rfl
      have g6 := hc 6 _ rfl
      have g7 := hc 7 _ rfl
      have g8 := hc 8 _ rfl
      have g9 := hc 9 _ rfl
      have g10 := hc 10 _ rfl
      have g11 := hc 11 _ rfl
      simp only [Nat.add_zero] at g0
      obtain ⟨m0, m1⟩ := holdOk_nodes (HALL.out x (List.mem_of_getElem? hx))
      have HS := Lib.hid (show (xs.take (k + 1)).foldl (heldStep name) (some (0, 0, Vec.zero)) = heldStep name (some (jj, nn, s)) x by rw [take_succ hx, List.foldl_append, HACC.out]; rfl)
      have hkz := HFR.out (k + 1)
      have HKZ := Lib.hid hkz
      clear hc hx h hkz HACC
      rcases (Bool.eq_false_or_eq_true (x.Name.toList == name.toList)).symm with h1 | h1
      · have HT := Lib.hid (show heldStep name (some (jj, nn, s)) x = some (jj, nn, s) by unfold heldStep; simp only [h1]; rfl)
        go_wp2
        go_roundw
        case rel => exact ⟨k + 1, jj, nn, s, by omega, by go_num, rfl, rfl, by omega, by omega, by omega, by omega, HSV, Lib.hid (HS.out.trans HT.out), by go_simp, by go_simp, by go_simp, by go_simp, by go_simp, by go_simp, hbr.alloc _, by simp; omega, by simp; omega⟩
        case measure => simp [intOf]; omega
      have HT := Lib.hid (show heldStep name (some (jj, nn, s)) x = if (timesOkB x.Job.Need x.Job.Nodes && addOkB s (timesV x.Job.Need x.Job.Nodes)) = true then some (jj + 1, nn + x.Job.Nodes, addV s (timesV x.Job.Need x.Job.Nodes)) else none by unfold heldStep; simp only [h1]; rfl)
      have HTI := Lib.hid (fun u : World => Times_c x.Job.Need x.Job.Nodes u)
      have HTV := Lib.hid (timesV_ok x.Job.Need x.Job.Nodes)
      generalize timesV x.Job.Need x.Job.Nodes = t at *
      generalize timesOkB x.Job.Need x.Job.Nodes = tb at *
      have HVA := Lib.hid (fun u : World => VecAdd_c s t u HSV.out HTV.out)
      have HAV := Lib.hid (addV_ok s t)
      generalize addV s t = r at *
      generalize addOkB s t = ab at *
      have hbad : (tb && ab) = false → heldL xs name = none := fun hh => by rw [HKZ.out, HS.out, HT.out, hh]; simp [fold_none]
      have HBAD := Lib.hid hbad
      clear hbad
      cases tb
      all_goals cases ab
      all_goals
        go_wp2_with fail
        refine (HTI.out _).mono ?_
        rintro e w2 ⟨rfl, hb2⟩
        obtain ⟨hcr2, hfr2, hz2⟩ := hb2.rules
        (try simp at hz2)
        have hy2_w10 : w1.heap.size < w2.heap.size := (by omega)
        have hy2_wr0 : wr.heap.size < w2.heap.size := (by omega)
        have hy2_w0 : w.heap.size < w2.heap.size := (by omega)
        have hy2_w1 : w.heap.size + 1 < w2.heap.size := (by omega)
        go_wp2_with fail
        refine (HVA.out _).mono ?_
        rintro e w3 ⟨rfl, hb3⟩
        have e3 : Ext wr w3 := (((((Ext.refl wr).alloc (.cells #[.string x.Name, .int .i64 x.Job.Id, .int .i64 x.Job.Prio, .int .i64 x.Job.Nodes, .int .i64 x.Job.Need.A, .int .i64 x.Job.Need.B, .int .i64 x.Job.Need.C, .int .i64 x.Job.Lic.A, .int .i64 x.Job.Lic.B, .int .i64 x.Job.Lic.C, .int .i64 x.Job.Wall, .int .i64 x.Job.Level] 54)).trans hb2).alloc (.cells #[.int .i64 t.A, .int .i64 t.B, .int .i64 t.C] 42)).trans hb3)
        have z3 := e3.le
        have k0 := e3.cell c0
        have k1 := e3.cell c1
        have k2 := e3.cell c2
        have l0 := (e3.frozenEq (lt_of_cell c0)).trans f0
        have l1 := (e3.frozenEq (lt_of_cell c1)).trans f1
        have l2 := (e3.frozenEq (lt_of_cell c2)).trans f2
        have q0 := (ew0.trans e3).cell (cell_box w [.int .i64 0, .int .i64 0, .int .i64 0] 42 0 _ rfl)
        have q1 := (ew0.trans e3).cell (cell_box w [.int .i64 0, .int .i64 0, .int .i64 0] 42 1 _ rfl)
        have q2 := (ew0.trans e3).cell (cell_box w [.int .i64 0, .int .i64 0, .int .i64 0] 42 2 _ rfl)
        have p0 := ((ew0.trans e3).frozenEq (a := ⟨w.heap.size, 0, none⟩) (by simp)).trans (by simp : _ = false)
        have p1 := ((ew0.trans e3).frozenEq (a := ⟨w.heap.size, 1, none⟩) (by simp)).trans (by simp : _ = false)
        have p2 := ((ew0.trans e3).frozenEq (a := ⟨w.heap.size, 2, none⟩) (by simp)).trans (by simp : _ = false)
        have x3 := (((hb2.alloc (.cells #[.int .i64 t.A, .int .i64 t.B, .int .i64 t.C] 42)).trans hb3)).cell (cell_box wr [.string x.Name, .int .i64 x.Job.Id, .int .i64 x.Job.Prio, .int .i64 x.Job.Nodes, .int .i64 x.Job.Need.A, .int .i64 x.Job.Need.B, .int .i64 x.Job.Need.C, .int .i64 x.Job.Lic.A, .int .i64 x.Job.Lic.B, .int .i64 x.Job.Lic.C, .int .i64 x.Job.Wall, .int .i64 x.Job.Level] 54 3 _ rfl)
        have hB3 : w1.heap.size < w3.heap.size := by omega
        have hW3 : w.heap.size < w3.heap.size := by omega
        have hX3 : wr.heap.size < w3.heap.size := by have := hb2.le; have := hb3.le; simp at *; omega
        clear hcr2 hfr2 hcrr hfrr hcr1 hfr1 c0 c1 c2 f0 f1 f2
        go_wp2
      rotate_right 1
      · go_roundw
        case rel => exact ⟨k + 1, jj + 1, nn + x.Job.Nodes, r, by omega, by go_num, rfl, rfl, by omega, by omega, by omega, by omega, HAV, Lib.hid (by rw [HS.out, HT.out]; rfl), by go_simp, by go_simp, by go_simp, by go_simp, by go_simp, by go_simp, (by repeat (first | exact Ext.refl _ | assumption | apply Ext.alloc | apply Ext.drewN | apply Ext.drew | (refine Ext.setCell ?_ (by first | (simp; done) | (simp; omega) | omega) _) | (refine Ext.trans ?_ (by assumption)))), by simp; omega, by simp; omega⟩
        case measure => simp [intOf]; omega
      all_goals
        obtain ⟨e1, e2, e3, e4⟩ := held_none (HBAD.out rfl)
        rw [e1, e2, e3, e4]
        simp only [Vec.zero]
        clear e1 e2 e3 e4
        exact ret_is (by simp [results, Try.results27, go_sem, *]) rfl (by repeat (first | exact Ext.refl _ | assumption | apply Ext.alloc | apply Ext.drewN | apply Ext.drew | (refine Ext.setCell ?_ (by first | (simp; done) | (simp; omega) | omega) _) | (refine Ext.trans ?_ (by assumption))))
    · have hkn : k = n := by omega
      obtain ⟨e1, e2, e3, e4⟩ := held_some (show heldL xs name = some (jj, nn, s) by rw [HFR.out k, HACC.out, List.drop_eq_nil_of_le (by have := HN.out; omega)]; rfl)
      have E1 := Lib.hid e1; have E2 := Lib.hid e2; have E3 := Lib.hid e3; have E4 := Lib.hid e4
      clear e1 e2 e3 e4 h
      have q0 := ew0.cell (cell_box w [.int .i64 0, .int .i64 0, .int .i64 0] 42 0 _ rfl)
      have q1 := ew0.cell (cell_box w [.int .i64 0, .int .i64 0, .int .i64 0] 42 1 _ rfl)
      have q2 := ew0.cell (cell_box w [.int .i64 0, .int .i64 0, .int .i64 0] 42 2 _ rfl)
      have p0 := (ew0.frozenEq (a := ⟨w.heap.size, 0, none⟩) (by simp)).trans (by simp : _ = false)
      have p1 := (ew0.frozenEq (a := ⟨w.heap.size, 1, none⟩) (by simp)).trans (by simp : _ = false)
      have p2 := (ew0.frozenEq (a := ⟨w.heap.size, 2, none⟩) (by simp)).trans (by simp : _ = false)
      clear hcrr hfrr hcr1 hfr1
      go_wp2
      go_region
      go_wp2
      rw [E1.out, E2.out, E3.out, E4.out]
      exact ret_is (by simp [results, Try.results27, go_sem, *]) rfl (by repeat (first | exact Ext.refl _ | assumption | apply Ext.alloc | apply Ext.drewN | apply Ext.drew | (refine Ext.setCell ?_ (by first | (simp; done) | (simp; omega) | omega) _) | (refine Ext.trans ?_ (by assumption))))
set_option maxHeartbeats 8000000 in
set_option maxRecDepth 10000 in
theorem sHeldBy_c (xs : List Hold) (name : ByteArray) (A : Option Addr) (n c : Nat) (w : World) (h : SlAt RHold 12 w A n xs) (hl : n ≤ maxLen) (hcap : n ≤ c) : Calls Try.prog 90 #[.slice A n c, .string name] w (Ret w (.tuple #[.int .i64 (heldJ xs name), .int .i64 (heldN xs name), .agg #[.int .i64 (heldV xs name).A, .int .i64 (heldV xs name).B, .int .i64 (heldV xs name).C], .bool (heldB xs name)])) := by
  have hl' := hl
  unfold maxLen at hl
  have HN := Lib.hid h.len
  have hM := Flat.mono Hold.enc Hold.ok
  have hA := Lib.hid (fun (u : World) (e : Ext w u) => sHoldsOk_c xs A n c u (h.ext hM e) hl' hcap)
  rcases (Bool.eq_false_or_eq_true (holdsB xs)).symm with hB | hB
  all_goals rw [hB] at hA
  · obtain ⟨e1, e2, e3, e4⟩ := held_none (l := xs) (name := name) (by unfold heldL; rw [hB]; rfl)
    rw [e1, e2, e3, e4]
    simp only [Vec.zero]
    clear e1 e2 e3 e4
    go_enter Try.func90, Try.ntmps90
    go_wp2_with fail
    refine (hA.out _ (by repeat (first | exact Ext.refl _ | apply Ext.alloc))).mono ?_
    rintro e w1 ⟨rfl, hb1⟩
    obtain ⟨hcr1, hfr1, hz1⟩ := hb1.rules
    (try simp at hz1)
    have hy1_w0 : w.heap.size < w1.heap.size := (by omega)
    have hy1_w1 : w.heap.size + 1 < w1.heap.size := (by omega)
    have e0 : Ext (w.alloc (.cells #[.int .i64 0, .int .i64 0, .int .i64 0] 42)) w1 := by first | exact hb1 | exact ((Ext.refl _).alloc _).trans hb1
    have q0 := e0.cell (cell_box w [.int .i64 0, .int .i64 0, .int .i64 0] 42 0 _ rfl)
    have q1 := e0.cell (cell_box w [.int .i64 0, .int .i64 0, .int .i64 0] 42 1 _ rfl)
    have q2 := e0.cell (cell_box w [.int .i64 0, .int .i64 0, .int .i64 0] 42 2 _ rfl)
    go_wp2
    (go_region; go_wp2)
    exact ret_is (by simp [results, Try.results90, go_sem, *]) rfl (by repeat (first | exact Ext.refl _ | assumption | apply Ext.alloc | apply Ext.drewN | apply Ext.drew | (refine Ext.setCell ?_ (by first | (simp; done) | (simp; omega) | omega) _) | (refine Ext.trans ?_ (by assumption))))
  obtain ⟨hall, hlen⟩ := holdsB_all hB
  have hn60 : n ≤ 60 := by rw [← HN.out]; exact hlen
  have HALL := Lib.hid hall
  have HFR := Lib.hid (fun k => fold_rest (name := name) (k := k) hB)
  clear hall hlen hB
  go_enter Try.func90, Try.ntmps90
  go_wp2_with fail
  refine (hA.out _ (by repeat (first | exact Ext.refl _ | apply Ext.alloc))).mono ?_
  rintro e w1 ⟨rfl, hb1⟩
  obtain ⟨hcr1, hfr1, hz1⟩ := hb1.rules
  (try simp at hz1)
  have hy1_w0 : w.heap.size < w1.heap.size := (by omega)
  have hy1_w1 : w.heap.size + 1 < w1.heap.size := (by omega)
  clear hA
  go_wp2
  go_loopw [8, 9, 24] (fun jv nv i wr => ∃ (k : Nat) (jj nn : Int) (s : Vec), k ≤ n ∧ i = .int .i64 k ∧ jv = .int .i64 jj ∧ nv = .int .i64 nn ∧ 0 ≤ jj ∧ jj ≤ k ∧ 0 ≤ nn ∧ nn ≤ 24 * k ∧ Hid (vecB s = true) ∧ Hid ((xs.take k).foldl (heldStep name) (some (0, 0, Vec.zero)) = some (jj, nn, s)) ∧ wr.cell? ⟨w.heap.size + 1, 0, none⟩ = some (.int .i64 s.A) ∧ wr.cell? ⟨w.heap.size + 1, 1, none⟩ = some (.int .i64 s.B) ∧ wr.cell? ⟨w.heap.size + 1, 2, none⟩ = some (.int .i64 s.C) ∧ wr.frozen? ⟨w.heap.size + 1, 0, none⟩ = false ∧ wr.frozen? ⟨w.heap.size + 1, 1, none⟩ = false ∧ wr.frozen? ⟨w.heap.size + 1, 2, none⟩ = false ∧ Ext (w.alloc (.cells #[.int .i64 0, .int .i64 0, .int .i64 0] 42)) wr ∧ w1.heap.size ≤ wr.heap.size ∧ w.heap.size + 1 < wr.heap.size) (fun _ _ i _ => n - (intOf i).toNat)
  case atStart => exact ⟨0, 0, 0, Vec.zero, Nat.zero_le _, rfl, rfl, rfl, by omega, by omega, by omega, by omega, Lib.hid rfl, Lib.hid rfl, by simp [*, Vec.zero], by simp [*, Vec.zero], by simp [*, Vec.zero], by simp [*], by simp [*], by simp [*], by first | exact (Ext.refl _).alloc _ | exact ((Ext.refl _).alloc _).trans hb1, by first | omega | simp, by first | omega | (simp; done) | (simp; omega)⟩
  case round =>
    obtain ⟨k, jj, nn, s, hk, rfl, rfl, rfl, j0, j1, n0, n1, HSV, HACC, c0, c1, c2, f0, f1, f2, hbr, hzr0, hzr⟩ := hrel
    obtain ⟨hcrr, hfrr, hzr2⟩ := hbr.rules
    (try simp at hzr2)
    have eW : Ext w (w.alloc (.cells #[.int .i64 0, .int .i64 0, .int .i64 0] 42)) := (by repeat (first | exact Ext.refl _ | apply Ext.alloc | (refine Ext.trans ?_ hb1)))
    have hb := eW.trans hbr
    have hyr0 : w.heap.size < wr.heap.size := by omega
    have ew0 : Ext (w.alloc (.cells #[.int .i64 0, .int .i64 0, .int .i64 0] 42)) wr := Ext.trans (by first | exact hb1 | exact Ext.refl _) hbr
    by_cases hlt : k < n
    · obtain ⟨b, o, x, cs, rfl, hbw, hx, _, hc, rfl, _⟩ := (h.ext hM hb).at_ hlt
      have g0 := hc 0 _ rfl
      have g1 := hc 1 _ rfl
      have g2 := hc 2 _ rfl
      have g3 := hc 3 _ rfl
      have g4 := hc 4 _ rfl
      have g5 := hc 5 _ rfl
      have g6 := hc 6 _ rfl
      have g7 := hc 7 _ rfl
      have g8 := hc 8 _ rfl
      have g9 := hc 9 _ rfl
      have g10 := hc 10 _ rfl
      have g11 := hc 11 _ rfl
      simp only [Nat.add_zero] at g0
      obtain ⟨m0, m1⟩ := holdOk_nodes (HALL.out x (List.mem_of_getElem? hx))
      have HS := Lib.hid (show (xs.take (k + 1)).foldl (heldStep name) (some (0, 0, Vec.zero)) = heldStep name (some (jj, nn, s)) x by rw [take_succ hx, List.foldl_append, HACC.out]; rfl)
      have hkz := HFR.out (k + 1)
      have HKZ := Lib.hid hkz
      clear hc hx h hkz HACC
      rcases (Bool.eq_false_or_eq_true (x.Name.toList == name.toList)).symm with h1 | h1
      · have HT := Lib.hid (show heldStep name (some (jj, nn, s)) x = some (jj, nn, s) by unfold heldStep; simp only [h1]; rfl)
        go_wp2
        go_roundw
        case rel => exact ⟨k + 1, jj, nn, s, by omega, by go_num, rfl, rfl, by omega, by omega, by omega, by omega, HSV, Lib.hid (HS.out.trans HT.out), by go_simp, by go_simp, by go_simp, by go_simp, by go_simp, by go_simp, hbr.alloc _, by simp; omega, by simp; omega⟩
        case measure => simp [intOf]; omega
      have HT := Lib.hid (show heldStep name (some (jj, nn, s)) x = if (timesOkB x.Job.Need x.Job.Nodes && addOkB s (timesV x.Job.Need x.Job.Nodes)) = true then some (jj + 1, nn + x.Job.Nodes, addV s (timesV x.Job.Need x.Job.Nodes)) else none by unfold heldStep; simp only [h1]; rfl)
      have HTI := Lib.hid (fun u : World => sTimes_c x.Job.Need x.Job.Nodes u (by unfold In64; omega))
      have HTV := Lib.hid (timesV_ok x.Job.Need x.Job.Nodes)
      generalize timesV x.Job.Need x.Job.Nodes = t at *
      generalize timesOkB x.Job.Need x.Job.Nodes = tb at *
      have HVA := Lib.hid (fun u : World => sVecAdd_c s t u)
      have HAV := Lib.hid (addV_ok s t)
      generalize addV s t = r at *
      generalize addOkB s t = ab at *
      have hbad : (tb && ab) = false → heldL xs name = none := fun hh => by rw [HKZ.out, HS.out, HT.out, hh]; simp [fold_none]
      have HBAD := Lib.hid hbad
      clear hbad
      cases tb
      all_goals cases ab
      all_goals
        go_wp2_with fail
        refine (HTI.out _).mono ?_
        rintro e w2 ⟨rfl, hb2⟩
        obtain ⟨hcr2, hfr2, hz2⟩ := hb2.rules
        (try simp at hz2)
        have hy2_w10 : w1.heap.size < w2.heap.size := (by omega)
        have hy2_wr0 : wr.heap.size < w2.heap.size := (by omega)
        have hy2_w0 : w.heap.size < w2.heap.size := (by omega)
        have hy2_w1 : w.heap.size + 1 < w2.heap.size := (by omega)
        go_wp2_with fail
        refine (HVA.out _).mono ?_
        rintro e w3 ⟨rfl, hb3⟩
        have e3 : Ext wr w3 := (((((Ext.refl wr).alloc (.cells #[.string x.Name, .int .i64 x.Job.Id, .int .i64 x.Job.Prio, .int .i64 x.Job.Nodes, .int .i64 x.Job.Need.A, .int .i64 x.Job.Need.B, .int .i64 x.Job.Need.C, .int .i64 x.Job.Lic.A, .int .i64 x.Job.Lic.B, .int .i64 x.Job.Lic.C, .int .i64 x.Job.Wall, .int .i64 x.Job.Level] 54)).trans hb2).alloc (.cells #[.int .i64 t.A, .int .i64 t.B, .int .i64 t.C] 42)).trans hb3)
        have z3 := e3.le
        have k0 := e3.cell c0
        have k1 := e3.cell c1
        have k2 := e3.cell c2
        have l0 := (e3.frozenEq (lt_of_cell c0)).trans f0
        have l1 := (e3.frozenEq (lt_of_cell c1)).trans f1
        have l2 := (e3.frozenEq (lt_of_cell c2)).trans f2
        have q0 := (ew0.trans e3).cell (cell_box w [.int .i64 0, .int .i64 0, .int .i64 0] 42 0 _ rfl)
        have q1 := (ew0.trans e3).cell (cell_box w [.int .i64 0, .int .i64 0, .int .i64 0] 42 1 _ rfl)
        have q2 := (ew0.trans e3).cell (cell_box w [.int .i64 0, .int .i64 0, .int .i64 0] 42 2 _ rfl)
        have p0 := ((ew0.trans e3).frozenEq (a := ⟨w.heap.size, 0, none⟩) (by simp)).trans (by simp : _ = false)
        have p1 := ((ew0.trans e3).frozenEq (a := ⟨w.heap.size, 1, none⟩) (by simp)).trans (by simp : _ = false)
        have p2 := ((ew0.trans e3).frozenEq (a := ⟨w.heap.size, 2, none⟩) (by simp)).trans (by simp : _ = false)
        have x3 := (((hb2.alloc (.cells #[.int .i64 t.A, .int .i64 t.B, .int .i64 t.C] 42)).trans hb3)).cell (cell_box wr [.string x.Name, .int .i64 x.Job.Id, .int .i64 x.Job.Prio, .int .i64 x.Job.Nodes, .int .i64 x.Job.Need.A, .int .i64 x.Job.Need.B, .int .i64 x.Job.Need.C, .int .i64 x.Job.Lic.A, .int .i64 x.Job.Lic.B, .int .i64 x.Job.Lic.C, .int .i64 x.Job.Wall, .int .i64 x.Job.Level] 54 3 _ rfl)
        have hB3 : w.heap.size + 1 < w3.heap.size := by omega
        have hW3 : w.heap.size < w3.heap.size := by omega
        have hX3 : wr.heap.size < w3.heap.size := by have := hb2.le; have := hb3.le; simp at *; omega
        clear hcr2 hfr2 hcrr hfrr hcr1 hfr1 c0 c1 c2 f0 f1 f2
        go_wp2
      rotate_right 1
      · go_roundw
        case rel => exact ⟨k + 1, jj + 1, nn + x.Job.Nodes, r, by omega, by go_num, rfl, rfl, by omega, by omega, by omega, by omega, HAV, Lib.hid (by rw [HS.out, HT.out]; rfl), by go_simp, by go_simp, by go_simp, by go_simp, by go_simp, by go_simp, (by repeat (first | exact Ext.refl _ | assumption | apply Ext.alloc | apply Ext.drewN | apply Ext.drew | (refine Ext.setCell ?_ (by first | (simp; done) | (simp; omega) | omega) _) | (refine Ext.trans ?_ (by assumption)))), by simp; omega, by simp; omega⟩
        case measure => simp [intOf]; omega
      all_goals
        obtain ⟨e1, e2, e3, e4⟩ := held_none (HBAD.out rfl)
        rw [e1, e2, e3, e4]
        simp only [Vec.zero]
        clear e1 e2 e3 e4
        exact ret_is (by simp [results, Try.results90, go_sem, *]) rfl (by repeat (first | exact Ext.refl _ | assumption | apply Ext.alloc | apply Ext.drewN | apply Ext.drew | (refine Ext.setCell ?_ (by first | (simp; done) | (simp; omega) | omega) _) | (refine Ext.trans ?_ (by assumption))))
    · have hkn : k = n := by omega
      obtain ⟨e1, e2, e3, e4⟩ := held_some (show heldL xs name = some (jj, nn, s) by rw [HFR.out k, HACC.out, List.drop_eq_nil_of_le (by have := HN.out; omega)]; rfl)
      have E1 := Lib.hid e1; have E2 := Lib.hid e2; have E3 := Lib.hid e3; have E4 := Lib.hid e4
      clear e1 e2 e3 e4 h
      have q0 := ew0.cell (cell_box w [.int .i64 0, .int .i64 0, .int .i64 0] 42 0 _ rfl)
      have q1 := ew0.cell (cell_box w [.int .i64 0, .int .i64 0, .int .i64 0] 42 1 _ rfl)
      have q2 := ew0.cell (cell_box w [.int .i64 0, .int .i64 0, .int .i64 0] 42 2 _ rfl)
      have p0 := (ew0.frozenEq (a := ⟨w.heap.size, 0, none⟩) (by simp)).trans (by simp : _ = false)
      have p1 := (ew0.frozenEq (a := ⟨w.heap.size, 1, none⟩) (by simp)).trans (by simp : _ = false)
      have p2 := (ew0.frozenEq (a := ⟨w.heap.size, 2, none⟩) (by simp)).trans (by simp : _ = false)
      clear hcrr hfrr hcr1 hfr1
      go_wp2
      go_region
      go_wp2
      rw [E1.out, E2.out, E3.out, E4.out]
      exact ret_is (by simp [results, Try.results90, go_sem, *]) rfl (by repeat (first | exact Ext.refl _ | assumption | apply Ext.alloc | apply Ext.drewN | apply Ext.drew | (refine Ext.setCell ?_ (by first | (simp; done) | (simp; omega) | omega) _) | (refine Ext.trans ?_ (by assumption))))
end Go.Proofs.Ytbfambeoboiifaa
