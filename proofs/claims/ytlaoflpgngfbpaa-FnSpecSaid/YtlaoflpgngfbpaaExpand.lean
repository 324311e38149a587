/- Contracts: the jobs of an array. -/
import Derived.Test.YtlaoflpgngfbpaaIds
import Derived.Test.YtlaoflpgngfbpaaJob
import Derived.Test.YtlaoflpgngfbpaaAppend2
namespace Go.Proofs.Ytlaoflpgngfbpaa
open Go.RowKit
set_option linter.unusedVariables false
def setId (j : Job) (i : Int) : Job := { j with Id := i }
def expandB (j : Job) (l : List Span) (m : Int) : Bool := specB l m && jobB (setId j 1)
def expandL (j : Job) (l : List Span) (m : Int) : List Job := if expandB j l m = true then (specIdsL l m).map (setId j) else []
theorem expandL_len (j : Job) (l : List Span) (m : Int) : (expandL j l m).length ≤ 60 := by
  unfold expandL; split
  · rw [List.length_map]; exact specIdsL_len l m
  · simp
theorem Job.one (y : Job) : ∀ u ∈ y.enc, u.oneCell' = true := by
  intro u hu; simp [Job.enc] at hu; rcases hu with rfl | rfl | rfl | rfl | rfl | rfl | rfl | rfl | rfl | rfl | rfl <;> rfl
theorem Job.info : (Try.prog.info? 39).map (fun i => (i.zero, i.size, i.bytes)) = some (some (.agg #[.int .i64 0, .int .i64 0, .int .i64 0, .int .i64 0, .int .i64 0, .int .i64 0, .int .i64 0, .int .i64 0, .int .i64 0, .int .i64 0, .int .i64 0]), 11, 88) := by kernel_rfl
theorem setId_ok {j : Job} {i : Int} (h : j.ok) (hi : In64 i) : (setId j i).ok := by
  unfold Job.ok at *; exact ⟨hi, h.2⟩
theorem map_setId_succ {ids : List Int} {k : Nat} {y : Int} (hx : ids[k]? = some y) (j : Job) : (ids.take (k + 1)).map (setId j) = (ids.take k).map (setId j) ++ [setId j y] := by rw [take_succ hx]; simp
theorem owns_turned {w w' : World} {base lo hi : Nat} {e : TypeId} {sz n : Nat} {v : Value} {L : List Value} (h : w.ownsRow base e sz v n L) (ht : Turned lo hi w w') (hd : hi ≤ base) : w'.ownsRow base e sz v n L := by
  have hlt := h.lt
  obtain ⟨h1, h2⟩ := h
  refine ⟨h1, ?_⟩
  rcases h2 with h2 | ⟨g, cap, cur, rfl, hg, hh, r⟩
  · exact .inl h2
  · exact .inr ⟨g, cap, cur, rfl, hg, (ht.block g (hlt g rfl).2 (.inr (Nat.le_trans hd hg))).trans hh, r⟩
set_option maxHeartbeats 8000000 in
set_option maxRecDepth 10000 in
theorem Expand_c (j : Job) (xs : List Span) (m : Int) (A : Option Addr) (n c : Nat) (w : World) (hj : j.ok) (h : SlAt RSpan 3 w A n xs) (hl : n ≤ maxLen) : Calls Try.prog 9 #[.agg #[.int .i64 j.Id, .int .i64 j.Prio, .int .i64 j.Nodes, .int .i64 j.Need.A, .int .i64 j.Need.B, .int .i64 j.Need.C, .int .i64 j.Lic.A, .int .i64 j.Lic.B, .int .i64 j.Lic.C, .int .i64 j.Wall, .int .i64 j.Level], .agg #[.slice A n c, .int .i64 m]] w (RetOwnB RJob 39 11 w (expandL j xs m) (expandB j xs m)) := by
  have hl' := hl
  unfold maxLen at hl
  have HM := Lib.hid (Flat.mono Span.enc Span.ok)
  obtain ⟨i0, hi, hI0, hI1, hI2⟩ := info_parts Job.info
  have hA := Lib.hid (fun (u : World) (e : Ext w u) => SpecOk_c xs m A n c u (h.ext HM.out e) hl')
  have hI := Lib.hid (fun (u : World) (e : Ext w u) => SpecIds_c xs m A n c u (h.ext HM.out e) hl')
  have hJ := Lib.hid (fun (u : World) => JobOk_c (setId j 1) u)
  have HIN := Lib.hid (specIds_in xs m)
  have h60 := specIdsL_len xs m
  have HJO := Lib.hid hj
  clear hj h
  rcases (Bool.eq_false_or_eq_true (specB xs m)).symm with hB | hB
  all_goals rw [hB] at hA
  · have e : expandB j xs m = false := by unfold expandB; rw [hB]; rfl
    rw [expandL, e]
    simp only [Bool.false_eq_true, if_false]
    clear e
    go_enter Try.func9, Try.ntmps9
    go_wp2_with fail
    refine (hA.out _ (by repeat (first | exact Ext.refl _ | assumption | apply Ext.alloc | apply Ext.drewN | apply Ext.drew | (refine Ext.setCell ?_ (by first | (simp; done) | (simp; omega) | omega) _) | (refine Ext.trans ?_ (by assumption))))).mono ?_
    rintro e w1 ⟨rfl, hb1⟩
    go_wp2
    exact ret_ownB (ys := []) rfl (World.ownsRow_nil _ _ _ _) rfl Job.size (fun y hy => by cases hy) (by repeat (first | exact Ext.refl _ | assumption | apply Ext.alloc | apply Ext.drewN | apply Ext.drew | (refine Ext.setCell ?_ (by first | (simp; done) | (simp; omega) | omega) _) | (refine Ext.trans ?_ (by assumption))))
  rcases (Bool.eq_false_or_eq_true (jobB (setId j 1))).symm with hC | hC
  all_goals
    rw [hC] at hJ
  · have e : expandB j xs m = false := by unfold expandB; rw [hB, hC]; rfl
    rw [expandL, e]
    simp only [Bool.false_eq_true, if_false]
    simp only [setId] at hJ
    clear e hB hC
    go_enter Try.func9, Try.ntmps9
    go_wp2_with fail
    refine (hA.out _ (by repeat (first | exact Ext.refl _ | assumption | apply Ext.alloc | apply Ext.drewN | apply Ext.drew | (refine Ext.setCell ?_ (by first | (simp; done) | (simp; omega) | omega) _) | (refine Ext.trans ?_ (by assumption))))).mono ?_
    rintro e w1 ⟨rfl, hb1⟩
    obtain ⟨hcr1, hfr1, hz1⟩ := hb1.rules
    (try simp at hz1)
    have hy1_w0 : w.heap.size < w1.heap.size := (by omega)
    have hy1_w1 : w.heap.size + 1 < w1.heap.size := (by omega)
    go_wp2_with fail
    refine (hJ.out _).mono ?_
    rintro e w2 ⟨rfl, hb2⟩
    go_wp2
    exact ret_ownB (ys := []) rfl (World.ownsRow_nil _ _ _ _) rfl Job.size (fun y hy => by cases hy) (by repeat (first | exact Ext.refl _ | assumption | apply Ext.alloc | apply Ext.drewN | apply Ext.drew | (refine Ext.setCell ?_ (by first | (simp; done) | (simp; omega) | omega) _) | (refine Ext.trans ?_ (by assumption))))
  have e : expandB j xs m = true := by unfold expandB; rw [hB, hC]; rfl
  rw [expandL, e, if_pos rfl]
  generalize specIdsL xs m = ids at *
  simp only [setId] at hJ
  clear e hB hC
  go_enter Try.func9, Try.ntmps9
  go_wp2_with fail
  refine (hA.out _ (by repeat (first | exact Ext.refl _ | assumption | apply Ext.alloc | apply Ext.drewN | apply Ext.drew | (refine Ext.setCell ?_ (by first | (simp; done) | (simp; omega) | omega) _) | (refine Ext.trans ?_ (by assumption))))).mono ?_
  rintro e w1 ⟨rfl, hb1⟩
  obtain ⟨hcr1, hfr1, hz1⟩ := hb1.rules
  (try simp at hz1)
  have hy1_w0 : w.heap.size < w1.heap.size := (by omega)
  have hy1_w1 : w.heap.size + 1 < w1.heap.size := (by omega)
  go_wp2_with fail
  refine (hJ.out _).mono ?_
  rintro e w2 ⟨rfl, hb2⟩
  obtain ⟨hcr2, hfr2, hz2⟩ := hb2.rules
  (try simp at hz2)
  have hy2_w0 : w.heap.size < w2.heap.size := (by omega)
  have hy2_w1 : w.heap.size + 1 < w2.heap.size := (by omega)
  have e2 : Ext w w2 := (by repeat (first | exact Ext.refl _ | assumption | apply Ext.alloc | apply Ext.drewN | apply Ext.drew | (refine Ext.setCell ?_ (by first | (simp; done) | (simp; omega) | omega) _) | (refine Ext.trans ?_ (by assumption))))
  go_wp2_with fail
  refine (hI.out _ (e2.alloc _)).mono ?_
  rintro e w3 ⟨A3, c3, rfl, ho3, hb3⟩
  have e3 : Ext w2 w3 := ((Ext.refl w2).alloc (.cells #[] 39)).trans hb3
  have hO0 := Lib.hid (owns_ext (owns_empty w2 39 11) hb3)
  have e13 : Ext ((w.alloc (.cells #[.int .i64 1, .int .i64 j.Prio, .int .i64 j.Nodes, .int .i64 j.Need.A, .int .i64 j.Need.B, .int .i64 j.Need.C, .int .i64 j.Lic.A, .int .i64 j.Lic.B, .int .i64 j.Lic.C, .int .i64 j.Wall, .int .i64 j.Level] 39)).alloc (.cells #[.slice A n c, .int .i64 m] 25)) w3 := hb1.trans (hb2.trans e3)
  have k0 := e13.cell (a := ⟨w.heap.size, 0, none⟩) (v := .int .i64 1) (by simp)
  have k1 := e13.cell (a := ⟨w.heap.size, 1, none⟩) (v := .int .i64 j.Prio) (by simp)
  have k2 := e13.cell (a := ⟨w.heap.size, 2, none⟩) (v := .int .i64 j.Nodes) (by simp)
  have k3 := e13.cell (a := ⟨w.heap.size, 3, none⟩) (v := .int .i64 j.Need.A) (by simp)
  have k4 := e13.cell (a := ⟨w.heap.size, 4, none⟩) (v := .int .i64 j.Need.B) (by simp)
  have k5 := e13.cell (a := ⟨w.heap.size, 5, none⟩) (v := .int .i64 j.Need.C) (by simp)
  have k6 := e13.cell (a := ⟨w.heap.size, 6, none⟩) (v := .int .i64 j.Lic.A) (by simp)
  have k7 := e13.cell (a := ⟨w.heap.size, 7, none⟩) (v := .int .i64 j.Lic.B) (by simp)
  have k8 := e13.cell (a := ⟨w.heap.size, 8, none⟩) (v := .int .i64 j.Lic.C) (by simp)
  have k9 := e13.cell (a := ⟨w.heap.size, 9, none⟩) (v := .int .i64 j.Wall) (by simp)
  have k10 := e13.cell (a := ⟨w.heap.size, 10, none⟩) (v := .int .i64 j.Level) (by simp)
  have f0 := (e13.frozenEq (a := ⟨w.heap.size, 0, none⟩) (by simp; omega)).trans (by simp : _ = false)
  have hs2 : w.heap.size + 2 ≤ w2.heap.size := by omega
  have hs3 := e3.le
  have hz3 : w2.heap.size + 1 ≤ w3.heap.size := by have := hb3.le; simpa using this
  have HI3 := Lib.hid (ho3.mono (base' := w2.heap.size + 1) (by simp))
  have e03 := e2.trans e3
  clear ho3 hcr1 hfr1 hcr2 hfr2 hA hI hJ
  go_wp2
  go_loopw [6, 22] (fun v i wr => ∃ (k : Nat) (A1 : Option Addr) (c1 : Nat) (acc : List Job) (p : Int), k ≤ ids.length ∧ i = .int .i64 k ∧ v = .slice A1 acc.length c1 ∧ wr.ownsRow w2.heap.size 39 11 (.slice A1 acc.length c1) acc.length (acc.flatMap Job.enc) ∧ Ext w wr ∧ Hid (OwnAt RInt 3 1 wr (w2.heap.size + 1) (.slice A3 ids.length c3) ids) ∧ Hid (acc = (ids.take k).map (setId j)) ∧ wr.cell? ⟨w.heap.size, 0, none⟩ = some (.int .i64 p) ∧ wr.cell? ⟨w.heap.size, 1, none⟩ = some (.int .i64 j.Prio) ∧ wr.cell? ⟨w.heap.size, 2, none⟩ = some (.int .i64 j.Nodes) ∧ wr.cell? ⟨w.heap.size, 3, none⟩ = some (.int .i64 j.Need.A) ∧ wr.cell? ⟨w.heap.size, 4, none⟩ = some (.int .i64 j.Need.B) ∧ wr.cell? ⟨w.heap.size, 5, none⟩ = some (.int .i64 j.Need.C) ∧ wr.cell? ⟨w.heap.size, 6, none⟩ = some (.int .i64 j.Lic.A) ∧ wr.cell? ⟨w.heap.size, 7, none⟩ = some (.int .i64 j.Lic.B) ∧ wr.cell? ⟨w.heap.size, 8, none⟩ = some (.int .i64 j.Lic.C) ∧ wr.cell? ⟨w.heap.size, 9, none⟩ = some (.int .i64 j.Wall) ∧ wr.cell? ⟨w.heap.size, 10, none⟩ = some (.int .i64 j.Level) ∧ wr.frozen? ⟨w.heap.size, 0, none⟩ = false ∧ w2.heap.size + 1 ≤ wr.heap.size) (fun _ i _ => ids.length - (intOf i).toNat)
  case atStart => exact ⟨0, _, 0, [], 1, Nat.zero_le _, rfl, rfl, by simpa using hO0.out, e03, Lib.hid HI3.out, Lib.hid rfl, k0, k1, k2, k3, k4, k5, k6, k7, k8, k9, k10, f0, hz3⟩
  case round =>
    clear k0 k1 k2 k3 k4 k5 k6 k7 k8 k9 k10 f0
    obtain ⟨k, A1, c1, acc, p, hk, rfl, rfl, ho, hb, HOI, HACC, k0, k1, k2, k3, k4, k5, k6, k7, k8, k9, k10, f0, hzr⟩ := hrel
    have hal : acc.length ≤ 60 := by rw [HACC.out, List.length_map, List.length_take]; omega
    by_cases hlt : k < ids.length
    · have hoi := HOI.out
      obtain ⟨b, o, y, cs, rfl, hbw, hx, _, hc, rfl, hy⟩ := hoi.slAt.at_ hlt
      have g0 := hc 0 _ rfl
      simp only [Nat.mul_one, Nat.add_zero] at g0
      have HS := Lib.hid (show acc ++ [setId j y] = (ids.take (k + 1)).map (setId j) by rw [map_setId_succ hx, ← HACC.out])
      have HE1 := Lib.hid (hb.setCell (p := ⟨w.heap.size, 0, none⟩) (Nat.le_refl _) (.int .i64 y))
      have HO := Lib.hid (owns_turned ho (turned_set wr ⟨w.heap.size, 0, none⟩ (.int .i64 y)) (by simp; omega))
      have HOS := Lib.hid (hoi.set (p := ⟨w.heap.size, 0, none⟩) (by simp; omega) (.int .i64 y))
      have hzs : (wr.setCell ⟨w.heap.size, 0, none⟩ (.int .i64 y)).heap.size = wr.heap.size := by simp [World.setCell]
      have HZS := Lib.hid hzs
      clear hc hx ho hoi hzs
      go_wp2_with (at_builtin; go_must (refine wpList_append_one_j (w0 := w) (.tmp 28) (.tmp 30) _ w2.heap.size 39 i0 _ 11 88 (.slice A1 acc.length c1) acc.length _ (Job.enc (setId j y)) rfl rfl Try.underlying33 hi hI0 hI1 hI2 rfl (by omega) rfl (HO.out) _ rfl (by simp) rfl (Job.one _) (by unfold maxLen; omega) (by omega) HE1.out (by omega) (by rw [HZS.out]; omega) ?_); intro A4 c4 w4 ho4 hb4 hs4 hkp hlow)
      have HB := Lib.hid (hlow w.heap.size (by omega) (by rw [HZS.out]; omega))
      have HO4 := Lib.hid ho4
      have HOI4 := Lib.hid (HOS.out.keepTy (fun b cs' hh => hkp b cs' 3 (by decide) hh))
      clear ho4 hkp hlow hi hI0 hI1 hI2
      go_wp2
      go_roundw
      case rel => exact ⟨k + 1, A4, c4, acc ++ [setId j y], y, by omega, by go_num, by simp, by rw [List.flatMap_append, List.length_append]; simpa using HO4.out, hb4, Lib.hid HOI4.out, Lib.hid HS.out, (World.cell?_of_block (a := ⟨w.heap.size, 0, none⟩) HB.out).trans (by exact World.cell?_setCell_same _ _ _ k0), (World.cell?_of_block (a := ⟨w.heap.size, 1, none⟩) HB.out).trans (by exact (World.cell?_setCell_other _ _ _ _ (by simp)).trans k1), (World.cell?_of_block (a := ⟨w.heap.size, 2, none⟩) HB.out).trans (by exact (World.cell?_setCell_other _ _ _ _ (by simp)).trans k2), (World.cell?_of_block (a := ⟨w.heap.size, 3, none⟩) HB.out).trans (by exact (World.cell?_setCell_other _ _ _ _ (by simp)).trans k3), (World.cell?_of_block (a := ⟨w.heap.size, 4, none⟩) HB.out).trans (by exact (World.cell?_setCell_other _ _ _ _ (by simp)).trans k4), (World.cell?_of_block (a := ⟨w.heap.size, 5, none⟩) HB.out).trans (by exact (World.cell?_setCell_other _ _ _ _ (by simp)).trans k5), (World.cell?_of_block (a := ⟨w.heap.size, 6, none⟩) HB.out).trans (by exact (World.cell?_setCell_other _ _ _ _ (by simp)).trans k6), (World.cell?_of_block (a := ⟨w.heap.size, 7, none⟩) HB.out).trans (by exact (World.cell?_setCell_other _ _ _ _ (by simp)).trans k7), (World.cell?_of_block (a := ⟨w.heap.size, 8, none⟩) HB.out).trans (by exact (World.cell?_setCell_other _ _ _ _ (by simp)).trans k8), (World.cell?_of_block (a := ⟨w.heap.size, 9, none⟩) HB.out).trans (by exact (World.cell?_setCell_other _ _ _ _ (by simp)).trans k9), (World.cell?_of_block (a := ⟨w.heap.size, 10, none⟩) HB.out).trans (by exact (World.cell?_setCell_other _ _ _ _ (by simp)).trans k10), (World.frozen?_of_block (a := ⟨w.heap.size, 0, none⟩) HB.out).trans (by simp [f0]), by rw [HZS.out] at hs4; omega⟩
      case measure => simp [intOf]; omega
    · have HF := Lib.hid (show acc = ids.map (setId j) by rw [HACC.out, List.take_of_length_le (by omega)])
      have HO := Lib.hid ho
      clear ho HACC
      go_wp2
      rw [← HF.out]
      exact ret_ownB rfl (owns_base HO.out (by omega)) rfl Job.size (fun z hz => by rw [HF.out] at hz; obtain ⟨y, hy, rfl⟩ := List.mem_map.1 hz; exact setId_ok HJO.out (HIN.out y hy)) hb
end Go.Proofs.Ytlaoflpgngfbpaa
