/- Merged by mergelean.py: Use, Use2, Load. -/
import Derived.Test.YtfcffcgdbmkfgaaGreatSStOk
import Derived.Test.YtfcffcgdbmkfgaaGreatInts
/-! Use -/
namespace Go.Proofs.YtfcffcgdbmkfgaaGreat
open Go.RowKit
set_option linter.unusedVariables false
def sumV (a b : Vec) : Vec := ⟨a.A + b.A, a.B + b.B, a.C + b.C⟩
def addS (a b : Vec) : Vec := validV a b (sumV a b)
theorem addS_ok (a b : Vec) : vecB (addS a b) = true := by
  unfold addS validV
  split
  · rename_i h; rw [Bool.and_eq_true] at h; exact h.2
  · rfl
def useIn (n : Int) (need : Vec) : List Int → Vec → Vec
  | [], v => v
  | k :: r, v => useIn n need r (if k = n then addS v need else v)
def useGo (n : Int) : List Run → Vec → Vec
  | [], v => v
  | x :: r, v => useGo n r (useIn n x.Job.Need x.Nodes v)
def useV (s : State) (n : Int) : Vec := useGo n s.Runs ⟨0, 0, 0⟩
theorem dist_nodup : ∀ (l B : List Int), distGo B l = true → (∀ x ∈ B, x ∉ l) ∧ l.Nodup := by
  intro l
  induction l with
  | nil => intro B _; exact ⟨(fun _ _ h => by cases h), List.nodup_nil⟩
  | cons a r ih =>
    intro B h
    rw [distGo, Bool.and_eq_true] at h
    obtain ⟨h1, h2⟩ := h
    obtain ⟨h3, h4⟩ := ih _ h2
    have ha : a ∉ B := by simpa using h1
    refine ⟨fun x hx hm => ?_, List.nodup_cons.2 ⟨h3 a (by simp), h4⟩⟩
    rcases List.mem_cons.1 hm with rfl | hm
    · exact ha hx
    · exact h3 x (by simp [hx]) hm
theorem useIn_not {n : Int} {need : Vec} : ∀ (l : List Int) (v : Vec), n ∉ l → useIn n need l v = v := by
  intro l
  induction l with
  | nil => intro v _; rfl
  | cons a r ih =>
    intro v h
    rw [useIn, if_neg (fun e => h (by rw [e]; exact List.mem_cons_self ..))]
    exact ih v (fun hm => h (List.mem_cons_of_mem _ hm))
theorem useIn_eq {n : Int} {need : Vec} : ∀ (l : List Int) (v : Vec), l.Nodup → useIn n need l v = if l.contains n = true then addS v need else v := by
  intro l
  induction l with
  | nil => intro v _; rfl
  | cons a r ih =>
    intro v h
    obtain ⟨h1, h2⟩ := List.nodup_cons.1 h
    rw [useIn]
    by_cases e : a = n
    · subst e
      rw [if_pos rfl, useIn_not r _ h1, if_pos (by simp)]
    · rw [if_neg e, ih v h2]
      have : (a :: r).contains n = r.contains n := by
        rw [List.contains_cons]
        have : (n == a) = false := by rw [beq_eq_false_iff_ne]; exact fun h => e h.symm
        rw [this, Bool.false_or]
      rw [this]
theorem useIn_ok {n : Int} {need : Vec} : ∀ (l : List Int) (v : Vec), vecB v = true → vecB (useIn n need l v) = true := by
  intro l
  induction l with
  | nil => intro v h; exact h
  | cons a r ih =>
    intro v h
    rw [useIn]
    split
    · exact ih _ (addS_ok _ _)
    · exact ih _ h
theorem useGo_ok {n : Int} : ∀ (l : List Run) (v : Vec), vecB v = true → vecB (useGo n l v) = true := by
  intro l
  induction l with
  | nil => intro v h; exact h
  | cons a r ih => intro v h; exact ih _ (useIn_ok _ _ h)
theorem job_need {j : Job} (h : jobB j = true) : vecB j.Need = true := by
  unfold jobB at h
  simp only [Bool.and_eq_true] at h
  exact h.2.1
/-- What a right state says of its runs. -/
theorem state_runs {s : State} (h : stateB s = true) : (∀ x ∈ s.Runs, jobB x.Job = true ∧ x.Nodes.Nodup ∧ x.Nodes.length ≤ 24 ∧ 0 ≤ x.At ∧ x.At ≤ s.Now) ∧ (0 ≤ s.Now ∧ s.Now ≤ 1000000000) ∧ topoB s.Topo.Parents s.Topo.Nodes = true := by
  unfold stateB at h
  simp only [Bool.and_eq_true] at h
  obtain ⟨h1, h2⟩ := roomF_some h.1.1.1.1.1
  obtain ⟨ht, _, _, hn⟩ := head_parts h1
  have hnow : 0 ≤ s.Now ∧ s.Now ≤ 1000000000 := by unfold timeB at hn; rw [decide_eq_true_iff] at hn; exact hn
  refine ⟨fun x hx => ?_, hnow, ht⟩
  have h3 := h2 x hx
  unfold runOkB jobNodesB at h3
  simp only [Bool.and_eq_true, decide_eq_true_iff] at h3
  obtain ⟨⟨h4, ⟨h5, h6⟩, h7⟩, h8, h9⟩ := h3
  have h10 := ((jobB_iff x.Job).1 h4).1.2.2.1
  unfold withinB at h8
  rw [decide_eq_true_iff] at h8
  exact ⟨h4, (dist_nodup _ _ h5).2, by omega, h8.1, h8.2⟩
set_option maxHeartbeats 4000000 in
theorem VecAdd_c (a b : Vec) (w : World) (ha : vecB a = true) (hb : vecB b = true) : Calls Tryz.prog 75 #[.agg #[.int .i64 a.A, .int .i64 a.B, .int .i64 a.C], .agg #[.int .i64 b.A, .int .i64 b.B, .int .i64 b.C]] w (Ret w (.tuple #[.agg #[.int .i64 (addS a b).A, .int .i64 (addS a b).B, .int .i64 (addS a b).C], .bool (vecB (sumV a b))])) := by
  have h2 := vecB_iffT.1 ha
  have h3 := vecB_iffT.1 hb
  have hC := Lib.hid (fun u => valid_c a b ⟨a.A + b.A, a.B + b.B, a.C + b.C⟩ u)
  rw [show validV a b ⟨a.A + b.A, a.B + b.B, a.C + b.C⟩ = addS a b from rfl, ha, hb, show (true && true && vecB ⟨a.A + b.A, a.B + b.B, a.C + b.C⟩) = vecB (sumV a b) from rfl] at hC
  have q1 : IntKind.i64.wrap (a.A + b.A) = a.A + b.A := IntWalk.i64_in _ ⟨by omega, by omega⟩
  have q2 : IntKind.i64.wrap (a.B + b.B) = a.B + b.B := IntWalk.i64_in _ ⟨by omega, by omega⟩
  have q3 : IntKind.i64.wrap (a.C + b.C) = a.C + b.C := IntWalk.i64_in _ ⟨by omega, by omega⟩
  clear ha hb
  generalize addS a b = r at *
  generalize vecB (sumV a b) = f at *
  go_enter Tryz.func75, Tryz.ntmps75
  go_wp2_with fail
  refine (hC.out _).mono ?_
  rintro e w1 ⟨rfl, hb1⟩
  obtain ⟨hcr1, hfr1, hz1⟩ := hb1.rules
  (try simp at hz1)
  have hy1_w0 : w.heap.size < w1.heap.size := (by omega)
  have hy1_w1 : w.heap.size + 1 < w1.heap.size := (by omega)
  have hy1_w2 : w.heap.size + 1 + 1 < w1.heap.size := (by omega)
  have q0 := (hb1).cell (cell_box_at ((w.alloc (.cells #[.int .i64 a.A, .int .i64 a.B, .int .i64 a.C] 39)).alloc (.cells #[.int .i64 b.A, .int .i64 b.B, .int .i64 b.C] 39)) (w.heap.size + 1 + 1) (by simp) [.int .i64 0, .int .i64 0, .int .i64 0] 39 0 _ rfl)
  have q1 := (hb1).cell (cell_box_at ((w.alloc (.cells #[.int .i64 a.A, .int .i64 a.B, .int .i64 a.C] 39)).alloc (.cells #[.int .i64 b.A, .int .i64 b.B, .int .i64 b.C] 39)) (w.heap.size + 1 + 1) (by simp) [.int .i64 0, .int .i64 0, .int .i64 0] 39 1 _ rfl)
  have q2 := (hb1).cell (cell_box_at ((w.alloc (.cells #[.int .i64 a.A, .int .i64 a.B, .int .i64 a.C] 39)).alloc (.cells #[.int .i64 b.A, .int .i64 b.B, .int .i64 b.C] 39)) (w.heap.size + 1 + 1) (by simp) [.int .i64 0, .int .i64 0, .int .i64 0] 39 2 _ rfl)
  have qf0 := ((hb1).frozenEq (a := ⟨w.heap.size + 1 + 1, 0, none⟩) (by simp)).trans (frozen_box_at ((w.alloc (.cells #[.int .i64 a.A, .int .i64 a.B, .int .i64 a.C] 39)).alloc (.cells #[.int .i64 b.A, .int .i64 b.B, .int .i64 b.C] 39)) (w.heap.size + 1 + 1) (by simp) #[.int .i64 0, .int .i64 0, .int .i64 0] 39 0)
  have qf1 := ((hb1).frozenEq (a := ⟨w.heap.size + 1 + 1, 1, none⟩) (by simp)).trans (frozen_box_at ((w.alloc (.cells #[.int .i64 a.A, .int .i64 a.B, .int .i64 a.C] 39)).alloc (.cells #[.int .i64 b.A, .int .i64 b.B, .int .i64 b.C] 39)) (w.heap.size + 1 + 1) (by simp) #[.int .i64 0, .int .i64 0, .int .i64 0] 39 1)
  have qf2 := ((hb1).frozenEq (a := ⟨w.heap.size + 1 + 1, 2, none⟩) (by simp)).trans (frozen_box_at ((w.alloc (.cells #[.int .i64 a.A, .int .i64 a.B, .int .i64 a.C] 39)).alloc (.cells #[.int .i64 b.A, .int .i64 b.B, .int .i64 b.C] 39)) (w.heap.size + 1 + 1) (by simp) #[.int .i64 0, .int .i64 0, .int .i64 0] 39 2)
  go_wp2
  exact ret_is (by simp [results, Tryz.results75, go_sem, *]) rfl (by repeat (first | exact Ext.refl _ | assumption | apply Ext.alloc | apply Ext.drewN | apply Ext.drew | (refine Ext.setCell ?_ (by first | (simp; done) | (simp; omega) | omega) _) | (refine Ext.trans ?_ (by assumption))))
set_option maxHeartbeats 4000000 in
theorem sVecAdd_c (a b : Vec) (w : World) (ha : vecB a = true) (hb : vecB b = true) : Calls Tryz.prog 74 #[.agg #[.int .i64 a.A, .int .i64 a.B, .int .i64 a.C], .agg #[.int .i64 b.A, .int .i64 b.B, .int .i64 b.C]] w (Ret w (.tuple #[.agg #[.int .i64 (addS a b).A, .int .i64 (addS a b).B, .int .i64 (addS a b).C], .bool (vecB (sumV a b))])) := by
  have h2 := vecB_iffT.1 ha
  have h3 := vecB_iffT.1 hb
  have hA := Lib.hid (fun u => sVecOk_c a u)
  have hB := Lib.hid (fun u => sVecOk_c b u)
  have hS := Lib.hid (fun u => sVecOk_c ⟨a.A + b.A, a.B + b.B, a.C + b.C⟩ u)
  have hR := Lib.hid (show addS a b = if vecB (sumV a b) = true then ⟨a.A + b.A, a.B + b.B, a.C + b.C⟩ else ⟨0, 0, 0⟩ by unfold addS validV; rw [ha, hb]; rfl)
  rw [show vecB ⟨a.A + b.A, a.B + b.B, a.C + b.C⟩ = vecB (sumV a b) from rfl] at hS
  rw [ha] at hA
  rw [hb] at hB
  have q1 : IntKind.i64.wrap (a.A + b.A) = a.A + b.A := IntWalk.i64_in _ ⟨by omega, by omega⟩
  have q2 : IntKind.i64.wrap (a.B + b.B) = a.B + b.B := IntWalk.i64_in _ ⟨by omega, by omega⟩
  have q3 : IntKind.i64.wrap (a.C + b.C) = a.C + b.C := IntWalk.i64_in _ ⟨by omega, by omega⟩
  clear ha hb
  rw [hR.out]
  clear hR
  rcases hf : vecB (sumV a b) with _ | _
  all_goals
    rw [hf] at hS
    clear hf
    simp only [Bool.false_eq_true, if_false, if_true]
    go_enter Tryz.func74, Tryz.ntmps74
    go_wp2_with fail
    refine (hA.out _).mono ?_
    rintro e w1 ⟨rfl, hb1⟩
    obtain ⟨hcr1, hfr1, hz1⟩ := hb1.rules
    (try simp at hz1)
    have hy1_w0 : w.heap.size < w1.heap.size := (by omega)
    have hy1_w1 : w.heap.size + 1 < w1.heap.size := (by omega)
    have hy1_w2 : w.heap.size + 1 + 1 < w1.heap.size := (by omega)
    go_wp2_with fail
    refine (hB.out _).mono ?_
    rintro e w2 ⟨rfl, hb2⟩
    obtain ⟨hcr2, hfr2, hz2⟩ := hb2.rules
    (try simp at hz2)
    have hy2_w0 : w.heap.size < w2.heap.size := (by omega)
    have hy2_w1 : w.heap.size + 1 < w2.heap.size := (by omega)
    have hy2_w2 : w.heap.size + 1 + 1 < w2.heap.size := (by omega)
    have p0 := ((((Ext.refl _).alloc _).alloc _).trans (hb1.trans hb2)).cell (cell_box_at w (w.heap.size) (by simp) [.int .i64 a.A, .int .i64 a.B, .int .i64 a.C] 39 0 _ rfl)
    have p1 := ((((Ext.refl _).alloc _).alloc _).trans (hb1.trans hb2)).cell (cell_box_at w (w.heap.size) (by simp) [.int .i64 a.A, .int .i64 a.B, .int .i64 a.C] 39 1 _ rfl)
    have p2 := ((((Ext.refl _).alloc _).alloc _).trans (hb1.trans hb2)).cell (cell_box_at w (w.heap.size) (by simp) [.int .i64 a.A, .int .i64 a.B, .int .i64 a.C] 39 2 _ rfl)
    have pf0 := (((((Ext.refl _).alloc _).alloc _).trans (hb1.trans hb2)).frozenEq (a := ⟨w.heap.size, 0, none⟩) (by simp)).trans (frozen_box_at w (w.heap.size) (by simp) #[.int .i64 a.A, .int .i64 a.B, .int .i64 a.C] 39 0)
    have pf1 := (((((Ext.refl _).alloc _).alloc _).trans (hb1.trans hb2)).frozenEq (a := ⟨w.heap.size, 1, none⟩) (by simp)).trans (frozen_box_at w (w.heap.size) (by simp) #[.int .i64 a.A, .int .i64 a.B, .int .i64 a.C] 39 1)
    have pf2 := (((((Ext.refl _).alloc _).alloc _).trans (hb1.trans hb2)).frozenEq (a := ⟨w.heap.size, 2, none⟩) (by simp)).trans (frozen_box_at w (w.heap.size) (by simp) #[.int .i64 a.A, .int .i64 a.B, .int .i64 a.C] 39 2)
    have r0 := (((Ext.refl _).alloc _).trans (hb1.trans hb2)).cell (cell_box_at (w.alloc (.cells #[.int .i64 a.A, .int .i64 a.B, .int .i64 a.C] 39)) (w.heap.size + 1) (by simp) [.int .i64 b.A, .int .i64 b.B, .int .i64 b.C] 39 0 _ rfl)
    have r1 := (((Ext.refl _).alloc _).trans (hb1.trans hb2)).cell (cell_box_at (w.alloc (.cells #[.int .i64 a.A, .int .i64 a.B, .int .i64 a.C] 39)) (w.heap.size + 1) (by simp) [.int .i64 b.A, .int .i64 b.B, .int .i64 b.C] 39 1 _ rfl)
    have r2 := (((Ext.refl _).alloc _).trans (hb1.trans hb2)).cell (cell_box_at (w.alloc (.cells #[.int .i64 a.A, .int .i64 a.B, .int .i64 a.C] 39)) (w.heap.size + 1) (by simp) [.int .i64 b.A, .int .i64 b.B, .int .i64 b.C] 39 2 _ rfl)
    have rf0 := ((((Ext.refl _).alloc _).trans (hb1.trans hb2)).frozenEq (a := ⟨w.heap.size + 1, 0, none⟩) (by simp)).trans (frozen_box_at (w.alloc (.cells #[.int .i64 a.A, .int .i64 a.B, .int .i64 a.C] 39)) (w.heap.size + 1) (by simp) #[.int .i64 b.A, .int .i64 b.B, .int .i64 b.C] 39 0)
    have rf1 := ((((Ext.refl _).alloc _).trans (hb1.trans hb2)).frozenEq (a := ⟨w.heap.size + 1, 1, none⟩) (by simp)).trans (frozen_box_at (w.alloc (.cells #[.int .i64 a.A, .int .i64 a.B, .int .i64 a.C] 39)) (w.heap.size + 1) (by simp) #[.int .i64 b.A, .int .i64 b.B, .int .i64 b.C] 39 1)
    have rf2 := ((((Ext.refl _).alloc _).trans (hb1.trans hb2)).frozenEq (a := ⟨w.heap.size + 1, 2, none⟩) (by simp)).trans (frozen_box_at (w.alloc (.cells #[.int .i64 a.A, .int .i64 a.B, .int .i64 a.C] 39)) (w.heap.size + 1) (by simp) #[.int .i64 b.A, .int .i64 b.B, .int .i64 b.C] 39 2)
    go_wp2_with fail
    refine (hS.out _).mono ?_
    rintro e w3 ⟨rfl, hb3⟩
    clear p0 p1 p2 pf0 pf1 pf2 r0 r1 r2 rf0 rf1 rf2
    have q0 := ((hb1.trans hb2).trans (((Ext.refl _).alloc _).trans hb3)).cell (cell_box_at ((w.alloc (.cells #[.int .i64 a.A, .int .i64 a.B, .int .i64 a.C] 39)).alloc (.cells #[.int .i64 b.A, .int .i64 b.B, .int .i64 b.C] 39)) (w.heap.size + 1 + 1) (by simp) [.int .i64 0, .int .i64 0, .int .i64 0] 39 0 _ rfl)
    have q1 := ((hb1.trans hb2).trans (((Ext.refl _).alloc _).trans hb3)).cell (cell_box_at ((w.alloc (.cells #[.int .i64 a.A, .int .i64 a.B, .int .i64 a.C] 39)).alloc (.cells #[.int .i64 b.A, .int .i64 b.B, .int .i64 b.C] 39)) (w.heap.size + 1 + 1) (by simp) [.int .i64 0, .int .i64 0, .int .i64 0] 39 1 _ rfl)
    have q2 := ((hb1.trans hb2).trans (((Ext.refl _).alloc _).trans hb3)).cell (cell_box_at ((w.alloc (.cells #[.int .i64 a.A, .int .i64 a.B, .int .i64 a.C] 39)).alloc (.cells #[.int .i64 b.A, .int .i64 b.B, .int .i64 b.C] 39)) (w.heap.size + 1 + 1) (by simp) [.int .i64 0, .int .i64 0, .int .i64 0] 39 2 _ rfl)
    have qf0 := (((hb1.trans hb2).trans (((Ext.refl _).alloc _).trans hb3)).frozenEq (a := ⟨w.heap.size + 1 + 1, 0, none⟩) (by simp)).trans (frozen_box_at ((w.alloc (.cells #[.int .i64 a.A, .int .i64 a.B, .int .i64 a.C] 39)).alloc (.cells #[.int .i64 b.A, .int .i64 b.B, .int .i64 b.C] 39)) (w.heap.size + 1 + 1) (by simp) #[.int .i64 0, .int .i64 0, .int .i64 0] 39 0)
    have qf1 := (((hb1.trans hb2).trans (((Ext.refl _).alloc _).trans hb3)).frozenEq (a := ⟨w.heap.size + 1 + 1, 1, none⟩) (by simp)).trans (frozen_box_at ((w.alloc (.cells #[.int .i64 a.A, .int .i64 a.B, .int .i64 a.C] 39)).alloc (.cells #[.int .i64 b.A, .int .i64 b.B, .int .i64 b.C] 39)) (w.heap.size + 1 + 1) (by simp) #[.int .i64 0, .int .i64 0, .int .i64 0] 39 1)
    have qf2 := (((hb1.trans hb2).trans (((Ext.refl _).alloc _).trans hb3)).frozenEq (a := ⟨w.heap.size + 1 + 1, 2, none⟩) (by simp)).trans (frozen_box_at ((w.alloc (.cells #[.int .i64 a.A, .int .i64 a.B, .int .i64 a.C] 39)).alloc (.cells #[.int .i64 b.A, .int .i64 b.B, .int .i64 b.C] 39)) (w.heap.size + 1 + 1) (by simp) #[.int .i64 0, .int .i64 0, .int .i64 0] 39 2)
    have y0 := hb3.cell (cell_box_at w2 w2.heap.size rfl [.int .i64 (a.A + b.A), .int .i64 (a.B + b.B), .int .i64 (a.C + b.C)] 39 0 _ rfl)
    have y1 := hb3.cell (cell_box_at w2 w2.heap.size rfl [.int .i64 (a.A + b.A), .int .i64 (a.B + b.B), .int .i64 (a.C + b.C)] 39 1 _ rfl)
    have y2 := hb3.cell (cell_box_at w2 w2.heap.size rfl [.int .i64 (a.A + b.A), .int .i64 (a.B + b.B), .int .i64 (a.C + b.C)] 39 2 _ rfl)
    have hql := lt_of_cell q0
    have hyl := lt_of_cell y0
    have hx3 : Ext w w3 := (((((Ext.refl w).alloc _).alloc _).alloc _).trans (hb1.trans hb2)).trans (((Ext.refl _).alloc _).trans hb3)
    go_wp2
    exact ret_is (by simp [results, Tryz.results74, go_sem, *]) rfl (by repeat (first | exact Ext.refl _ | assumption | apply Ext.alloc | apply Ext.drewN | apply Ext.drew | (refine Ext.setCell ?_ (by first | (simp; done) | (simp; omega) | omega) _) | (refine Ext.trans ?_ (by assumption))))
theorem l06Node_c (s : State) (v : Value) (n : Int) (w : World) (h : StateAt w s v) (hn : 0 ≤ n ∧ n < s.Topo.Nodes.length) (hl : s.Topo.Nodes.length ≤ 1048576) : Calls Tryz.prog 46 #[v, .int .i64 n] w (Ret w (.bool true)) := by
  obtain ⟨A1, c1, A2, c2, A3, c3, A6, c6, A7, c7, A8, c8, rfl, _, _, _, _, _, _⟩ := h
  have d1 : decide (0 ≤ n) = true := decide_eq_true hn.1
  have d2 : decide (n < (s.Topo.Nodes.length : Int)) = true := decide_eq_true hn.2
  obtain ⟨hn1, hn2⟩ := hn
  go_enter Tryz.func46, Tryz.ntmps46
  go_wp2
  exact ret_bool rfl rfl rfl rfl ((Ext.refl w).alloc _)
end Go.Proofs.YtfcffcgdbmkfgaaGreat
/-! Use2 -/
namespace Go.Proofs.YtfcffcgdbmkfgaaGreat
open Go.RowKit
set_option linter.unusedVariables false
theorem use_step {n : Int} {l : List Run} {k : Nat} {x : Run} {v : Vec} (hx : l[k]? = some x) : useGo n (l.drop k) v = useGo n (l.drop (k + 1)) (useIn n x.Job.Need x.Nodes v) := by rw [drop_cons hx, useGo]
theorem useIn_step {n : Int} {need : Vec} {l : List Int} {k : Nat} {x : Int} {v : Vec} (hx : l[k]? = some x) : useIn n need (l.drop k) v = useIn n need (l.drop (k + 1)) (if x = n then addS v need else v) := by rw [drop_cons hx, useIn]
set_option maxHeartbeats 16000000 in
set_option maxRecDepth 10000 in
theorem Use_c (s : State) (v : Value) (n : Int) (w : World) (h : StateAt w s v) (hlen : stateLen s) (hok : stateB s = true) (hn : 0 ≤ n ∧ n < s.Topo.Nodes.length) : Calls Tryz.prog 49 #[v, .int .i64 n] w (Ret w (.agg #[.int .i64 (useV s n).A, .int .i64 (useV s n).B, .int .i64 (useV s n).C])) := by
  have HST0 := Lib.hid h
  obtain ⟨hruns, hnow, ht⟩ := state_runs hok
  have HOKC := Lib.hid (fun (u : World) (e : Ext w u) => StateOk_c s v u (h.ext e) hlen)
  rw [hok] at HOKC
  obtain ⟨⟨ps, ns⟩, up, lic, dep, now, qs, rs, es⟩ := s
  obtain ⟨A1, c1, A2, c2, A3, c3, A6, c6, A7, c7, A8, c8, rfl, h1, h2, h3, h6, h7, h8⟩ := h
  obtain ⟨hl1, hl2, hl3, hl6, hl7, hl8⟩ := hlen
  simp only [] at hl1 hl2 hl3 hl6 hl7 hl8 hn hruns h7 HOKC ⊢
  have HRU := Lib.hid hruns
  have HRS := Lib.hid (fun (u : World) (e : Ext w u) => h7.ext RRun.mono e)
  have HU := Lib.hid (show useV ⟨⟨ps, ns⟩, up, lic, dep, now, qs, rs, es⟩ n = useGo n rs ⟨0, 0, 0⟩ from rfl)
  rw [HU.out]
  generalize hug : useGo n rs ⟨0, 0, 0⟩ = U at *
  have HUG := Lib.hid hug
  have hw1 : IntKind.i64.wrap ((ns.length : Int) - 1) = (ns.length : Int) - 1 := IntWalk.i64_in _ ⟨by omega, by omega⟩
  have HWI := Lib.hid (show withinB n 0 ((ns.length : Int) - 1) = true from by unfold withinB; rw [decide_eq_true_iff]; omega)
  clear hug hruns h1 h2 h3 h6 h7 h8 hok
  go_enter Tryz.func49, Tryz.ntmps49
  go_wp2_with fail
  refine (HOKC.out _ (((Ext.refl w).alloc _).alloc _)).mono ?_
  rintro e w1 ⟨rfl, hb1⟩
  have HX1 := Lib.hid (show Ext ((w.alloc (.cells #[.slice A1 ps.length c1, .slice A2 ns.length c2, .slice A3 up.length c3, .int .i64 lic.A, .int .i64 lic.B, .int .i64 lic.C, .int .i64 dep, .int .i64 now, .slice A6 qs.length c6, .slice A7 rs.length c7, .slice A8 es.length c8] 44)).alloc (.cells #[.int .i64 0, .int .i64 0, .int .i64 0] 39)) w1 from hb1)
  have s1 := (((Ext.refl (w.alloc (.cells #[.slice A1 ps.length c1, .slice A2 ns.length c2, .slice A3 up.length c3, .int .i64 lic.A, .int .i64 lic.B, .int .i64 lic.C, .int .i64 dep, .int .i64 now, .slice A6 qs.length c6, .slice A7 rs.length c7, .slice A8 es.length c8] 44))).alloc _).trans HX1.out).cell (cell_box_at w w.heap.size rfl [.slice A1 ps.length c1, .slice A2 ns.length c2, .slice A3 up.length c3, .int .i64 lic.A, .int .i64 lic.B, .int .i64 lic.C, .int .i64 dep, .int .i64 now, .slice A6 qs.length c6, .slice A7 rs.length c7, .slice A8 es.length c8] 44 1 _ rfl)
  have s9 := (((Ext.refl (w.alloc (.cells #[.slice A1 ps.length c1, .slice A2 ns.length c2, .slice A3 up.length c3, .int .i64 lic.A, .int .i64 lic.B, .int .i64 lic.C, .int .i64 dep, .int .i64 now, .slice A6 qs.length c6, .slice A7 rs.length c7, .slice A8 es.length c8] 44))).alloc _).trans HX1.out).cell (cell_box_at w w.heap.size rfl [.slice A1 ps.length c1, .slice A2 ns.length c2, .slice A3 up.length c3, .int .i64 lic.A, .int .i64 lic.B, .int .i64 lic.C, .int .i64 dep, .int .i64 now, .slice A6 qs.length c6, .slice A7 rs.length c7, .slice A8 es.length c8] 44 9 _ rfl)
  have hs1 := lt_of_cell s1
  have hz1 : w.heap.size + 1 + 1 ≤ w1.heap.size := by have := hb1.le; simpa using this
  go_wp2_with fail
  refine (within_c n 0 _ _).mono ?_
  rintro e w2 ⟨rfl, rfl⟩
  rw [HWI.out]
  have HBX0 := Lib.hid (show (w1.alloc (.cells #[.int .i64 0, .int .i64 0, .int .i64 0] 39)).ownsRow (w.heap.size + 1 + 1) 39 3 (.slice (some ⟨w1.heap.size, 0, none⟩) 1 1) 1 [.int .i64 0, .int .i64 0, .int .i64 0] from owns_base (gbox w1 [.int .i64 0, .int .i64 0, .int .i64 0] 39 3 rfl) hz1)
  clear s1 hb1 hw1
  go_wp2
  go_loopw [28] (fun iv wr => ∃ (k : Nat) (v : Vec), k ≤ rs.length ∧ iv = .int .i64 k ∧ Hid (U = useGo n (rs.drop k) v) ∧ Hid (vecB v = true) ∧ Hid (wr.ownsRow (w.heap.size + 1 + 1) 39 3 (.slice (some ⟨w1.heap.size, 0, none⟩) 1 1) 1 [.int .i64 v.A, .int .i64 v.B, .int .i64 v.C]) ∧ Ext ((w.alloc (.cells #[.slice A1 ps.length c1, .slice A2 ns.length c2, .slice A3 up.length c3, .int .i64 lic.A, .int .i64 lic.B, .int .i64 lic.C, .int .i64 dep, .int .i64 now, .slice A6 qs.length c6, .slice A7 rs.length c7, .slice A8 es.length c8] 44)).alloc (.cells #[.int .i64 0, .int .i64 0, .int .i64 0] 39)) wr) (fun iv _ => rs.length - (intOf iv).toNat)
  case atStart => exact ⟨0, ⟨0, 0, 0⟩, Nat.zero_le _, rfl, Lib.hid HUG.out.symm, Lib.hid rfl, HBX0, HX1.out.alloc _⟩
  case round =>
    clear HBX0 s9
    obtain ⟨k, v, hk, rfl, HG, HVV, HBX, hb⟩ := hrel
    have hxw : Ext w wr := (((Ext.refl w).alloc _).alloc _).trans hb
    by_cases hlt : k < rs.length
    · obtain ⟨bq, oq, x, cs, hA7, hbw, hx, _, hc0, Ar, cr, rfl, hs, hcr, hnl, hat64, hjok⟩ := (HRS.out w (Ext.refl w)).at_ hlt
      subst hA7
      have hc := fun (j : Nat) (u : Value) h => hxw.cell (hc0 j u h)
      have g0 := hc 0 _ rfl
      have g1 := hc 1 _ rfl
      have g2 := hc 2 _ rfl
      have g3 := hc 3 _ rfl
      have g4 := hc 4 _ rfl
      have g5 := hc 5 _ rfl
      have g6 := hc 6 _ rfl
      have g7 := hc 7 _ rfl
      have g8 := hc 8 _ rfl
      have g9 := hc 9 _ rfl
      have g10 := hc 10 _ rfl
      have g11 := hc 11 _ rfl
      have g12 := hc 12 _ rfl
      simp only [Nat.add_zero] at g0
      have HST := Lib.hid (use_step (n := n) (v := v) hx)
      obtain ⟨hj, _, hnl24, _, _⟩ := HRU.out x (List.mem_of_getElem? hx)
      have HJN := Lib.hid (job_need hj)
      have HN3 := Lib.hid (fun (u : World) (e : Ext ((w.alloc (.cells #[.slice A1 ps.length c1, .slice A2 ns.length c2, .slice A3 up.length c3, .int .i64 lic.A, .int .i64 lic.B, .int .i64 lic.C, .int .i64 dep, .int .i64 now, .slice A6 qs.length c6, .slice (some ⟨bq, oq, none⟩) rs.length c7, .slice A8 es.length c8] 44)).alloc (.cells #[.int .i64 0, .int .i64 0, .int .i64 0] 39)) u) => hs.ext (Flat.mono encInt In64) ((((Ext.refl w).alloc _).alloc _).trans e))
      have hzr := (HBX.out.lt _ rfl).2
      have hzw : w.heap.size + 1 + 1 ≤ wr.heap.size := by have := hb.le; simpa using this
      have HRB := Lib.hid (owns_base (gbox wr [.int .i64 x.Job.Id, .int .i64 x.Job.Prio, .int .i64 x.Job.Nodes, .int .i64 x.Job.Need.A, .int .i64 x.Job.Need.B, .int .i64 x.Job.Need.C, .int .i64 x.Job.Lic.A, .int .i64 x.Job.Lic.B, .int .i64 x.Job.Lic.C, .int .i64 x.Job.Wall, .int .i64 x.Job.Level, .int .i64 x.At, .slice Ar x.Nodes.length cr] 64 13 rfl) hzw)
      have HVB := Lib.hid (owns_ext HBX.out ((Ext.refl wr).alloc (.cells #[.int .i64 x.Job.Id, .int .i64 x.Job.Prio, .int .i64 x.Job.Nodes, .int .i64 x.Job.Need.A, .int .i64 x.Job.Need.B, .int .i64 x.Job.Need.C, .int .i64 x.Job.Lic.A, .int .i64 x.Job.Lic.B, .int .i64 x.Job.Lic.C, .int .i64 x.Job.Wall, .int .i64 x.Job.Level, .int .i64 x.At, .slice Ar x.Nodes.length cr] 64)))
      clear hx hc hc0 hs hat64 hjok hcr hnl hj HBX
      generalize hnu : useIn n x.Job.Need x.Nodes v = v2 at *
      have HV2 := Lib.hid hnu
      have HVV2 := Lib.hid (show vecB v2 = true by rw [← hnu]; exact useIn_ok _ _ HVV.out)
      clear hnu
      have hinn : decide ((0 : Int) < 1) = true := rfl
      go_wp2
      go_loopw [35] (fun jv wq => ∃ (j : Nat) (s : Vec), j ≤ x.Nodes.length ∧ jv = .int .i64 j ∧ Hid (v2 = useIn n x.Job.Need (x.Nodes.drop j) s) ∧ Hid (vecB s = true) ∧ Hid (wq.ownsRow (w.heap.size + 1 + 1) 39 3 (.slice (some ⟨w1.heap.size, 0, none⟩) 1 1) 1 [.int .i64 s.A, .int .i64 s.B, .int .i64 s.C]) ∧ Hid (wq.ownsRow (w.heap.size + 1 + 1) 64 13 (.slice (some ⟨wr.heap.size, 0, none⟩) 1 1) 1 [.int .i64 x.Job.Id, .int .i64 x.Job.Prio, .int .i64 x.Job.Nodes, .int .i64 x.Job.Need.A, .int .i64 x.Job.Need.B, .int .i64 x.Job.Need.C, .int .i64 x.Job.Lic.A, .int .i64 x.Job.Lic.B, .int .i64 x.Job.Lic.C, .int .i64 x.Job.Wall, .int .i64 x.Job.Level, .int .i64 x.At, .slice Ar x.Nodes.length cr]) ∧ Ext ((w.alloc (.cells #[.slice A1 ps.length c1, .slice A2 ns.length c2, .slice A3 up.length c3, .int .i64 lic.A, .int .i64 lic.B, .int .i64 lic.C, .int .i64 dep, .int .i64 now, .slice A6 qs.length c6, .slice (some ⟨bq, oq, none⟩) rs.length c7, .slice A8 es.length c8] 44)).alloc (.cells #[.int .i64 0, .int .i64 0, .int .i64 0] 39)) wq) (fun jv _ => x.Nodes.length - (intOf jv).toNat)
      case atStart => exact ⟨0, v, Nat.zero_le _, rfl, Lib.hid HV2.out.symm, HVV, HVB, HRB, hb.alloc _⟩
      case round =>
        clear g0 g1 g2 g3 g4 g5 g6 g7 g8 g9 g10 g11 g12 HVB HRB
        obtain ⟨j, s, hj, rfl, HE, HVS, HVB, HRB, hbq⟩ := hrel
        by_cases hlt2 : j < x.Nodes.length
        · obtain ⟨bo, oo, y, cs2, hD, hbw2, hy, _, hc2, rfl, _⟩ := (HN3.out _ hbq).at_ hlt2
          subst hD
          have y0 := hc2 0 _ rfl
          simp only [Nat.mul_one, Nat.add_zero] at y0
          have HSI := Lib.hid (useIn_step (n := n) (need := x.Job.Need) (v := s) hy)
          clear hy hc2
          by_cases hyn : y = n
          · have HSE := Lib.hid (show v2 = useIn n x.Job.Need (x.Nodes.drop (j + 1)) (addS s x.Job.Need) by rw [HE.out, HSI.out, if_pos hyn])
            have hd : decide (y = n) = true := decide_eq_true hyn
            obtain ⟨m0, m1, m2, mf0, mf1, mf2, ml⟩ := gcells3 HVB.out
            have p3 := gcell HRB.out 3 _ rfl
            have p4 := gcell HRB.out 4 _ rfl
            have p5 := gcell HRB.out 5 _ rfl
            have pl := lt_of_cell p3
            have HVA := Lib.hid (fun u : World => VecAdd_c s x.Job.Need u HVS.out HJN.out)
            have HVO := Lib.hid (addS_ok s x.Job.Need)
            generalize addS s x.Job.Need = s2 at *
            go_wp2_with fail
            refine (HVA.out _).mono ?_
            rintro e w5 ⟨rfl, hb5⟩
            have HVB5 := Lib.hid (owns_ext HVB.out hb5)
            have HRB5 := Lib.hid (owns_ext HRB.out hb5)
            have hbq5 := hbq.trans hb5
            clear m0 m1 m2 mf0 mf1 mf2 ml p3 p4 p5 y0 HVB HRB hb5
            obtain ⟨m0, m1, m2, mf0, mf1, mf2, ml⟩ := gcells3 HVB5.out
            have HAP := g_apart HRB5.out HVB5.out (by decide)
            go_wp2
            go_roundw
            case rel => exact ⟨j + 1, s2, by omega, by go_num, HSE, HVO, Lib.hid (((HVB5.out.stored 0 (.int .i64 s2.A)).1.stored 1 (.int .i64 s2.B)).1.stored 2 (.int .i64 s2.C)).1, Lib.hid (g_puts_far (fun e => HAP _ e rfl) [.int .i64 s2.A, .int .i64 s2.B, .int .i64 s2.C] _ 0 HRB5.out), ((hbq5.setCell (by simp; omega) _).setCell (by simp; omega) _).setCell (by simp; omega) _⟩
            case measure => simp [intOf]; omega
          · have HSE := Lib.hid (show v2 = useIn n x.Job.Need (x.Nodes.drop (j + 1)) s by rw [HE.out, HSI.out, if_neg hyn])
            have hd : decide (y = n) = false := decide_eq_false hyn
            go_wp2
            go_roundw
            case rel => exact ⟨j + 1, s, by omega, by go_num, HSE, HVS, HVB, HRB, hbq⟩
            case measure => simp [intOf]; omega
        · have HSE := Lib.hid (show v2 = s by rw [HE.out, List.drop_eq_nil_of_le (by omega)]; rfl)
          have e := HSE.out
          subst e
          go_wp2
          go_roundw
          case rel => exact ⟨k + 1, v2, by omega, by go_num, Lib.hid (by rw [HG.out, HST.out]), HVV2, HVB, hbq⟩
          case measure => simp [intOf]; omega
    · have HV := Lib.hid (show U = v by rw [HG.out, List.drop_eq_nil_of_le (by omega)]; rfl)
      have e := HV.out
      subst e
      obtain ⟨m0, m1, m2, mf0, mf1, mf2, ml⟩ := gcells3 HBX.out
      have q0 := (hb).cell (cell_box_at (w.alloc (.cells #[.slice A1 ps.length c1, .slice A2 ns.length c2, .slice A3 up.length c3, .int .i64 lic.A, .int .i64 lic.B, .int .i64 lic.C, .int .i64 dep, .int .i64 now, .slice A6 qs.length c6, .slice A7 rs.length c7, .slice A8 es.length c8] 44)) (w.heap.size + 1) (by simp) [.int .i64 0, .int .i64 0, .int .i64 0] 39 0 _ rfl)
      have q1 := (hb).cell (cell_box_at (w.alloc (.cells #[.slice A1 ps.length c1, .slice A2 ns.length c2, .slice A3 up.length c3, .int .i64 lic.A, .int .i64 lic.B, .int .i64 lic.C, .int .i64 dep, .int .i64 now, .slice A6 qs.length c6, .slice A7 rs.length c7, .slice A8 es.length c8] 44)) (w.heap.size + 1) (by simp) [.int .i64 0, .int .i64 0, .int .i64 0] 39 1 _ rfl)
      have q2 := (hb).cell (cell_box_at (w.alloc (.cells #[.slice A1 ps.length c1, .slice A2 ns.length c2, .slice A3 up.length c3, .int .i64 lic.A, .int .i64 lic.B, .int .i64 lic.C, .int .i64 dep, .int .i64 now, .slice A6 qs.length c6, .slice A7 rs.length c7, .slice A8 es.length c8] 44)) (w.heap.size + 1) (by simp) [.int .i64 0, .int .i64 0, .int .i64 0] 39 2 _ rfl)
      have qf0 := ((hb).frozenEq (a := ⟨w.heap.size + 1, 0, none⟩) (by simp)).trans (frozen_box_at (w.alloc (.cells #[.slice A1 ps.length c1, .slice A2 ns.length c2, .slice A3 up.length c3, .int .i64 lic.A, .int .i64 lic.B, .int .i64 lic.C, .int .i64 dep, .int .i64 now, .slice A6 qs.length c6, .slice A7 rs.length c7, .slice A8 es.length c8] 44)) (w.heap.size + 1) (by simp) #[.int .i64 0, .int .i64 0, .int .i64 0] 39 0)
      have qf1 := ((hb).frozenEq (a := ⟨w.heap.size + 1, 1, none⟩) (by simp)).trans (frozen_box_at (w.alloc (.cells #[.slice A1 ps.length c1, .slice A2 ns.length c2, .slice A3 up.length c3, .int .i64 lic.A, .int .i64 lic.B, .int .i64 lic.C, .int .i64 dep, .int .i64 now, .slice A6 qs.length c6, .slice A7 rs.length c7, .slice A8 es.length c8] 44)) (w.heap.size + 1) (by simp) #[.int .i64 0, .int .i64 0, .int .i64 0] 39 1)
      have qf2 := ((hb).frozenEq (a := ⟨w.heap.size + 1, 2, none⟩) (by simp)).trans (frozen_box_at (w.alloc (.cells #[.slice A1 ps.length c1, .slice A2 ns.length c2, .slice A3 up.length c3, .int .i64 lic.A, .int .i64 lic.B, .int .i64 lic.C, .int .i64 dep, .int .i64 now, .slice A6 qs.length c6, .slice A7 rs.length c7, .slice A8 es.length c8] 44)) (w.heap.size + 1) (by simp) #[.int .i64 0, .int .i64 0, .int .i64 0] 39 2)
      have hql := lt_of_cell q0
      clear HBX HG HRS HRU HOKC
      go_wp2
      exact ret_is (by simp [results, Tryz.results49, go_sem, *]) rfl (((hxw.setCell (by simp) _).setCell (by simp) _).setCell (by simp) _)
set_option maxHeartbeats 16000000 in
set_option maxRecDepth 10000 in
theorem sUse_c (s : State) (v : Value) (n : Int) (w : World) (h : StateAt w s v) (hlen : stateLen s) (hok : stateB s = true) (hn : 0 ≤ n ∧ n < s.Topo.Nodes.length) : Calls Tryz.prog 47 #[v, .int .i64 n] w (Ret w (.agg #[.int .i64 (useV s n).A, .int .i64 (useV s n).B, .int .i64 (useV s n).C])) := by
  have HST0 := Lib.hid h
  obtain ⟨hruns, hnow, ht⟩ := state_runs hok
  have HOKC := Lib.hid (fun (u : World) (e : Ext w u) => sStateOk_c s v u (h.ext e) hlen)
  rw [hok] at HOKC
  obtain ⟨⟨ps, ns⟩, up, lic, dep, now, qs, rs, es⟩ := s
  obtain ⟨A1, c1, A2, c2, A3, c3, A6, c6, A7, c7, A8, c8, rfl, h1, h2, h3, h6, h7, h8⟩ := h
  obtain ⟨hl1, hl2, hl3, hl6, hl7, hl8⟩ := hlen
  simp only [] at hl1 hl2 hl3 hl6 hl7 hl8 hn hruns h7 HOKC ⊢
  have HRU := Lib.hid hruns
  have HRS := Lib.hid (fun (u : World) (e : Ext w u) => h7.ext RRun.mono e)
  have HU := Lib.hid (show useV ⟨⟨ps, ns⟩, up, lic, dep, now, qs, rs, es⟩ n = useGo n rs ⟨0, 0, 0⟩ from rfl)
  rw [HU.out]
  generalize hug : useGo n rs ⟨0, 0, 0⟩ = U at *
  have HUG := Lib.hid hug
  have HND := Lib.hid (fun (u : World) (e : Ext w u) => l06Node_c ⟨⟨ps, ns⟩, up, lic, dep, now, qs, rs, es⟩ _ n u (HST0.out.ext e) hn hl2)
  clear hug hruns h1 h2 h3 h6 h7 h8 hok
  go_enter Tryz.func47, Tryz.ntmps47
  go_wp2_with fail
  refine (HOKC.out _ ((((Ext.refl w).alloc _).alloc _).alloc _)).mono ?_
  rintro e w1 ⟨rfl, hb1⟩
  have HX1 := Lib.hid (show Ext ((w.alloc (.cells #[.slice A1 ps.length c1, .slice A2 ns.length c2, .slice A3 up.length c3, .int .i64 lic.A, .int .i64 lic.B, .int .i64 lic.C, .int .i64 dep, .int .i64 now, .slice A6 qs.length c6, .slice A7 rs.length c7, .slice A8 es.length c8] 44)).alloc (.cells #[.int .i64 0, .int .i64 0, .int .i64 0] 39)) w1 from ((Ext.refl _).alloc _).trans hb1)
  have HB1 := Lib.hid (owns_ext (gbox ((w.alloc (.cells #[.slice A1 ps.length c1, .slice A2 ns.length c2, .slice A3 up.length c3, .int .i64 lic.A, .int .i64 lic.B, .int .i64 lic.C, .int .i64 dep, .int .i64 now, .slice A6 qs.length c6, .slice A7 rs.length c7, .slice A8 es.length c8] 44)).alloc (.cells #[.int .i64 0, .int .i64 0, .int .i64 0] 39)) [.int .i64 0, .int .i64 0, .int .i64 0] 39 3 rfl) hb1)
  simp only [World.size_alloc] at HB1
  have s0 := (((Ext.refl (w.alloc (.cells #[.slice A1 ps.length c1, .slice A2 ns.length c2, .slice A3 up.length c3, .int .i64 lic.A, .int .i64 lic.B, .int .i64 lic.C, .int .i64 dep, .int .i64 now, .slice A6 qs.length c6, .slice A7 rs.length c7, .slice A8 es.length c8] 44))).alloc _).trans HX1.out).cell (cell_box_at w w.heap.size rfl [.slice A1 ps.length c1, .slice A2 ns.length c2, .slice A3 up.length c3, .int .i64 lic.A, .int .i64 lic.B, .int .i64 lic.C, .int .i64 dep, .int .i64 now, .slice A6 qs.length c6, .slice A7 rs.length c7, .slice A8 es.length c8] 44 0 _ rfl)
  have s1 := (((Ext.refl (w.alloc (.cells #[.slice A1 ps.length c1, .slice A2 ns.length c2, .slice A3 up.length c3, .int .i64 lic.A, .int .i64 lic.B, .int .i64 lic.C, .int .i64 dep, .int .i64 now, .slice A6 qs.length c6, .slice A7 rs.length c7, .slice A8 es.length c8] 44))).alloc _).trans HX1.out).cell (cell_box_at w w.heap.size rfl [.slice A1 ps.length c1, .slice A2 ns.length c2, .slice A3 up.length c3, .int .i64 lic.A, .int .i64 lic.B, .int .i64 lic.C, .int .i64 dep, .int .i64 now, .slice A6 qs.length c6, .slice A7 rs.length c7, .slice A8 es.length c8] 44 1 _ rfl)
  have s2 := (((Ext.refl (w.alloc (.cells #[.slice A1 ps.length c1, .slice A2 ns.length c2, .slice A3 up.length c3, .int .i64 lic.A, .int .i64 lic.B, .int .i64 lic.C, .int .i64 dep, .int .i64 now, .slice A6 qs.length c6, .slice A7 rs.length c7, .slice A8 es.length c8] 44))).alloc _).trans HX1.out).cell (cell_box_at w w.heap.size rfl [.slice A1 ps.length c1, .slice A2 ns.length c2, .slice A3 up.length c3, .int .i64 lic.A, .int .i64 lic.B, .int .i64 lic.C, .int .i64 dep, .int .i64 now, .slice A6 qs.length c6, .slice A7 rs.length c7, .slice A8 es.length c8] 44 2 _ rfl)
  have s3 := (((Ext.refl (w.alloc (.cells #[.slice A1 ps.length c1, .slice A2 ns.length c2, .slice A3 up.length c3, .int .i64 lic.A, .int .i64 lic.B, .int .i64 lic.C, .int .i64 dep, .int .i64 now, .slice A6 qs.length c6, .slice A7 rs.length c7, .slice A8 es.length c8] 44))).alloc _).trans HX1.out).cell (cell_box_at w w.heap.size rfl [.slice A1 ps.length c1, .slice A2 ns.length c2, .slice A3 up.length c3, .int .i64 lic.A, .int .i64 lic.B, .int .i64 lic.C, .int .i64 dep, .int .i64 now, .slice A6 qs.length c6, .slice A7 rs.length c7, .slice A8 es.length c8] 44 3 _ rfl)
  have s4 := (((Ext.refl (w.alloc (.cells #[.slice A1 ps.length c1, .slice A2 ns.length c2, .slice A3 up.length c3, .int .i64 lic.A, .int .i64 lic.B, .int .i64 lic.C, .int .i64 dep, .int .i64 now, .slice A6 qs.length c6, .slice A7 rs.length c7, .slice A8 es.length c8] 44))).alloc _).trans HX1.out).cell (cell_box_at w w.heap.size rfl [.slice A1 ps.length c1, .slice A2 ns.length c2, .slice A3 up.length c3, .int .i64 lic.A, .int .i64 lic.B, .int .i64 lic.C, .int .i64 dep, .int .i64 now, .slice A6 qs.length c6, .slice A7 rs.length c7, .slice A8 es.length c8] 44 4 _ rfl)
  have s5 := (((Ext.refl (w.alloc (.cells #[.slice A1 ps.length c1, .slice A2 ns.length c2, .slice A3 up.length c3, .int .i64 lic.A, .int .i64 lic.B, .int .i64 lic.C, .int .i64 dep, .int .i64 now, .slice A6 qs.length c6, .slice A7 rs.length c7, .slice A8 es.length c8] 44))).alloc _).trans HX1.out).cell (cell_box_at w w.heap.size rfl [.slice A1 ps.length c1, .slice A2 ns.length c2, .slice A3 up.length c3, .int .i64 lic.A, .int .i64 lic.B, .int .i64 lic.C, .int .i64 dep, .int .i64 now, .slice A6 qs.length c6, .slice A7 rs.length c7, .slice A8 es.length c8] 44 5 _ rfl)
  have s6 := (((Ext.refl (w.alloc (.cells #[.slice A1 ps.length c1, .slice A2 ns.length c2, .slice A3 up.length c3, .int .i64 lic.A, .int .i64 lic.B, .int .i64 lic.C, .int .i64 dep, .int .i64 now, .slice A6 qs.length c6, .slice A7 rs.length c7, .slice A8 es.length c8] 44))).alloc _).trans HX1.out).cell (cell_box_at w w.heap.size rfl [.slice A1 ps.length c1, .slice A2 ns.length c2, .slice A3 up.length c3, .int .i64 lic.A, .int .i64 lic.B, .int .i64 lic.C, .int .i64 dep, .int .i64 now, .slice A6 qs.length c6, .slice A7 rs.length c7, .slice A8 es.length c8] 44 6 _ rfl)
  have s7 := (((Ext.refl (w.alloc (.cells #[.slice A1 ps.length c1, .slice A2 ns.length c2, .slice A3 up.length c3, .int .i64 lic.A, .int .i64 lic.B, .int .i64 lic.C, .int .i64 dep, .int .i64 now, .slice A6 qs.length c6, .slice A7 rs.length c7, .slice A8 es.length c8] 44))).alloc _).trans HX1.out).cell (cell_box_at w w.heap.size rfl [.slice A1 ps.length c1, .slice A2 ns.length c2, .slice A3 up.length c3, .int .i64 lic.A, .int .i64 lic.B, .int .i64 lic.C, .int .i64 dep, .int .i64 now, .slice A6 qs.length c6, .slice A7 rs.length c7, .slice A8 es.length c8] 44 7 _ rfl)
  have s8 := (((Ext.refl (w.alloc (.cells #[.slice A1 ps.length c1, .slice A2 ns.length c2, .slice A3 up.length c3, .int .i64 lic.A, .int .i64 lic.B, .int .i64 lic.C, .int .i64 dep, .int .i64 now, .slice A6 qs.length c6, .slice A7 rs.length c7, .slice A8 es.length c8] 44))).alloc _).trans HX1.out).cell (cell_box_at w w.heap.size rfl [.slice A1 ps.length c1, .slice A2 ns.length c2, .slice A3 up.length c3, .int .i64 lic.A, .int .i64 lic.B, .int .i64 lic.C, .int .i64 dep, .int .i64 now, .slice A6 qs.length c6, .slice A7 rs.length c7, .slice A8 es.length c8] 44 8 _ rfl)
  have s9 := (((Ext.refl (w.alloc (.cells #[.slice A1 ps.length c1, .slice A2 ns.length c2, .slice A3 up.length c3, .int .i64 lic.A, .int .i64 lic.B, .int .i64 lic.C, .int .i64 dep, .int .i64 now, .slice A6 qs.length c6, .slice A7 rs.length c7, .slice A8 es.length c8] 44))).alloc _).trans HX1.out).cell (cell_box_at w w.heap.size rfl [.slice A1 ps.length c1, .slice A2 ns.length c2, .slice A3 up.length c3, .int .i64 lic.A, .int .i64 lic.B, .int .i64 lic.C, .int .i64 dep, .int .i64 now, .slice A6 qs.length c6, .slice A7 rs.length c7, .slice A8 es.length c8] 44 9 _ rfl)
  have s10 := (((Ext.refl (w.alloc (.cells #[.slice A1 ps.length c1, .slice A2 ns.length c2, .slice A3 up.length c3, .int .i64 lic.A, .int .i64 lic.B, .int .i64 lic.C, .int .i64 dep, .int .i64 now, .slice A6 qs.length c6, .slice A7 rs.length c7, .slice A8 es.length c8] 44))).alloc _).trans HX1.out).cell (cell_box_at w w.heap.size rfl [.slice A1 ps.length c1, .slice A2 ns.length c2, .slice A3 up.length c3, .int .i64 lic.A, .int .i64 lic.B, .int .i64 lic.C, .int .i64 dep, .int .i64 now, .slice A6 qs.length c6, .slice A7 rs.length c7, .slice A8 es.length c8] 44 10 _ rfl)
  have hs1 := lt_of_cell s1
  have hx1 : Ext w w1 := (((Ext.refl w).alloc _).alloc _).trans HX1.out
  clear hb1
  go_wp2_with fail
  refine (HND.out _ hx1).mono ?_
  rintro e w2 ⟨rfl, hb2⟩
  have HX2 := Lib.hid (HX1.out.trans hb2)
  have HB2 := Lib.hid (owns_ext HB1.out hb2)
  clear s0 s1 s2 s3 s4 s5 s6 s7 s8 s9 s10 hs1 HB1 HX1 hx1 hb2
  have s9 := (((Ext.refl (w.alloc (.cells #[.slice A1 ps.length c1, .slice A2 ns.length c2, .slice A3 up.length c3, .int .i64 lic.A, .int .i64 lic.B, .int .i64 lic.C, .int .i64 dep, .int .i64 now, .slice A6 qs.length c6, .slice A7 rs.length c7, .slice A8 es.length c8] 44))).alloc _).trans HX2.out).cell (cell_box_at w w.heap.size rfl [.slice A1 ps.length c1, .slice A2 ns.length c2, .slice A3 up.length c3, .int .i64 lic.A, .int .i64 lic.B, .int .i64 lic.C, .int .i64 dep, .int .i64 now, .slice A6 qs.length c6, .slice A7 rs.length c7, .slice A8 es.length c8] 44 9 _ rfl)
  have hs9 := lt_of_cell s9
  go_wp2
  go_loopw [22] (fun iv wr => ∃ (k : Nat) (v : Vec), k ≤ rs.length ∧ iv = .int .i64 k ∧ Hid (U = useGo n (rs.drop k) v) ∧ Hid (vecB v = true) ∧ Hid (wr.ownsRow (w.heap.size + 1 + 1) 39 3 (.slice (some ⟨w.heap.size + 1 + 1, 0, none⟩) 1 1) 1 [.int .i64 v.A, .int .i64 v.B, .int .i64 v.C]) ∧ Ext ((w.alloc (.cells #[.slice A1 ps.length c1, .slice A2 ns.length c2, .slice A3 up.length c3, .int .i64 lic.A, .int .i64 lic.B, .int .i64 lic.C, .int .i64 dep, .int .i64 now, .slice A6 qs.length c6, .slice A7 rs.length c7, .slice A8 es.length c8] 44)).alloc (.cells #[.int .i64 0, .int .i64 0, .int .i64 0] 39)) wr) (fun iv _ => rs.length - (intOf iv).toNat)
  case atStart => exact ⟨0, ⟨0, 0, 0⟩, Nat.zero_le _, rfl, Lib.hid HUG.out.symm, Lib.hid rfl, HB2, HX2.out⟩
  case round =>
    clear HB2 HX2 s9 hs9
    obtain ⟨k, v, hk, rfl, HG, HVV, HBX, hb⟩ := hrel
    have hxw : Ext w wr := (((Ext.refl w).alloc _).alloc _).trans hb
    by_cases hlt : k < rs.length
    · obtain ⟨bq, oq, x, cs, hA7, hbw, hx, _, hc0, Ar, cr, rfl, hs, hcr, hnl, hat64, hjok⟩ := (HRS.out w (Ext.refl w)).at_ hlt
      subst hA7
      have hc := fun (j : Nat) (u : Value) h => hxw.cell (hc0 j u h)
      have g0 := hc 0 _ rfl
      have g1 := hc 1 _ rfl
      have g2 := hc 2 _ rfl
      have g3 := hc 3 _ rfl
      have g4 := hc 4 _ rfl
      have g5 := hc 5 _ rfl
      have g6 := hc 6 _ rfl
      have g7 := hc 7 _ rfl
      have g8 := hc 8 _ rfl
      have g9 := hc 9 _ rfl
      have g10 := hc 10 _ rfl
      have g11 := hc 11 _ rfl
      have g12 := hc 12 _ rfl
      simp only [Nat.add_zero] at g0
      have HST := Lib.hid (use_step (n := n) (v := v) hx)
      obtain ⟨hj, hnd, hnl24, _, _⟩ := HRU.out x (List.mem_of_getElem? hx)
      have HJN := Lib.hid (job_need hj)
      have HUI := Lib.hid (useIn_eq (n := n) (need := x.Job.Need) x.Nodes v hnd)
      have HHS := Lib.hid (fun (u : World) (e : Ext w u) => l02Has_c x.Nodes n Ar x.Nodes.length cr u (hs.ext (Flat.mono encInt In64) e) (by unfold maxLen; omega))
      have hzr := (HBX.out.lt _ rfl).2
      clear hx hc hc0 hs hat64 hjok hcr hnl hj hnd
      generalize x.Nodes.contains n = cb at *
      go_wp2_with fail
      refine (HHS.out _ (hxw.trans ((Ext.refl wr).alloc _))).mono ?_
      rintro e w3 ⟨rfl, hb3⟩
      have HX3 := Lib.hid (hb.trans (((Ext.refl wr).alloc _).trans hb3))
      have HB3 := Lib.hid (owns_ext HBX.out (((Ext.refl wr).alloc _).trans hb3))
      clear g0 g1 g2 g3 g4 g5 g6 g7 g8 g9 g10 g11 g12 HBX
      cases cb
      · have HSE := Lib.hid (show U = useGo n (rs.drop (k + 1)) v by rw [HG.out, HST.out, HUI.out]; rfl)
        go_wp2
        go_roundw
        case rel => exact ⟨k + 1, v, by omega, by go_num, HSE, HVV, HB3, HX3.out⟩
        case measure => simp [intOf]; omega
      · have HSE := Lib.hid (show U = useGo n (rs.drop (k + 1)) (addS v x.Job.Need) by rw [HG.out, HST.out, HUI.out]; rfl)
        have p3 := hb3.cell (cell_box_at wr wr.heap.size rfl [.int .i64 x.Job.Id, .int .i64 x.Job.Prio, .int .i64 x.Job.Nodes, .int .i64 x.Job.Need.A, .int .i64 x.Job.Need.B, .int .i64 x.Job.Need.C, .int .i64 x.Job.Lic.A, .int .i64 x.Job.Lic.B, .int .i64 x.Job.Lic.C, .int .i64 x.Job.Wall, .int .i64 x.Job.Level, .int .i64 x.At, .slice Ar x.Nodes.length cr] 64 3 _ rfl)
        have p4 := hb3.cell (cell_box_at wr wr.heap.size rfl [.int .i64 x.Job.Id, .int .i64 x.Job.Prio, .int .i64 x.Job.Nodes, .int .i64 x.Job.Need.A, .int .i64 x.Job.Need.B, .int .i64 x.Job.Need.C, .int .i64 x.Job.Lic.A, .int .i64 x.Job.Lic.B, .int .i64 x.Job.Lic.C, .int .i64 x.Job.Wall, .int .i64 x.Job.Level, .int .i64 x.At, .slice Ar x.Nodes.length cr] 64 4 _ rfl)
        have p5 := hb3.cell (cell_box_at wr wr.heap.size rfl [.int .i64 x.Job.Id, .int .i64 x.Job.Prio, .int .i64 x.Job.Nodes, .int .i64 x.Job.Need.A, .int .i64 x.Job.Need.B, .int .i64 x.Job.Need.C, .int .i64 x.Job.Lic.A, .int .i64 x.Job.Lic.B, .int .i64 x.Job.Lic.C, .int .i64 x.Job.Wall, .int .i64 x.Job.Level, .int .i64 x.At, .slice Ar x.Nodes.length cr] 64 5 _ rfl)
        have pl := lt_of_cell p3
        obtain ⟨m0, m1, m2, mf0, mf1, mf2, ml⟩ := gcells3 HB3.out
        have HVA := Lib.hid (fun u : World => sVecAdd_c v x.Job.Need u HVV.out HJN.out)
        have HVO := Lib.hid (addS_ok v x.Job.Need)
        generalize addS v x.Job.Need = s2 at *
        go_wp2_with fail
        refine (HVA.out _).mono ?_
        rintro e w5 ⟨rfl, hb5⟩
        have HVB5 := Lib.hid (owns_ext HB3.out hb5)
        have HX5 := Lib.hid (HX3.out.trans hb5)
        clear m0 m1 m2 mf0 mf1 mf2 ml p3 p4 p5 hb5 hb3
        obtain ⟨m0, m1, m2, mf0, mf1, mf2, ml⟩ := gcells3 HVB5.out
        go_wp2
        go_roundw
        case rel => exact ⟨k + 1, s2, by omega, by go_num, HSE, HVO, Lib.hid (((HVB5.out.stored 0 (.int .i64 s2.A)).1.stored 1 (.int .i64 s2.B)).1.stored 2 (.int .i64 s2.C)).1, ((HX5.out.setCell (by simp) _).setCell (by simp) _).setCell (by simp) _⟩
        case measure => simp [intOf]; omega
    · have HV := Lib.hid (show U = v by rw [HG.out, List.drop_eq_nil_of_le (by omega)]; rfl)
      have e := HV.out
      subst e
      obtain ⟨m0, m1, m2, mf0, mf1, mf2, ml⟩ := gcells3 HBX.out
      have q0 := (hb).cell (cell_box_at (w.alloc (.cells #[.slice A1 ps.length c1, .slice A2 ns.length c2, .slice A3 up.length c3, .int .i64 lic.A, .int .i64 lic.B, .int .i64 lic.C, .int .i64 dep, .int .i64 now, .slice A6 qs.length c6, .slice A7 rs.length c7, .slice A8 es.length c8] 44)) (w.heap.size + 1) (by simp) [.int .i64 0, .int .i64 0, .int .i64 0] 39 0 _ rfl)
      have q1 := (hb).cell (cell_box_at (w.alloc (.cells #[.slice A1 ps.length c1, .slice A2 ns.length c2, .slice A3 up.length c3, .int .i64 lic.A, .int .i64 lic.B, .int .i64 lic.C, .int .i64 dep, .int .i64 now, .slice A6 qs.length c6, .slice A7 rs.length c7, .slice A8 es.length c8] 44)) (w.heap.size + 1) (by simp) [.int .i64 0, .int .i64 0, .int .i64 0] 39 1 _ rfl)
      have q2 := (hb).cell (cell_box_at (w.alloc (.cells #[.slice A1 ps.length c1, .slice A2 ns.length c2, .slice A3 up.length c3, .int .i64 lic.A, .int .i64 lic.B, .int .i64 lic.C, .int .i64 dep, .int .i64 now, .slice A6 qs.length c6, .slice A7 rs.length c7, .slice A8 es.length c8] 44)) (w.heap.size + 1) (by simp) [.int .i64 0, .int .i64 0, .int .i64 0] 39 2 _ rfl)
      have qf0 := ((hb).frozenEq (a := ⟨w.heap.size + 1, 0, none⟩) (by simp)).trans (frozen_box_at (w.alloc (.cells #[.slice A1 ps.length c1, .slice A2 ns.length c2, .slice A3 up.length c3, .int .i64 lic.A, .int .i64 lic.B, .int .i64 lic.C, .int .i64 dep, .int .i64 now, .slice A6 qs.length c6, .slice A7 rs.length c7, .slice A8 es.length c8] 44)) (w.heap.size + 1) (by simp) #[.int .i64 0, .int .i64 0, .int .i64 0] 39 0)
      have qf1 := ((hb).frozenEq (a := ⟨w.heap.size + 1, 1, none⟩) (by simp)).trans (frozen_box_at (w.alloc (.cells #[.slice A1 ps.length c1, .slice A2 ns.length c2, .slice A3 up.length c3, .int .i64 lic.A, .int .i64 lic.B, .int .i64 lic.C, .int .i64 dep, .int .i64 now, .slice A6 qs.length c6, .slice A7 rs.length c7, .slice A8 es.length c8] 44)) (w.heap.size + 1) (by simp) #[.int .i64 0, .int .i64 0, .int .i64 0] 39 1)
      have qf2 := ((hb).frozenEq (a := ⟨w.heap.size + 1, 2, none⟩) (by simp)).trans (frozen_box_at (w.alloc (.cells #[.slice A1 ps.length c1, .slice A2 ns.length c2, .slice A3 up.length c3, .int .i64 lic.A, .int .i64 lic.B, .int .i64 lic.C, .int .i64 dep, .int .i64 now, .slice A6 qs.length c6, .slice A7 rs.length c7, .slice A8 es.length c8] 44)) (w.heap.size + 1) (by simp) #[.int .i64 0, .int .i64 0, .int .i64 0] 39 2)
      have hql := lt_of_cell q0
      clear HBX HG HRS HRU HOKC HND
      go_wp2
      exact ret_is (by simp [results, Tryz.results47, go_sem, *]) rfl (((hxw.setCell (by simp) _).setCell (by simp) _).setCell (by simp) _)
end Go.Proofs.YtfcffcgdbmkfgaaGreat
/-! Load -/
namespace Go.Proofs.YtfcffcgdbmkfgaaGreat
open Go.RowKit
set_option linter.unusedVariables false
def capA (s : State) (n : Int) : Int := match s.Topo.Nodes[n.toNat]? with
  | some x => x.Cap.A
  | none => 0
def loadI (s : State) (n : Int) : Int := if stateB s = true then (if 0 ≤ n ∧ n < s.Topo.Nodes.length then (if capA s n = 0 then -1 else ((useV s n).A * 100).tdiv (capA s n)) else -1) else -1
theorem run_field_A (w : World) (a b c : Int) : (Instr.field 39 (.agg #[.int .i64 a, .int .i64 b, .int .i64 c]) 0).run Tryz.prog w = .ok (.int .i64 a) w := by kernel_rfl
attribute [local go_sem ↓] run_field_A
theorem div_eq {a b : Int} (h : 0 ≤ a) (hb : 0 ≤ b) : a.tdiv b = a / b := Int.tdiv_eq_ediv_of_nonneg h
theorem l06Node_f (s : State) (v : Value) (n : Int) (w : World) (h : StateAt w s v) (hn : n < 0 ∨ (s.Topo.Nodes.length : Int) ≤ n) (hl : s.Topo.Nodes.length ≤ 1048576) : Calls Tryz.prog 46 #[v, .int .i64 n] w (Ret w (.bool false)) := by
  obtain ⟨A1, c1, A2, c2, A3, c3, A6, c6, A7, c7, A8, c8, rfl, _, _, _, _, _, _⟩ := h
  rcases hn with hn | hn
  · have d1 : decide (0 ≤ n) = false := decide_eq_false (by omega)
    go_enter Tryz.func46, Tryz.ntmps46
    go_wp2
    exact ret_bool rfl rfl rfl rfl ((Ext.refl w).alloc _)
  · have d1 : decide (0 ≤ n) = true := decide_eq_true (by omega)
    have d2 : decide (n < (s.Topo.Nodes.length : Int)) = false := decide_eq_false (by omega)
    go_enter Tryz.func46, Tryz.ntmps46
    go_wp2
    exact ret_bool rfl rfl rfl rfl ((Ext.refl w).alloc _)
set_option maxHeartbeats 16000000 in
set_option maxRecDepth 10000 in
theorem Load_c (s : State) (v : Value) (n : Int) (w : World) (h : StateAt w s v) (hlen : stateLen s) (hn64 : In64 n) : Calls Tryz.prog 19 #[v, .int .i64 n] w (Ret w (.int .i64 (loadI s n))) := by
  have HOKC := Lib.hid (fun (u : World) (e : Ext w u) => StateOk_c s v u (h.ext e) hlen)
  have HSR := Lib.hid (fun (h : stateB s = true) => state_runs h)
  have HUS := Lib.hid (fun (u : World) (e : Ext w u) (a : stateB s = true) (b : 0 ≤ n ∧ n < s.Topo.Nodes.length) => Use_c s v n u (h.ext e) hlen a b)
  have HUO := Lib.hid (useGo_ok (n := n) s.Runs ⟨0, 0, 0⟩ rfl)
  have HUV := Lib.hid (show useV s n = useGo n s.Runs ⟨0, 0, 0⟩ from rfl)
  rw [← HUV.out] at HUO
  have HLD := Lib.hid (show loadI s n = if stateB s = true then (if 0 ≤ n ∧ n < s.Topo.Nodes.length then (if capA s n = 0 then -1 else ((useV s n).A * 100).tdiv (capA s n)) else -1) else -1 from rfl)
  have HCP := Lib.hid (show capA s n = match s.Topo.Nodes[n.toNat]? with | some x => x.Cap.A | none => 0 from rfl)
  have HTB := Lib.hid (fun (h : stateB s = true) => show ∀ x ∈ s.Topo.Nodes, vecB x.Cap = true from fun x hx => by have := (topo_parts (HSR.out h).2.2).2.2.2.2.1 x hx; unfold nodeB at this; simp only [Bool.and_eq_true] at this; exact this.2.2)
  generalize loadI s n = R at *
  generalize useV s n = U at *
  generalize capA s n = C at *
  generalize stateB s = ok at *
  clear HSR HUV
  obtain ⟨⟨ps, ns⟩, up, lic, dep, now, qs, rs, es⟩ := s
  obtain ⟨A1, c1, A2, c2, A3, c3, A6, c6, A7, c7, A8, c8, rfl, h1, h2, h3, h6, h7, h8⟩ := h
  obtain ⟨hl1, hl2, hl3, hl6, hl7, hl8⟩ := hlen
  simp only [] at hl1 hl2 hl3 hl6 hl7 hl8 HOKC HUS HLD HCP HTB ⊢
  have HNS := Lib.hid (fun (u : World) (e : Ext w u) => h2.ext (Flat.mono Node.enc Node.ok) e)
  clear h1 h2 h3 h6 h7 h8
  have hw1 : IntKind.i64.wrap ((ns.length : Int) - 1) = (ns.length : Int) - 1 := IntWalk.i64_in _ ⟨by omega, by omega⟩
  go_enter Tryz.func19, Tryz.ntmps19
  go_wp2_with fail
  refine (HOKC.out _ ((Ext.refl w).alloc _)).mono ?_
  rintro e w1 ⟨rfl, hb1⟩
  have hx1 : Ext w w1 := ((Ext.refl w).alloc _).trans hb1
  have HX1 := Lib.hid (show Ext (w.alloc (.cells #[.slice A1 ps.length c1, .slice A2 ns.length c2, .slice A3 up.length c3, .int .i64 lic.A, .int .i64 lic.B, .int .i64 lic.C, .int .i64 dep, .int .i64 now, .slice A6 qs.length c6, .slice A7 rs.length c7, .slice A8 es.length c8] 44)) w1 from hb1)
  rcases ok with _ | _
  · go_wp2
    exact ret_int rfl rfl rfl (by rw [HLD.out]; rfl) hx1
  have s0 := HX1.out.cell (cell_box_at w w.heap.size rfl [.slice A1 ps.length c1, .slice A2 ns.length c2, .slice A3 up.length c3, .int .i64 lic.A, .int .i64 lic.B, .int .i64 lic.C, .int .i64 dep, .int .i64 now, .slice A6 qs.length c6, .slice A7 rs.length c7, .slice A8 es.length c8] 44 0 _ rfl)
  have s1 := HX1.out.cell (cell_box_at w w.heap.size rfl [.slice A1 ps.length c1, .slice A2 ns.length c2, .slice A3 up.length c3, .int .i64 lic.A, .int .i64 lic.B, .int .i64 lic.C, .int .i64 dep, .int .i64 now, .slice A6 qs.length c6, .slice A7 rs.length c7, .slice A8 es.length c8] 44 1 _ rfl)
  have s2 := HX1.out.cell (cell_box_at w w.heap.size rfl [.slice A1 ps.length c1, .slice A2 ns.length c2, .slice A3 up.length c3, .int .i64 lic.A, .int .i64 lic.B, .int .i64 lic.C, .int .i64 dep, .int .i64 now, .slice A6 qs.length c6, .slice A7 rs.length c7, .slice A8 es.length c8] 44 2 _ rfl)
  have s3 := HX1.out.cell (cell_box_at w w.heap.size rfl [.slice A1 ps.length c1, .slice A2 ns.length c2, .slice A3 up.length c3, .int .i64 lic.A, .int .i64 lic.B, .int .i64 lic.C, .int .i64 dep, .int .i64 now, .slice A6 qs.length c6, .slice A7 rs.length c7, .slice A8 es.length c8] 44 3 _ rfl)
  have s4 := HX1.out.cell (cell_box_at w w.heap.size rfl [.slice A1 ps.length c1, .slice A2 ns.length c2, .slice A3 up.length c3, .int .i64 lic.A, .int .i64 lic.B, .int .i64 lic.C, .int .i64 dep, .int .i64 now, .slice A6 qs.length c6, .slice A7 rs.length c7, .slice A8 es.length c8] 44 4 _ rfl)
  have s5 := HX1.out.cell (cell_box_at w w.heap.size rfl [.slice A1 ps.length c1, .slice A2 ns.length c2, .slice A3 up.length c3, .int .i64 lic.A, .int .i64 lic.B, .int .i64 lic.C, .int .i64 dep, .int .i64 now, .slice A6 qs.length c6, .slice A7 rs.length c7, .slice A8 es.length c8] 44 5 _ rfl)
  have s6 := HX1.out.cell (cell_box_at w w.heap.size rfl [.slice A1 ps.length c1, .slice A2 ns.length c2, .slice A3 up.length c3, .int .i64 lic.A, .int .i64 lic.B, .int .i64 lic.C, .int .i64 dep, .int .i64 now, .slice A6 qs.length c6, .slice A7 rs.length c7, .slice A8 es.length c8] 44 6 _ rfl)
  have s7 := HX1.out.cell (cell_box_at w w.heap.size rfl [.slice A1 ps.length c1, .slice A2 ns.length c2, .slice A3 up.length c3, .int .i64 lic.A, .int .i64 lic.B, .int .i64 lic.C, .int .i64 dep, .int .i64 now, .slice A6 qs.length c6, .slice A7 rs.length c7, .slice A8 es.length c8] 44 7 _ rfl)
  have s8 := HX1.out.cell (cell_box_at w w.heap.size rfl [.slice A1 ps.length c1, .slice A2 ns.length c2, .slice A3 up.length c3, .int .i64 lic.A, .int .i64 lic.B, .int .i64 lic.C, .int .i64 dep, .int .i64 now, .slice A6 qs.length c6, .slice A7 rs.length c7, .slice A8 es.length c8] 44 8 _ rfl)
  have s9 := HX1.out.cell (cell_box_at w w.heap.size rfl [.slice A1 ps.length c1, .slice A2 ns.length c2, .slice A3 up.length c3, .int .i64 lic.A, .int .i64 lic.B, .int .i64 lic.C, .int .i64 dep, .int .i64 now, .slice A6 qs.length c6, .slice A7 rs.length c7, .slice A8 es.length c8] 44 9 _ rfl)
  have s10 := HX1.out.cell (cell_box_at w w.heap.size rfl [.slice A1 ps.length c1, .slice A2 ns.length c2, .slice A3 up.length c3, .int .i64 lic.A, .int .i64 lic.B, .int .i64 lic.C, .int .i64 dep, .int .i64 now, .slice A6 qs.length c6, .slice A7 rs.length c7, .slice A8 es.length c8] 44 10 _ rfl)
  have hs1 := lt_of_cell s1
  clear hb1
  by_cases hn : 0 ≤ n ∧ n < (ns.length : Int)
  rotate_left
  · have HN := Lib.hid (show R = -1 by rw [HLD.out, if_pos rfl, if_neg hn])
    go_wp2_with fail
    refine (within_c n 0 _ _).mono ?_
    rintro e w2 ⟨rfl, rfl⟩
    rw [show withinB n 0 ((ns.length : Int) - 1) = false from by unfold withinB; rw [decide_eq_false_iff_not]; omega]
    go_wp2
    exact ret_int rfl rfl rfl (by rw [HN.out]) hx1
  · have HLE := Lib.hid (show R = if C = 0 then -1 else (U.A * 100).tdiv C by rw [HLD.out, if_pos rfl, if_pos hn])
    go_wp2_with fail
    refine (within_c n 0 _ _).mono ?_
    rintro e w2 ⟨rfl, rfl⟩
    rw [show withinB n 0 ((ns.length : Int) - 1) = true from by unfold withinB; rw [decide_eq_true_iff]; omega]
    obtain ⟨i, rfl⟩ := Int.eq_ofNat_of_zero_le hn.1
    have hin : i < ns.length := by omega
    have hx2 : Ext w w1 := hx1
    obtain ⟨b, o, x, cs, hA2, hbw, hx, _, hc, rfl, _⟩ := (HNS.out _ hx2).at_ hin
    subst hA2
    have y0 := hc 0 _ rfl
    have y1 := hc 1 _ rfl
    have y2 := hc 2 _ rfl
    have y3 := hc 3 _ rfl
    simp only [Nat.add_zero] at y0
    have HCX := Lib.hid (show C = x.Cap.A by rw [HCP.out, show ((i : Int)).toNat = i by omega, hx])
    have HCV := Lib.hid (vecB_iffT.1 (HTB.out (by trivial) x (List.mem_of_getElem? hx)))
    have HUB := Lib.hid (vecB_iffT.1 HUO.out)
    clear hx hc
    obtain ⟨⟨u1, u2⟩, _, _⟩ := HUB.out
    obtain ⟨⟨k1, k2⟩, _, _⟩ := HCV.out
    have HCX2 := HCX.out
    by_cases hc0 : x.Cap.A = 0
    · have HN := Lib.hid (show R = -1 by rw [HLE.out, HCX.out, if_pos hc0])
      have hd0 : decide (x.Cap.A = 0) = true := decide_eq_true hc0
      clear HCX2
      go_wp2
      exact ret_int rfl rfl rfl (by rw [HN.out]) hx2
    · have HN := Lib.hid (show R = (U.A * 100).tdiv x.Cap.A by rw [HLE.out, HCX.out, if_neg hc0])
      have hd0 : decide (x.Cap.A = 0) = false := decide_eq_false hc0
      have hd1 : (x.Cap.A == 0) = false := by rw [beq_eq_false_iff_ne]; exact hc0
      clear HCX2
      have HUC := Lib.hid (fun (u : World) (e : Ext w1 u) => HUS.out u (hx2.trans e) (by trivial) ⟨by omega, by omega⟩)
      have hcx := @Later.cell w1
      have hq0 : 0 ≤ U.A * 100 ∧ U.A * 100 ≤ 100000000 := ⟨by omega, by omega⟩
      have hwm : IntKind.i64.wrap (U.A * 100) = U.A * 100 := by rw [show U.A * 100 = U.A * 100 by omega]; exact IntWalk.i64_in _ ⟨by omega, by omega⟩
      have HDV := Lib.hid (show 0 ≤ (U.A * 100).tdiv x.Cap.A ∧ (U.A * 100).tdiv x.Cap.A ≤ 100000000 from by
        rw [div_eq hq0.1 k1]
        exact ⟨Int.ediv_nonneg hq0.1 k1, Int.le_trans (Int.ediv_le_self _ hq0.1) hq0.2⟩)
      have hwd : IntKind.i64.wrap ((U.A * 100).tdiv x.Cap.A) = (U.A * 100).tdiv x.Cap.A := by
        obtain ⟨h1, h2⟩ := HDV.out
        exact IntWalk.i64_in _ ⟨by omega, by omega⟩
      go_wp2
      refine wp_region_ext (by kernel_rfl) (by kernel_rfl) ?_
      repeat (go_big_quiet_step ((go_at_call 49; with_reducible exact Calls.quiet_ext (HUC.out _ (Later.ext _)))))
      refine wpQuiet_nil ?_
      intro w7 hb7
      clear hcx s0 s1 s2 s3 s4 s5 s6 s7 s8 s9 s10 y0 y1 y2 y3
      go_wp2
      exact ret_int rfl rfl rfl (by rw [HN.out]) (hx2.trans hb7)
set_option maxHeartbeats 16000000 in
set_option maxRecDepth 10000 in
theorem sLoad_c (s : State) (v : Value) (n : Int) (w : World) (h : StateAt w s v) (hlen : stateLen s) (hn64 : In64 n) : Calls Tryz.prog 18 #[v, .int .i64 n] w (Ret w (.int .i64 (loadI s n))) := by
  have HOKC := Lib.hid (fun (u : World) (e : Ext w u) => sStateOk_c s v u (h.ext e) hlen)
  have HSR := Lib.hid (fun (h : stateB s = true) => state_runs h)
  have HUS := Lib.hid (fun (u : World) (e : Ext w u) (a : stateB s = true) (b : 0 ≤ n ∧ n < s.Topo.Nodes.length) => sUse_c s v n u (h.ext e) hlen a b)
  have HNT := Lib.hid (fun (u : World) (e : Ext w u) (b : 0 ≤ n ∧ n < s.Topo.Nodes.length) => l06Node_c s v n u (h.ext e) b hlen.2.1)
  have HNF := Lib.hid (fun (u : World) (e : Ext w u) (b : n < 0 ∨ (s.Topo.Nodes.length : Int) ≤ n) => l06Node_f s v n u (h.ext e) b hlen.2.1)
  have HUO := Lib.hid (useGo_ok (n := n) s.Runs ⟨0, 0, 0⟩ rfl)
  have HUV := Lib.hid (show useV s n = useGo n s.Runs ⟨0, 0, 0⟩ from rfl)
  rw [← HUV.out] at HUO
  have HLD := Lib.hid (show loadI s n = if stateB s = true then (if 0 ≤ n ∧ n < s.Topo.Nodes.length then (if capA s n = 0 then -1 else ((useV s n).A * 100).tdiv (capA s n)) else -1) else -1 from rfl)
  have HCP := Lib.hid (show capA s n = match s.Topo.Nodes[n.toNat]? with | some x => x.Cap.A | none => 0 from rfl)
  have HTB := Lib.hid (fun (h : stateB s = true) => show ∀ x ∈ s.Topo.Nodes, vecB x.Cap = true from fun x hx => by have := (topo_parts (HSR.out h).2.2).2.2.2.2.1 x hx; unfold nodeB at this; simp only [Bool.and_eq_true] at this; exact this.2.2)
  generalize loadI s n = R at *
  generalize useV s n = U at *
  generalize capA s n = C at *
  generalize stateB s = ok at *
  clear HSR HUV
  obtain ⟨⟨ps, ns⟩, up, lic, dep, now, qs, rs, es⟩ := s
  obtain ⟨A1, c1, A2, c2, A3, c3, A6, c6, A7, c7, A8, c8, rfl, h1, h2, h3, h6, h7, h8⟩ := h
  obtain ⟨hl1, hl2, hl3, hl6, hl7, hl8⟩ := hlen
  simp only [] at hl1 hl2 hl3 hl6 hl7 hl8 HOKC HUS HLD HCP HTB ⊢
  simp only [] at HNT HNF
  have HNS := Lib.hid (fun (u : World) (e : Ext w u) => h2.ext (Flat.mono Node.enc Node.ok) e)
  clear h1 h2 h3 h6 h7 h8
  go_enter Tryz.func18, Tryz.ntmps18
  go_wp2_with fail
  refine (HOKC.out _ ((Ext.refl w).alloc _)).mono ?_
  rintro e w1 ⟨rfl, hb1⟩
  have hx1 : Ext w w1 := ((Ext.refl w).alloc _).trans hb1
  have HX1 := Lib.hid (show Ext (w.alloc (.cells #[.slice A1 ps.length c1, .slice A2 ns.length c2, .slice A3 up.length c3, .int .i64 lic.A, .int .i64 lic.B, .int .i64 lic.C, .int .i64 dep, .int .i64 now, .slice A6 qs.length c6, .slice A7 rs.length c7, .slice A8 es.length c8] 44)) w1 from hb1)
  rcases ok with _ | _
  · go_wp2
    exact ret_int rfl rfl rfl (by rw [HLD.out]; rfl) hx1
  have s0 := HX1.out.cell (cell_box_at w w.heap.size rfl [.slice A1 ps.length c1, .slice A2 ns.length c2, .slice A3 up.length c3, .int .i64 lic.A, .int .i64 lic.B, .int .i64 lic.C, .int .i64 dep, .int .i64 now, .slice A6 qs.length c6, .slice A7 rs.length c7, .slice A8 es.length c8] 44 0 _ rfl)
  have s1 := HX1.out.cell (cell_box_at w w.heap.size rfl [.slice A1 ps.length c1, .slice A2 ns.length c2, .slice A3 up.length c3, .int .i64 lic.A, .int .i64 lic.B, .int .i64 lic.C, .int .i64 dep, .int .i64 now, .slice A6 qs.length c6, .slice A7 rs.length c7, .slice A8 es.length c8] 44 1 _ rfl)
  have s2 := HX1.out.cell (cell_box_at w w.heap.size rfl [.slice A1 ps.length c1, .slice A2 ns.length c2, .slice A3 up.length c3, .int .i64 lic.A, .int .i64 lic.B, .int .i64 lic.C, .int .i64 dep, .int .i64 now, .slice A6 qs.length c6, .slice A7 rs.length c7, .slice A8 es.length c8] 44 2 _ rfl)
  have s3 := HX1.out.cell (cell_box_at w w.heap.size rfl [.slice A1 ps.length c1, .slice A2 ns.length c2, .slice A3 up.length c3, .int .i64 lic.A, .int .i64 lic.B, .int .i64 lic.C, .int .i64 dep, .int .i64 now, .slice A6 qs.length c6, .slice A7 rs.length c7, .slice A8 es.length c8] 44 3 _ rfl)
  have s4 := HX1.out.cell (cell_box_at w w.heap.size rfl [.slice A1 ps.length c1, .slice A2 ns.length c2, .slice A3 up.length c3, .int .i64 lic.A, .int .i64 lic.B, .int .i64 lic.C, .int .i64 dep, .int .i64 now, .slice A6 qs.length c6, .slice A7 rs.length c7, .slice A8 es.length c8] 44 4 _ rfl)
  have s5 := HX1.out.cell (cell_box_at w w.heap.size rfl [.slice A1 ps.length c1, .slice A2 ns.length c2, .slice A3 up.length c3, .int .i64 lic.A, .int .i64 lic.B, .int .i64 lic.C, .int .i64 dep, .int .i64 now, .slice A6 qs.length c6, .slice A7 rs.length c7, .slice A8 es.length c8] 44 5 _ rfl)
  have s6 := HX1.out.cell (cell_box_at w w.heap.size rfl [.slice A1 ps.length c1, .slice A2 ns.length c2, .slice A3 up.length c3, .int .i64 lic.A, .int .i64 lic.B, .int .i64 lic.C, .int .i64 dep, .int .i64 now, .slice A6 qs.length c6, .slice A7 rs.length c7, .slice A8 es.length c8] 44 6 _ rfl)
  have s7 := HX1.out.cell (cell_box_at w w.heap.size rfl [.slice A1 ps.length c1, .slice A2 ns.length c2, .slice A3 up.length c3, .int .i64 lic.A, .int .i64 lic.B, .int .i64 lic.C, .int .i64 dep, .int .i64 now, .slice A6 qs.length c6, .slice A7 rs.length c7, .slice A8 es.length c8] 44 7 _ rfl)
  have s8 := HX1.out.cell (cell_box_at w w.heap.size rfl [.slice A1 ps.length c1, .slice A2 ns.length c2, .slice A3 up.length c3, .int .i64 lic.A, .int .i64 lic.B, .int .i64 lic.C, .int .i64 dep, .int .i64 now, .slice A6 qs.length c6, .slice A7 rs.length c7, .slice A8 es.length c8] 44 8 _ rfl)
  have s9 := HX1.out.cell (cell_box_at w w.heap.size rfl [.slice A1 ps.length c1, .slice A2 ns.length c2, .slice A3 up.length c3, .int .i64 lic.A, .int .i64 lic.B, .int .i64 lic.C, .int .i64 dep, .int .i64 now, .slice A6 qs.length c6, .slice A7 rs.length c7, .slice A8 es.length c8] 44 9 _ rfl)
  have s10 := HX1.out.cell (cell_box_at w w.heap.size rfl [.slice A1 ps.length c1, .slice A2 ns.length c2, .slice A3 up.length c3, .int .i64 lic.A, .int .i64 lic.B, .int .i64 lic.C, .int .i64 dep, .int .i64 now, .slice A6 qs.length c6, .slice A7 rs.length c7, .slice A8 es.length c8] 44 10 _ rfl)
  have hs1 := lt_of_cell s1
  clear hb1
  by_cases hn : 0 ≤ n ∧ n < (ns.length : Int)
  rotate_left
  · have HN := Lib.hid (show R = -1 by rw [HLD.out, if_pos rfl, if_neg hn])
    go_wp2_with fail
    refine (HNF.out _ hx1 (by omega)).mono ?_
    rintro e w2 ⟨rfl, hb2⟩
    go_wp2
    exact ret_int rfl rfl rfl (by rw [HN.out]) (hx1.trans hb2)
  · have HLE := Lib.hid (show R = if C = 0 then -1 else (U.A * 100).tdiv C by rw [HLD.out, if_pos rfl, if_pos hn])
    go_wp2_with fail
    refine (HNT.out _ hx1 hn).mono ?_
    rintro e w2 ⟨rfl, hb2⟩
    obtain ⟨i, rfl⟩ := Int.eq_ofNat_of_zero_le hn.1
    have hin : i < ns.length := by omega
    have hx2 : Ext w w2 := (hx1.trans hb2)
    clear s0 s1 s2 s3 s4 s5 s6 s7 s8 s9 s10 hs1
    have HX2 := Lib.hid (HX1.out.trans hb2)
    have s0 := HX2.out.cell (cell_box_at w w.heap.size rfl [.slice A1 ps.length c1, .slice A2 ns.length c2, .slice A3 up.length c3, .int .i64 lic.A, .int .i64 lic.B, .int .i64 lic.C, .int .i64 dep, .int .i64 now, .slice A6 qs.length c6, .slice A7 rs.length c7, .slice A8 es.length c8] 44 0 _ rfl)
    have s1 := HX2.out.cell (cell_box_at w w.heap.size rfl [.slice A1 ps.length c1, .slice A2 ns.length c2, .slice A3 up.length c3, .int .i64 lic.A, .int .i64 lic.B, .int .i64 lic.C, .int .i64 dep, .int .i64 now, .slice A6 qs.length c6, .slice A7 rs.length c7, .slice A8 es.length c8] 44 1 _ rfl)
    have s2 := HX2.out.cell (cell_box_at w w.heap.size rfl [.slice A1 ps.length c1, .slice A2 ns.length c2, .slice A3 up.length c3, .int .i64 lic.A, .int .i64 lic.B, .int .i64 lic.C, .int .i64 dep, .int .i64 now, .slice A6 qs.length c6, .slice A7 rs.length c7, .slice A8 es.length c8] 44 2 _ rfl)
    have s3 := HX2.out.cell (cell_box_at w w.heap.size rfl [.slice A1 ps.length c1, .slice A2 ns.length c2, .slice A3 up.length c3, .int .i64 lic.A, .int .i64 lic.B, .int .i64 lic.C, .int .i64 dep, .int .i64 now, .slice A6 qs.length c6, .slice A7 rs.length c7, .slice A8 es.length c8] 44 3 _ rfl)
    have s4 := HX2.out.cell (cell_box_at w w.heap.size rfl [.slice A1 ps.length c1, .slice A2 ns.length c2, .slice A3 up.length c3, .int .i64 lic.A, .int .i64 lic.B, .int .i64 lic.C, .int .i64 dep, .int .i64 now, .slice A6 qs.length c6, .slice A7 rs.length c7, .slice A8 es.length c8] 44 4 _ rfl)
    have s5 := HX2.out.cell (cell_box_at w w.heap.size rfl [.slice A1 ps.length c1, .slice A2 ns.length c2, .slice A3 up.length c3, .int .i64 lic.A, .int .i64 lic.B, .int .i64 lic.C, .int .i64 dep, .int .i64 now, .slice A6 qs.length c6, .slice A7 rs.length c7, .slice A8 es.length c8] 44 5 _ rfl)
    have s6 := HX2.out.cell (cell_box_at w w.heap.size rfl [.slice A1 ps.length c1, .slice A2 ns.length c2, .slice A3 up.length c3, .int .i64 lic.A, .int .i64 lic.B, .int .i64 lic.C, .int .i64 dep, .int .i64 now, .slice A6 qs.length c6, .slice A7 rs.length c7, .slice A8 es.length c8] 44 6 _ rfl)
    have s7 := HX2.out.cell (cell_box_at w w.heap.size rfl [.slice A1 ps.length c1, .slice A2 ns.length c2, .slice A3 up.length c3, .int .i64 lic.A, .int .i64 lic.B, .int .i64 lic.C, .int .i64 dep, .int .i64 now, .slice A6 qs.length c6, .slice A7 rs.length c7, .slice A8 es.length c8] 44 7 _ rfl)
    have s8 := HX2.out.cell (cell_box_at w w.heap.size rfl [.slice A1 ps.length c1, .slice A2 ns.length c2, .slice A3 up.length c3, .int .i64 lic.A, .int .i64 lic.B, .int .i64 lic.C, .int .i64 dep, .int .i64 now, .slice A6 qs.length c6, .slice A7 rs.length c7, .slice A8 es.length c8] 44 8 _ rfl)
    have s9 := HX2.out.cell (cell_box_at w w.heap.size rfl [.slice A1 ps.length c1, .slice A2 ns.length c2, .slice A3 up.length c3, .int .i64 lic.A, .int .i64 lic.B, .int .i64 lic.C, .int .i64 dep, .int .i64 now, .slice A6 qs.length c6, .slice A7 rs.length c7, .slice A8 es.length c8] 44 9 _ rfl)
    have s10 := HX2.out.cell (cell_box_at w w.heap.size rfl [.slice A1 ps.length c1, .slice A2 ns.length c2, .slice A3 up.length c3, .int .i64 lic.A, .int .i64 lic.B, .int .i64 lic.C, .int .i64 dep, .int .i64 now, .slice A6 qs.length c6, .slice A7 rs.length c7, .slice A8 es.length c8] 44 10 _ rfl)
    have hs1 := lt_of_cell s1
    clear hb2
    obtain ⟨b, o, x, cs, hA2, hbw, hx, _, hc, rfl, _⟩ := (HNS.out _ hx2).at_ hin
    subst hA2
    have y0 := hc 0 _ rfl
    have y1 := hc 1 _ rfl
    have y2 := hc 2 _ rfl
    have y3 := hc 3 _ rfl
    simp only [Nat.add_zero] at y0
    have HCX := Lib.hid (show C = x.Cap.A by rw [HCP.out, show ((i : Int)).toNat = i by omega, hx])
    have HCV := Lib.hid (vecB_iffT.1 (HTB.out (by trivial) x (List.mem_of_getElem? hx)))
    have HUB := Lib.hid (vecB_iffT.1 HUO.out)
    clear hx hc
    obtain ⟨⟨u1, u2⟩, _, _⟩ := HUB.out
    obtain ⟨⟨k1, k2⟩, _, _⟩ := HCV.out
    have HCX2 := HCX.out
    by_cases hc0 : x.Cap.A = 0
    · have HN := Lib.hid (show R = -1 by rw [HLE.out, HCX.out, if_pos hc0])
      have hd0 : decide (x.Cap.A = 0) = true := decide_eq_true hc0
      clear HCX2
      go_wp2
      exact ret_int rfl rfl rfl (by rw [HN.out]) hx2
    · have HN := Lib.hid (show R = (U.A * 100).tdiv x.Cap.A by rw [HLE.out, HCX.out, if_neg hc0])
      have hd0 : decide (x.Cap.A = 0) = false := decide_eq_false hc0
      have hd1 : (x.Cap.A == 0) = false := by rw [beq_eq_false_iff_ne]; exact hc0
      clear HCX2
      have HUC := Lib.hid (fun (u : World) (e : Ext w2 u) => HUS.out u (hx2.trans e) (by trivial) ⟨by omega, by omega⟩)
      have hcx := @Later.cell w2
      have hq0 : 0 ≤ U.A * 100 ∧ U.A * 100 ≤ 100000000 := ⟨by omega, by omega⟩
      have hwm : IntKind.i64.wrap (100 * U.A) = U.A * 100 := by rw [show 100 * U.A = U.A * 100 by omega]; exact IntWalk.i64_in _ ⟨by omega, by omega⟩
      have HDV := Lib.hid (show 0 ≤ (U.A * 100).tdiv x.Cap.A ∧ (U.A * 100).tdiv x.Cap.A ≤ 100000000 from by
        rw [div_eq hq0.1 k1]
        exact ⟨Int.ediv_nonneg hq0.1 k1, Int.le_trans (Int.ediv_le_self _ hq0.1) hq0.2⟩)
      have hwd : IntKind.i64.wrap ((U.A * 100).tdiv x.Cap.A) = (U.A * 100).tdiv x.Cap.A := by
        obtain ⟨h1, h2⟩ := HDV.out
        exact IntWalk.i64_in _ ⟨by omega, by omega⟩
      go_wp2
      refine wp_region_ext (by kernel_rfl) (by kernel_rfl) ?_
      repeat (go_big_quiet_step ((go_at_call 47; with_reducible exact Calls.quiet_ext (HUC.out _ (Later.ext _)))))
      refine wpQuiet_nil ?_
      intro w7 hb7
      clear hcx s0 s1 s2 s3 s4 s5 s6 s7 s8 s9 s10 y0 y1 y2 y3
      go_wp2
      exact ret_int rfl rfl rfl (by rw [HN.out]) (hx2.trans hb7)
end Go.Proofs.YtfcffcgdbmkfgaaGreat
