/- Contracts: what one name holds. -/
import Derived.Test.YtbfambeoboiifaaHold
import Derived.Test.YtbfambeoboiifaaTimes
import Derived.RegionTactic
import Derived.ChangeAlike
namespace Go.Proofs.Ytbfambeoboiifaa
open Go.RowKit
set_option linter.unusedVariables false
def heldStep (name : ByteArray) (acc : Option (Int × Int × Vec)) (h : Hold) : Option (Int × Int × Vec) := match acc with
  | none => none
  | some (j, n, s) => if (h.Name.toList == name.toList) = true then (if (timesOkB h.Job.Need h.Job.Nodes && addOkB s (timesV h.Job.Need h.Job.Nodes)) = true then some (j + 1, n + h.Job.Nodes, addV s (timesV h.Job.Need h.Job.Nodes)) else none) else some (j, n, s)
def heldL (l : List Hold) (name : ByteArray) : Option (Int × Int × Vec) := if holdsB l = true then l.foldl (heldStep name) (some (0, 0, Vec.zero)) else none
def heldJ (l : List Hold) (name : ByteArray) : Int := match heldL l name with | some (j, _, _) => j | none => 0
def heldN (l : List Hold) (name : ByteArray) : Int := match heldL l name with | some (_, n, _) => n | none => 0
def heldV (l : List Hold) (name : ByteArray) : Vec := match heldL l name with | some (_, _, s) => s | none => Vec.zero
def heldB (l : List Hold) (name : ByteArray) : Bool := (heldL l name).isSome
theorem held_none {l : List Hold} {name : ByteArray} (h : heldL l name = none) : heldJ l name = 0 ∧ heldN l name = 0 ∧ heldV l name = Vec.zero ∧ heldB l name = false := by
  unfold heldJ heldN heldV heldB; rw [h]; exact ⟨rfl, rfl, rfl, rfl⟩
theorem held_some {l : List Hold} {name : ByteArray} {j n : Int} {s : Vec} (h : heldL l name = some (j, n, s)) : heldJ l name = j ∧ heldN l name = n ∧ heldV l name = s ∧ heldB l name = true := by
  unfold heldJ heldN heldV heldB; rw [h]; exact ⟨rfl, rfl, rfl, rfl⟩
theorem fold_none (name : ByteArray) (l : List Hold) : l.foldl (heldStep name) none = none := by
  induction l with
  | nil => rfl
  | cons a r ih => exact ih
theorem holdsGo_all : ∀ (l pre : List Hold), holdsGo pre l = true → ∀ h ∈ l, holdOkB h = true := by
  intro l
  induction l with
  | nil => intro _ _ h hh; cases hh
  | cons a r ih =>
    intro pre h x hx
    rw [holdsGo, Bool.and_eq_true, Bool.and_eq_true] at h
    rcases List.mem_cons.1 hx with rfl | hx
    · exact h.1.1
    · exact ih _ h.2 x hx
theorem holdsB_all {l : List Hold} (h : holdsB l = true) : (∀ x ∈ l, holdOkB x = true) ∧ l.length ≤ 60 := by
  unfold holdsB at h; rw [Bool.and_eq_true, decide_eq_true_iff] at h
  exact ⟨holdsGo_all l [] h.1, h.2⟩
theorem holdOk_nodes {h : Hold} (hh : holdOkB h = true) : 1 ≤ h.Job.Nodes ∧ h.Job.Nodes ≤ 24 := by
  unfold holdOkB at hh; rw [Bool.and_eq_true, jobB_iff] at hh; omega
theorem timesV_ok (v : Vec) (n : Int) : vecB (timesV v n) = true := by
  unfold timesV; split
  · rename_i h; unfold timesOkB at h; rw [Bool.and_eq_true] at h; exact h.2
  · rfl
theorem addV_ok (a b : Vec) : vecB (addV a b) = true := by
  unfold addV; split
  · rename_i h; unfold addOkB at h; rw [Bool.and_eq_true] at h; exact h.2
  · rfl
theorem fold_rest {name : ByteArray} {l : List Hold} {k : Nat} (hB : holdsB l = true) : heldL l name = (l.drop k).foldl (heldStep name) ((l.take k).foldl (heldStep name) (some (0, 0, Vec.zero))) := by
  rw [heldL, if_pos hB, ← List.foldl_append, List.take_append_drop]
def validB (a b v : Vec) : Bool := vecB a && vecB b && vecB v
def validV (a b v : Vec) : Vec := if validB a b v = true then v else Vec.zero
set_option maxHeartbeats 2000000 in
theorem valid_c (a b v : Vec) (w : World) : Calls Try.prog 94 #[.agg #[.int .i64 a.A, .int .i64 a.B, .int .i64 a.C], .agg #[.int .i64 b.A, .int .i64 b.B, .int .i64 b.C], .agg #[.int .i64 v.A, .int .i64 v.B, .int .i64 v.C]] w (Ret w (.tuple #[.agg #[.int .i64 (validV a b v).A, .int .i64 (validV a b v).B, .int .i64 (validV a b v).C], .bool (validB a b v)])) := by
  rcases (Bool.eq_false_or_eq_true (vecB a)).symm with h1 | h1
  · have e : validB a b v = false := by unfold validB; rw [h1]; rfl
    rw [validV, e]
    simp only [Vec.zero, Bool.false_eq_true, if_false]
    go_enter Try.func94, Try.ntmps94
    go_wp2_with fail
    refine (VecOk_c a _).mono ?_
    rintro e w1 ⟨rfl, hb1⟩
    obtain ⟨hcr1, hfr1, hz1⟩ := hb1.rules
    (try simp at hz1)
    have hy1_w0 : w.heap.size < w1.heap.size := (by omega)
    have hy1_w1 : w.heap.size + 1 < w1.heap.size := (by omega)
    have hy1_w2 : w.heap.size + 1 + 1 < w1.heap.size := (by omega)
    have hy1_w3 : w.heap.size + 1 + 1 + 1 < w1.heap.size := (by omega)
    go_wp2
    exact ret_is (by simp [results, Try.results94, go_sem, *]) rfl (by repeat (first | exact Ext.refl _ | assumption | apply Ext.alloc | apply Ext.drewN | apply Ext.drew | (refine Ext.setCell ?_ (by first | (simp; done) | (simp; omega) | omega) _) | (refine Ext.trans ?_ (by assumption))))
  rcases (Bool.eq_false_or_eq_true (vecB b)).symm with h2 | h2
  · have e : validB a b v = false := by unfold validB; rw [h1, h2]; rfl
    rw [validV, e]
    simp only [Vec.zero, Bool.false_eq_true, if_false]
    go_enter Try.func94, Try.ntmps94
    go_wp2_with fail
    refine (VecOk_c a _).mono ?_
    rintro e w1 ⟨rfl, hb1⟩
    obtain ⟨hcr1, hfr1, hz1⟩ := hb1.rules
    (try simp at hz1)
    have hy1_w0 : w.heap.size < w1.heap.size := (by omega)
    have hy1_w1 : w.heap.size + 1 < w1.heap.size := (by omega)
    have hy1_w2 : w.heap.size + 1 + 1 < w1.heap.size := (by omega)
    have hy1_w3 : w.heap.size + 1 + 1 + 1 < w1.heap.size := (by omega)
    go_wp2_with fail
    refine (VecOk_c b _).mono ?_
    rintro e w2 ⟨rfl, hb2⟩
    obtain ⟨hcr2, hfr2, hz2⟩ := hb2.rules
    (try simp at hz2)
    have hy2_w0 : w.heap.size < w2.heap.size := (by omega)
    have hy2_w1 : w.heap.size + 1 < w2.heap.size := (by omega)
    have hy2_w2 : w.heap.size + 1 + 1 < w2.heap.size := (by omega)
    have hy2_w3 : w.heap.size + 1 + 1 + 1 < w2.heap.size := (by omega)
    go_wp2
    exact ret_is (by simp [results, Try.results94, go_sem, *]) rfl (by repeat (first | exact Ext.refl _ | assumption | apply Ext.alloc | apply Ext.drewN | apply Ext.drew | (refine Ext.setCell ?_ (by first | (simp; done) | (simp; omega) | omega) _) | (refine Ext.trans ?_ (by assumption))))
  rcases (Bool.eq_false_or_eq_true (vecB v)).symm with h3 | h3
  · have e : validB a b v = false := by unfold validB; rw [h1, h2, h3]; rfl
    rw [validV, e]
    simp only [Vec.zero, Bool.false_eq_true, if_false]
    go_enter Try.func94, Try.ntmps94
    go_wp2_with fail
    refine (VecOk_c a _).mono ?_
    rintro e w1 ⟨rfl, hb1⟩
    obtain ⟨hcr1, hfr1, hz1⟩ := hb1.rules
    (try simp at hz1)
    have hy1_w0 : w.heap.size < w1.heap.size := (by omega)
    have hy1_w1 : w.heap.size + 1 < w1.heap.size := (by omega)
    have hy1_w2 : w.heap.size + 1 + 1 < w1.heap.size := (by omega)
    have hy1_w3 : w.heap.size + 1 + 1 + 1 < w1.heap.size := (by omega)
    go_wp2_with fail
    refine (VecOk_c b _).mono ?_
    rintro e w2 ⟨rfl, hb2⟩
    obtain ⟨hcr2, hfr2, hz2⟩ := hb2.rules
    (try simp at hz2)
    have hy2_w0 : w.heap.size < w2.heap.size := (by omega)
    have hy2_w1 : w.heap.size + 1 < w2.heap.size := (by omega)
    have hy2_w2 : w.heap.size + 1 + 1 < w2.heap.size := (by omega)
    have hy2_w3 : w.heap.size + 1 + 1 + 1 < w2.heap.size := (by omega)
    go_wp2_with fail
    refine (VecOk_c v _).mono ?_
    rintro e w3 ⟨rfl, hb3⟩
    obtain ⟨hcr3, hfr3, hz3⟩ := hb3.rules
    (try simp at hz3)
    have hy3_w0 : w.heap.size < w3.heap.size := (by omega)
    have hy3_w1 : w.heap.size + 1 < w3.heap.size := (by omega)
    have hy3_w2 : w.heap.size + 1 + 1 < w3.heap.size := (by omega)
    have hy3_w3 : w.heap.size + 1 + 1 + 1 < w3.heap.size := (by omega)
    go_wp2
    exact ret_is (by simp [results, Try.results94, go_sem, *]) rfl (by repeat (first | exact Ext.refl _ | assumption | apply Ext.alloc | apply Ext.drewN | apply Ext.drew | (refine Ext.setCell ?_ (by first | (simp; done) | (simp; omega) | omega) _) | (refine Ext.trans ?_ (by assumption))))
  · have e : validB a b v = true := by unfold validB; rw [h1, h2, h3]; rfl
    rw [validV, e, if_pos rfl]
    go_enter Try.func94, Try.ntmps94
    go_wp2_with fail
    refine (VecOk_c a _).mono ?_
    rintro e w1 ⟨rfl, hb1⟩
    obtain ⟨hcr1, hfr1, hz1⟩ := hb1.rules
    (try simp at hz1)
    have hy1_w0 : w.heap.size < w1.heap.size := (by omega)
    have hy1_w1 : w.heap.size + 1 < w1.heap.size := (by omega)
    have hy1_w2 : w.heap.size + 1 + 1 < w1.heap.size := (by omega)
    have hy1_w3 : w.heap.size + 1 + 1 + 1 < w1.heap.size := (by omega)
    go_wp2_with fail
    refine (VecOk_c b _).mono ?_
    rintro e w2 ⟨rfl, hb2⟩
    obtain ⟨hcr2, hfr2, hz2⟩ := hb2.rules
    (try simp at hz2)
    have hy2_w0 : w.heap.size < w2.heap.size := (by omega)
    have hy2_w1 : w.heap.size + 1 < w2.heap.size := (by omega)
    have hy2_w2 : w.heap.size + 1 + 1 < w2.heap.size := (by omega)
    have hy2_w3 : w.heap.size + 1 + 1 + 1 < w2.heap.size := (by omega)
    go_wp2_with fail
    refine (VecOk_c v _).mono ?_
    rintro e w3 ⟨rfl, hb3⟩
    obtain ⟨hcr3, hfr3, hz3⟩ := hb3.rules
    (try simp at hz3)
    have hy3_w0 : w.heap.size < w3.heap.size := (by omega)
    have hy3_w1 : w.heap.size + 1 < w3.heap.size := (by omega)
    have hy3_w2 : w.heap.size + 1 + 1 < w3.heap.size := (by omega)
    have hy3_w3 : w.heap.size + 1 + 1 + 1 < w3.heap.size := (by omega)
    go_wp2
    exact ret_is (by simp [results, Try.results94, go_sem, *]) rfl (by repeat (first | exact Ext.refl _ | assumption | apply Ext.alloc | apply Ext.drewN | apply Ext.drew | (refine Ext.setCell ?_ (by first | (simp; done) | (simp; omega) | omega) _) | (refine Ext.trans ?_ (by assumption))))
set_option maxHeartbeats 2000000 in
theorem VecAdd_c (a b : Vec) (w : World) (ha : vecB a = true) (hb : vecB b = true) : Calls Try.prog 63 #[.agg #[.int .i64 a.A, .int .i64 a.B, .int .i64 a.C], .agg #[.int .i64 b.A, .int .i64 b.B, .int .i64 b.C]] w (Ret w (.tuple #[.agg #[.int .i64 (addV a b).A, .int .i64 (addV a b).B, .int .i64 (addV a b).C], .bool (addOkB a b)])) := by
  obtain ⟨⟨a1, a2⟩, ⟨a3, a4⟩, ⟨a5, a6⟩⟩ := (vecB_iff' a).1 ha
  obtain ⟨⟨b1, b2⟩, ⟨b3, b4⟩, ⟨b5, b6⟩⟩ := (vecB_iff' b).1 hb
  have HC := Lib.hid (fun u : World => valid_c a b (a.add b) u)
  have e1 : validB a b (a.add b) = addOkB a b := rfl
  have e2 : validV a b (a.add b) = addV a b := rfl
  rw [e1, e2] at HC
  simp only [Vec.add] at HC
  clear e1 e2
  generalize addV a b = r at *
  generalize addOkB a b = rb at *
  go_enter Try.func63, Try.ntmps63
  go_wp2_with fail
  refine (HC.out _).mono ?_
  rintro e w1 ⟨rfl, hb1⟩
  obtain ⟨hcr1, hfr1, hz1⟩ := hb1.rules
  (try simp at hz1)
  have hy1 : w.heap.size < w1.heap.size := by omega
  have hy2 : w.heap.size + 1 < w1.heap.size := by omega
  have hy3 : w.heap.size + 1 + 1 < w1.heap.size := by omega
  go_wp2
  exact ret_is (by simp [results, Try.results63, go_sem, *]) rfl (by repeat (first | exact Ext.refl _ | assumption | apply Ext.alloc | apply Ext.drewN | apply Ext.drew | (refine Ext.setCell ?_ (by first | (simp; done) | (simp; omega) | omega) _) | (refine Ext.trans ?_ (by assumption))))
end Go.Proofs.Ytbfambeoboiifaa
