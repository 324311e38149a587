/- Contracts over multiples of vectors. -/
import Derived.Test.YtbfambeoboiifaaSmall
namespace Go.Proofs.Ytbfambeoboiifaa
open Go.RowKit
def Vec.zero : Vec := ⟨0, 0, 0⟩
def Vec.add (a b : Vec) : Vec := ⟨a.A + b.A, a.B + b.B, a.C + b.C⟩
def Vec.mul (v : Vec) (n : Int) : Vec := ⟨v.A * n, v.B * n, v.C * n⟩
theorem vecB_iff' (v : Vec) : vecB v = true ↔ (0 ≤ v.A ∧ v.A ≤ 1000000) ∧ (0 ≤ v.B ∧ v.B ≤ 1000000) ∧ (0 ≤ v.C ∧ v.C ≤ 1000000) := by unfold vecB; rw [decide_eq_true_iff]
def timesOkB (v : Vec) (n : Int) : Bool := vecB v && decide (0 ≤ n) && vecB (v.mul n)
def timesV (v : Vec) (n : Int) : Vec := if timesOkB v n = true then v.mul n else Vec.zero
abbrev Vec.val (v : Vec) : Value := .agg #[.int .i64 v.A, .int .i64 v.B, .int .i64 v.C]
theorem one_ok {a n : Int} (ha : 0 ≤ a) : (a * n ≤ 1000000) ↔ (0 < a → n ≤ 1000000 / a) := by
  constructor
  · intro h h0
    rw [Int.le_ediv_iff_mul_le h0, Int.mul_comm]; exact h
  · intro h
    rcases Int.lt_or_le 0 a with h0 | h0
    · have := h h0
      rw [Int.le_ediv_iff_mul_le h0, Int.mul_comm] at this; exact this
    · have : a = 0 := by omega
      subst this; simp
theorem timesOkB_iff (v : Vec) (n : Int) (hv : vecB v = true) (hn : 0 ≤ n) : timesOkB v n = true ↔ (0 < v.A → n ≤ 1000000 / v.A) ∧ (0 < v.B → n ≤ 1000000 / v.B) ∧ (0 < v.C → n ≤ 1000000 / v.C) := by
  have h := (vecB_iff' v).1 hv
  unfold timesOkB
  rw [hv, Bool.true_and, Bool.and_eq_true, vecB_iff', decide_eq_true_iff]
  rw [← one_ok h.1.1, ← one_ok h.2.1.1, ← one_ok h.2.2.1]
  have h1 := Int.mul_nonneg h.1.1 hn
  have h2 := Int.mul_nonneg h.2.1.1 hn
  have h3 := Int.mul_nonneg h.2.2.1 hn
  unfold Vec.mul
  constructor
  · intro hh; exact ⟨hh.2.1.2, hh.2.2.1.2, hh.2.2.2.2⟩
  · intro hh; exact ⟨hn, ⟨h1, hh.1⟩, ⟨h2, hh.2.1⟩, ⟨h3, hh.2.2⟩⟩
theorem timesV_no {v : Vec} {n : Int} (e : timesOkB v n = false) : timesV v n = Vec.zero := by rw [timesV, e]; rfl
theorem timesV_yes {v : Vec} {n : Int} (e : timesOkB v n = true) : timesV v n = v.mul n := by rw [timesV, e]; rfl
def nth3 (v : Vec) (k : Nat) : Int := if k = 0 then v.A else if k = 1 then v.B else v.C
theorem fits_iff (v : Vec) (n : Int) (hv : vecB v = true) (hn : 0 ≤ n) : timesOkB v n = true ↔ ∀ j, j < 3 → 0 < nth3 v j → n ≤ 1000000 / nth3 v j := by
  rw [timesOkB_iff v n hv hn]
  constructor
  · intro h j hj
    rcases (by omega : j = 0 ∨ j = 1 ∨ j = 2) with rfl | rfl | rfl
    · exact h.1
    · exact h.2.1
    · exact h.2.2
  · intro h; exact ⟨h 0 (by omega), h 1 (by omega), h 2 (by omega)⟩
set_option maxHeartbeats 1000000 in
theorem Times_c (v : Vec) (n : Int) (w : World) : Calls Try.prog 62 #[.agg #[.int .i64 v.A, .int .i64 v.B, .int .i64 v.C], .int .i64 n] w (Ret w (.tuple #[.agg #[.int .i64 (timesV v n).A, .int .i64 (timesV v n).B, .int .i64 (timesV v n).C], .bool (timesOkB v n)])) := by
  rcases Bool.eq_false_or_eq_true (vecB v) with hv | hv
  · by_cases hn : n < 0
    · have e : timesOkB v n = false := by unfold timesOkB; rw [show decide (0 ≤ n) = false by rw [decide_eq_false_iff_not]; omega]; simp
      rw [timesV_no e, e]
      simp only [Vec.zero]
      go_enter Try.func62, Try.ntmps62
      go_wp2_with (first | (go_at_call 51; (with_reducible refine (VecOk_c v _).mono ?_); rintro e w1 ⟨rfl, hb1⟩; obtain ⟨hcr1, hfr1, hz1⟩ := hb1.rules; (try simp at hz1); (try have hy1a := Nat.lt_of_succ_le hz1); (try have hy1b := Nat.lt_of_succ_lt hy1a); (try have hy1c := Nat.lt_of_succ_lt hy1b); (try have hy1d := Nat.lt_of_succ_lt hy1c)))
      exact ret_is (by simp [results, Try.results62, go_sem, *]) rfl (by repeat (first | exact Ext.refl _ | assumption | apply Ext.alloc | apply Ext.drewN | apply Ext.drew | (refine Ext.setCell ?_ (by first | (simp; done) | (simp; omega) | omega) _) | (refine Ext.trans ?_ (by assumption))))
    · obtain ⟨⟨a1, a2⟩, ⟨a3, a4⟩, ⟨a5, a6⟩⟩ := (vecB_iff' v).1 hv
      have hn' : 0 ≤ n := by omega
      have HF := Lib.hid (fits_iff v n hv hn')
      go_enter Try.func62, Try.ntmps62
      go_wp2_with (first | (go_at_call 51; (with_reducible refine (VecOk_c v _).mono ?_); rintro e w1 ⟨rfl, hb1⟩; obtain ⟨hcr1, hfr1, hz1⟩ := hb1.rules; (try simp at hz1); (try have hy1a := Nat.lt_of_succ_le hz1); (try have hy1b := Nat.lt_of_succ_lt hy1a); (try have hy1c := Nat.lt_of_succ_lt hy1b); (try have hy1d := Nat.lt_of_succ_lt hy1c)))
      go_loop [24] (fun i => ∃ k : Nat, k ≤ 3 ∧ i = .int .i64 k ∧ ∀ j, j < k → 0 < nth3 v j → n ≤ 1000000 / nth3 v j) (fun i => 3 - (intOf i).toNat)
      case atStart => exact ⟨0, by omega, rfl, fun j hj => by omega⟩
      case round =>
        obtain ⟨k, hk, rfl, hE⟩ := hrel
        have HE := Lib.hid hE; clear hE
        by_cases hlt : k < 3
        · have hcell : (w1.alloc (.cells #[.int .i64 v.A, .int .i64 v.B, .int .i64 v.C] 3)).cell? ⟨w1.heap.size, k, none⟩ = some (.int .i64 (nth3 v k)) := by
            rcases (by omega : k = 0 ∨ k = 1 ∨ k = 2) with rfl | rfl | rfl <;> simp [nth3]
          have hx0 : 0 ≤ nth3 v k := by
            rcases (by omega : k = 0 ∨ k = 1 ∨ k = 2) with rfl | rfl | rfl <;> simp [nth3] <;> omega
          generalize hx : nth3 v k = x at hcell hx0
          have HX := Lib.hid hx; clear hx
          by_cases hp : 0 < x
          · by_cases hq : n ≤ 1000000 / x
            · go_wp2
              go_round
              case rel =>
                refine ⟨k + 1, by omega, by go_num, fun j hj => ?_⟩
                rcases (by omega : j < k ∨ j = k) with h | rfl
                · exact HE.out j h
                · rw [HX.out]; exact fun _ => hq
              case measure => simp [intOf]; omega
            · have e : timesOkB v n = false := by
                rw [Bool.eq_false_iff]; intro h; exact hq (HX.out ▸ HF.out.1 h k hlt (by rw [HX.out]; exact hp))
              have E := Lib.hid e; clear e
              go_wp2
              rw [timesV_no E.out, E.out]
              simp only [Vec.zero]
              exact ret_is (by simp [results, Try.results62, go_sem, *]) rfl (by repeat (first | exact Ext.refl _ | assumption | apply Ext.alloc | apply Ext.drewN | apply Ext.drew | (refine Ext.setCell ?_ (by first | (simp; done) | (simp; omega) | omega) _) | (refine Ext.trans ?_ (by assumption))))
          · go_wp2
            go_round
            case rel =>
              refine ⟨k + 1, by omega, by go_num, fun j hj => ?_⟩
              rcases (by omega : j < k ∨ j = k) with h | rfl
              · exact HE.out j h
              · rw [HX.out]; intro h; omega
            case measure => simp [intOf]; omega
        · have e : timesOkB v n = true := HF.out.2 fun j hj => HE.out j (by omega)
          have hm := e
          unfold timesOkB at hm
          rw [Bool.and_eq_true, vecB_iff'] at hm
          obtain ⟨_, ⟨m1, m2⟩, ⟨m3, m4⟩, ⟨m5, m6⟩⟩ := hm
          simp only [Vec.mul] at m1 m2 m3 m4 m5 m6
          have q1 : wrap64 (v.A * n) = v.A * n := IntWalk.wrap64_in _ ⟨by omega, by omega⟩
          have q2 : wrap64 (v.B * n) = v.B * n := IntWalk.wrap64_in _ ⟨by omega, by omega⟩
          have q3 : wrap64 (v.C * n) = v.C * n := IntWalk.wrap64_in _ ⟨by omega, by omega⟩
          have E := Lib.hid e; clear e
          go_wp2
          rw [timesV_yes E.out, E.out]
          simp only [Vec.mul]
          exact ret_is (by simp [results, Try.results62, go_sem, *]) rfl (by repeat (first | exact Ext.refl _ | assumption | apply Ext.alloc | apply Ext.drewN | apply Ext.drew | (refine Ext.setCell ?_ (by first | (simp; done) | (simp; omega) | omega) _) | (refine Ext.trans ?_ (by assumption))))
  · have e : timesOkB v n = false := by unfold timesOkB; rw [hv]; rfl
    rw [timesV_no e, e]
    simp only [Vec.zero]
    go_enter Try.func62, Try.ntmps62
    go_wp2_with (first | (go_at_call 51; (with_reducible refine (VecOk_c v _).mono ?_); rintro e w1 ⟨rfl, hb1⟩; obtain ⟨hcr1, hfr1, hz1⟩ := hb1.rules; (try simp at hz1); (try have hy1a := Nat.lt_of_succ_le hz1); (try have hy1b := Nat.lt_of_succ_lt hy1a); (try have hy1c := Nat.lt_of_succ_lt hy1b); (try have hy1d := Nat.lt_of_succ_lt hy1c)))
    exact ret_is (by simp [results, Try.results62, go_sem, *]) rfl (by repeat (first | exact Ext.refl _ | assumption | apply Ext.alloc | apply Ext.drewN | apply Ext.drew | (refine Ext.setCell ?_ (by first | (simp; done) | (simp; omega) | omega) _) | (refine Ext.trans ?_ (by assumption))))
def addOkB (a b : Vec) : Bool := vecB a && vecB b && vecB (a.add b)
def addV (a b : Vec) : Vec := if addOkB a b = true then a.add b else Vec.zero
theorem addV_no {a b : Vec} (e : addOkB a b = false) : addV a b = Vec.zero := by rw [addV, e]; rfl
theorem addV_yes {a b : Vec} (e : addOkB a b = true) : addV a b = a.add b := by rw [addV, e]; rfl
set_option maxHeartbeats 1000000 in
theorem sVecAdd_c (a b : Vec) (w : World) : Calls Try.prog 106 #[.agg #[.int .i64 a.A, .int .i64 a.B, .int .i64 a.C], .agg #[.int .i64 b.A, .int .i64 b.B, .int .i64 b.C]] w (Ret w (.tuple #[.agg #[.int .i64 (addV a b).A, .int .i64 (addV a b).B, .int .i64 (addV a b).C], .bool (addOkB a b)])) := by
  rcases Bool.eq_false_or_eq_true (vecB a) with ha | ha
  · rcases Bool.eq_false_or_eq_true (vecB b) with hb | hb
    · obtain ⟨⟨a1, a2⟩, ⟨a3, a4⟩, ⟨a5, a6⟩⟩ := (vecB_iff' a).1 ha
      obtain ⟨⟨b1, b2⟩, ⟨b3, b4⟩, ⟨b5, b6⟩⟩ := (vecB_iff' b).1 hb
      rcases Bool.eq_false_or_eq_true (vecB (a.add b)) with hc | hc
      · rw [addV_yes (by simp [addOkB, ha, hb, hc]), show addOkB a b = true by simp [addOkB, ha, hb, hc]]
        have hc' : vecB ⟨a.A + b.A, a.B + b.B, a.C + b.C⟩ = true := hc
        simp only [Vec.add]
        go_enter Try.func106, Try.ntmps106
        go_wp2_with (first | (go_at_call 103; (with_reducible refine (sVecOk_c a _).mono ?_); rintro e w1 ⟨rfl, hb1⟩; obtain ⟨hcr1, hfr1, hz1⟩ := hb1.rules; (try simp at hz1); have hy1_w0 : w.heap.size < w1.heap.size := (by omega); have hy1_w1 : w.heap.size + 1 < w1.heap.size := (by omega); have hy1_w2 : w.heap.size + 1 + 1 < w1.heap.size := (by omega)) | (go_at_call 103; (with_reducible refine (sVecOk_c b _).mono ?_); rintro e w2 ⟨rfl, hb2⟩; obtain ⟨hcr2, hfr2, hz2⟩ := hb2.rules; (try simp at hz2); have hy2_w0 : w.heap.size < w2.heap.size := (by omega); have hy2_w1 : w.heap.size + 1 < w2.heap.size := (by omega); have hy2_w2 : w.heap.size + 1 + 1 < w2.heap.size := (by omega)) | (go_at_call 103; (with_reducible refine (sVecOk_c ⟨a.A + b.A, a.B + b.B, a.C + b.C⟩ _).mono ?_); rintro e w3 ⟨rfl, hb3⟩; obtain ⟨hcr3, hfr3, hz3⟩ := hb3.rules; (try simp at hz3); have hy3_w0 : w.heap.size < w3.heap.size := (by omega); have hy3_w1 : w.heap.size + 1 < w3.heap.size := (by omega); have hy3_w2 : w.heap.size + 1 + 1 < w3.heap.size := (by omega)))
        exact ret_is (by simp [results, Try.results106, go_sem, *]) rfl (by repeat (first | exact Ext.refl _ | assumption | apply Ext.alloc | apply Ext.drewN | apply Ext.drew | (refine Ext.setCell ?_ (by first | (simp; done) | (simp; omega) | omega) _) | (refine Ext.trans ?_ (by assumption))))
      · have hc' : vecB ⟨a.A + b.A, a.B + b.B, a.C + b.C⟩ = false := hc
        rw [addV_no (by simp [addOkB, ha, hb, hc]), show addOkB a b = false by simp [addOkB, ha, hb, hc]]
        simp only [Vec.zero]
        go_enter Try.func106, Try.ntmps106
        go_wp2_with (first | (go_at_call 103; (with_reducible refine (sVecOk_c a _).mono ?_); rintro e w1 ⟨rfl, hb1⟩; obtain ⟨hcr1, hfr1, hz1⟩ := hb1.rules; (try simp at hz1); have hy1_w0 : w.heap.size < w1.heap.size := (by omega); have hy1_w1 : w.heap.size + 1 < w1.heap.size := (by omega); have hy1_w2 : w.heap.size + 1 + 1 < w1.heap.size := (by omega)) | (go_at_call 103; (with_reducible refine (sVecOk_c b _).mono ?_); rintro e w2 ⟨rfl, hb2⟩; obtain ⟨hcr2, hfr2, hz2⟩ := hb2.rules; (try simp at hz2); have hy2_w0 : w.heap.size < w2.heap.size := (by omega); have hy2_w1 : w.heap.size + 1 < w2.heap.size := (by omega); have hy2_w2 : w.heap.size + 1 + 1 < w2.heap.size := (by omega)) | (go_at_call 103; (with_reducible refine (sVecOk_c ⟨a.A + b.A, a.B + b.B, a.C + b.C⟩ _).mono ?_); rintro e w3 ⟨rfl, hb3⟩; obtain ⟨hcr3, hfr3, hz3⟩ := hb3.rules; (try simp at hz3); have hy3_w0 : w.heap.size < w3.heap.size := (by omega); have hy3_w1 : w.heap.size + 1 < w3.heap.size := (by omega); have hy3_w2 : w.heap.size + 1 + 1 < w3.heap.size := (by omega)))
        exact ret_is (by simp [results, Try.results106, go_sem, *]) rfl (by repeat (first | exact Ext.refl _ | assumption | apply Ext.alloc | apply Ext.drewN | apply Ext.drew | (refine Ext.setCell ?_ (by first | (simp; done) | (simp; omega) | omega) _) | (refine Ext.trans ?_ (by assumption))))
    · rw [addV_no (by simp [addOkB, ha, hb]), show addOkB a b = false by simp [addOkB, ha, hb]]
      simp only [Vec.zero]
      go_enter Try.func106, Try.ntmps106
      go_wp2_with (first | (go_at_call 103; (with_reducible refine (sVecOk_c a _).mono ?_); rintro e w1 ⟨rfl, hb1⟩; obtain ⟨hcr1, hfr1, hz1⟩ := hb1.rules; (try simp at hz1); have hy1_w0 : w.heap.size < w1.heap.size := (by omega); have hy1_w1 : w.heap.size + 1 < w1.heap.size := (by omega); have hy1_w2 : w.heap.size + 1 + 1 < w1.heap.size := (by omega)) | (go_at_call 103; (with_reducible refine (sVecOk_c b _).mono ?_); rintro e w2 ⟨rfl, hb2⟩; obtain ⟨hcr2, hfr2, hz2⟩ := hb2.rules; (try simp at hz2); have hy2_w0 : w.heap.size < w2.heap.size := (by omega); have hy2_w1 : w.heap.size + 1 < w2.heap.size := (by omega); have hy2_w2 : w.heap.size + 1 + 1 < w2.heap.size := (by omega)) | (go_at_call 103; (with_reducible refine (sVecOk_c ⟨a.A + b.A, a.B + b.B, a.C + b.C⟩ _).mono ?_); rintro e w3 ⟨rfl, hb3⟩; obtain ⟨hcr3, hfr3, hz3⟩ := hb3.rules; (try simp at hz3); have hy3_w0 : w.heap.size < w3.heap.size := (by omega); have hy3_w1 : w.heap.size + 1 < w3.heap.size := (by omega); have hy3_w2 : w.heap.size + 1 + 1 < w3.heap.size := (by omega)))
      exact ret_is (by simp [results, Try.results106, go_sem, *]) rfl (by repeat (first | exact Ext.refl _ | assumption | apply Ext.alloc | apply Ext.drewN | apply Ext.drew | (refine Ext.setCell ?_ (by first | (simp; done) | (simp; omega) | omega) _) | (refine Ext.trans ?_ (by assumption))))
  · rw [addV_no (by simp [addOkB, ha]), show addOkB a b = false by simp [addOkB, ha]]
    simp only [Vec.zero]
    go_enter Try.func106, Try.ntmps106
    go_wp2_with (first | (go_at_call 103; (with_reducible refine (sVecOk_c a _).mono ?_); rintro e w1 ⟨rfl, hb1⟩; obtain ⟨hcr1, hfr1, hz1⟩ := hb1.rules; (try simp at hz1); have hy1_w0 : w.heap.size < w1.heap.size := (by omega); have hy1_w1 : w.heap.size + 1 < w1.heap.size := (by omega); have hy1_w2 : w.heap.size + 1 + 1 < w1.heap.size := (by omega)) | (go_at_call 103; (with_reducible refine (sVecOk_c b _).mono ?_); rintro e w2 ⟨rfl, hb2⟩; obtain ⟨hcr2, hfr2, hz2⟩ := hb2.rules; (try simp at hz2); have hy2_w0 : w.heap.size < w2.heap.size := (by omega); have hy2_w1 : w.heap.size + 1 < w2.heap.size := (by omega); have hy2_w2 : w.heap.size + 1 + 1 < w2.heap.size := (by omega)) | (go_at_call 103; (with_reducible refine (sVecOk_c ⟨a.A + b.A, a.B + b.B, a.C + b.C⟩ _).mono ?_); rintro e w3 ⟨rfl, hb3⟩; obtain ⟨hcr3, hfr3, hz3⟩ := hb3.rules; (try simp at hz3); have hy3_w0 : w.heap.size < w3.heap.size := (by omega); have hy3_w1 : w.heap.size + 1 < w3.heap.size := (by omega); have hy3_w2 : w.heap.size + 1 + 1 < w3.heap.size := (by omega)))
    exact ret_is (by simp [results, Try.results106, go_sem, *]) rfl (by repeat (first | exact Ext.refl _ | assumption | apply Ext.alloc | apply Ext.drewN | apply Ext.drew | (refine Ext.setCell ?_ (by first | (simp; done) | (simp; omega) | omega) _) | (refine Ext.trans ?_ (by assumption))))
theorem mul_zero' (v : Vec) : v.mul 0 = Vec.zero := by simp [Vec.mul, Vec.zero]
theorem mul_succ' (v : Vec) (k : Nat) : (v.mul k).add v = v.mul (k + 1 : Nat) := by
  simp only [Vec.mul, Vec.add, Vec.mk.injEq]
  refine ⟨?_, ?_, ?_⟩ <;> rw [Int.natCast_succ, Int.mul_add, Int.mul_one]
theorem vecB_mul_le {v : Vec} {a b : Int} (hv : vecB v = true) (h0 : 0 ≤ a) (h1 : a ≤ b) (h : vecB (v.mul b) = true) : vecB (v.mul a) = true := by
  rw [vecB_iff'] at *
  obtain ⟨⟨a1, a2⟩, ⟨a3, a4⟩, ⟨a5, a6⟩⟩ := hv
  simp only [Vec.mul] at *
  obtain ⟨⟨b1, b2⟩, ⟨b3, b4⟩, ⟨b5, b6⟩⟩ := h
  exact ⟨⟨Int.mul_nonneg a1 h0, Int.le_trans (Int.mul_le_mul_of_nonneg_left h1 a1) b2⟩, ⟨Int.mul_nonneg a3 h0, Int.le_trans (Int.mul_le_mul_of_nonneg_left h1 a3) b4⟩, ⟨Int.mul_nonneg a5 h0, Int.le_trans (Int.mul_le_mul_of_nonneg_left h1 a5) b6⟩⟩
set_option maxHeartbeats 2000000 in
theorem sTimes_c (v : Vec) (n : Int) (w : World) (h64 : In64 n) : Calls Try.prog 105 #[.agg #[.int .i64 v.A, .int .i64 v.B, .int .i64 v.C], .int .i64 n] w (Ret w (.tuple #[.agg #[.int .i64 (timesV v n).A, .int .i64 (timesV v n).B, .int .i64 (timesV v n).C], .bool (timesOkB v n)])) := by
  rcases Bool.eq_false_or_eq_true (vecB v) with hv | hv
  · by_cases hn : n < 0
    · have e : timesOkB v n = false := by unfold timesOkB; rw [show decide (0 ≤ n) = false by rw [decide_eq_false_iff_not]; omega]; simp
      rw [timesV_no e, e]
      simp only [Vec.zero]
      go_enter Try.func105, Try.ntmps105
      go_wp2_with (first | (go_at_call 103; (with_reducible refine (sVecOk_c v _).mono ?_); rintro e w1 ⟨rfl, hb1⟩; obtain ⟨hcr1, hfr1, hz1⟩ := hb1.rules; (try simp at hz1); have hy1_w0 : w.heap.size < w1.heap.size := (by omega); have hy1_w1 : w.heap.size + 1 < w1.heap.size := (by omega)))
      exact ret_is (by simp [results, Try.results105, go_sem, *]) rfl (by repeat (first | exact Ext.refl _ | assumption | apply Ext.alloc | apply Ext.drewN | apply Ext.drew | (refine Ext.setCell ?_ (by first | (simp; done) | (simp; omega) | omega) _) | (refine Ext.trans ?_ (by assumption))))
    · have hn' : 0 ≤ n := by omega
      by_cases hz : v = Vec.zero
      · subst hz
        have e : timesOkB Vec.zero n = true := by unfold timesOkB; rw [decide_eq_true hn']; simp [vecB, Vec.mul, Vec.zero]
        rw [timesV_yes e, e]
        have ez : Vec.zero.mul n = Vec.zero := by simp [Vec.mul, Vec.zero]
        rw [ez]
        simp only [Vec.zero] at hv ⊢
        go_enter Try.func105, Try.ntmps105
        go_wp2_with (first | (go_at_call 103; (with_reducible refine (sVecOk_c ⟨0, 0, 0⟩ _).mono ?_); rintro e w1 ⟨rfl, hb1⟩; obtain ⟨hcr1, hfr1, hz1⟩ := hb1.rules; (try simp at hz1); have hy1_w0 : w.heap.size < w1.heap.size := (by omega); have hy1_w1 : w.heap.size + 1 < w1.heap.size := (by omega)))
        exact ret_is (by simp [results, Try.results105, go_sem, *]) rfl (by repeat (first | exact Ext.refl _ | assumption | apply Ext.alloc | apply Ext.drewN | apply Ext.drew | (refine Ext.setCell ?_ (by first | (simp; done) | (simp; omega) | omega) _) | (refine Ext.trans ?_ (by assumption))))
      · have hz' : (v.A == 0) = false ∨ ((v.A == 0) = true ∧ (v.B == 0) = false) ∨ ((v.A == 0) = true ∧ (v.B == 0) = true ∧ (v.C == 0) = false) := by
          by_cases hA : v.A = 0
          · by_cases hB : v.B = 0
            · by_cases hC : v.C = 0
              · exact absurd (show v = Vec.zero by cases v; simp_all [Vec.zero]) hz
              · simp [hA, hB, hC]
            · simp [hA, hB]
          · simp [hA]
        rcases hz' with h1 | ⟨h1, h2⟩ | ⟨h1, h2, h3⟩
        all_goals
          go_enter Try.func105, Try.ntmps105
          go_wp2_with (first | (go_at_call 103; (with_reducible refine (sVecOk_c v _).mono ?_); rintro e w1 ⟨rfl, hb1⟩; obtain ⟨hcr1, hfr1, hz1⟩ := hb1.rules; (try simp at hz1); have hy1_w0 : w.heap.size < w1.heap.size := (by omega); have hy1_w1 : w.heap.size + 1 < w1.heap.size := (by omega)))
          go_loopw [7] (fun i wr => ∃ k : Nat, (k : Int) ≤ n ∧ i = .int .i64 k ∧ vecB (v.mul k) = true ∧ wr.cell? ⟨w1.heap.size, 0, none⟩ = some (.int .i64 (v.mul k).A) ∧ wr.cell? ⟨w1.heap.size, 1, none⟩ = some (.int .i64 (v.mul k).B) ∧ wr.cell? ⟨w1.heap.size, 2, none⟩ = some (.int .i64 (v.mul k).C) ∧ wr.frozen? ⟨w1.heap.size, 0, none⟩ = false ∧ wr.frozen? ⟨w1.heap.size, 1, none⟩ = false ∧ wr.frozen? ⟨w1.heap.size, 2, none⟩ = false ∧ Ext w1 wr ∧ w1.heap.size < wr.heap.size) (fun i _ => n.toNat - (intOf i).toNat)
          case atStart => exact ⟨0, hn', rfl, by rw [Int.natCast_zero, mul_zero']; rfl, by rw [Int.natCast_zero, mul_zero']; simp [Vec.zero], by rw [Int.natCast_zero, mul_zero']; simp [Vec.zero], by rw [Int.natCast_zero, mul_zero']; simp [Vec.zero], by simp, by simp, by simp, (Ext.refl _).alloc _, by simp⟩
          case round =>
            obtain ⟨k, hk, rfl, hok, c0, c1, c2, f0, f1, f2, hbr, hzr⟩ := hrel
            obtain ⟨h63a, h63b⟩ := h64
            obtain ⟨hcrr, hfrr, _⟩ := hbr.rules
            by_cases hlt : (k : Int) < n
            · have HL := Lib.hid (fun h => vecB_mul_le (v := v) (b := n) hv (show (0 : Int) ≤ (k + 1 : Nat) by omega) (by omega) h)
              rcases Bool.eq_false_or_eq_true (vecB (v.mul (k + 1 : Nat))) with hs | hs
              · have ha : addOkB (v.mul k) v = true := by unfold addOkB; rw [hok, hv, mul_succ', hs]; rfl
                have HA := Lib.hid (show addV (v.mul k) v = v.mul (k + 1 : Nat) by rw [addV_yes ha, mul_succ'])
                have HS := Lib.hid hs
                clear hs HL
                generalize v.mul (k : Int) = u at *
                go_wp2_with (first | (go_at_call 106; (with_reducible refine (sVecAdd_c u v _).mono ?_); rintro e w3 ⟨rfl, hb3⟩; obtain ⟨hcr3, hfr3, hz3⟩ := hb3.rules; (try simp at hz3); have hy3_w10 : w1.heap.size < w3.heap.size := (by omega)))
                go_roundw
                case rel => exact ⟨k + 1, by omega, by go_num, HS.out, by rw [← HA.out]; go_simp, by rw [← HA.out]; go_simp, by rw [← HA.out]; go_simp, by go_simp, by go_simp, by go_simp, (by repeat (first | exact Ext.refl _ | assumption | apply Ext.alloc | apply Ext.drewN | apply Ext.drew | (refine Ext.setCell ?_ (by first | (simp; done) | (simp; omega) | omega) _) | (refine Ext.trans ?_ (by assumption)))), by simp; omega⟩
                case measure => simp [intOf]; omega
              · have e : timesOkB v n = false := by
                  rw [Bool.eq_false_iff]; intro h
                  unfold timesOkB at h
                  rw [Bool.and_eq_true] at h
                  have := HL.out h.2
                  rw [hs] at this; exact absurd this (by simp)
                have ha : addOkB (v.mul k) v = false := by unfold addOkB; rw [mul_succ', hs]; simp
                have HE := Lib.hid e
                clear hs HL e
                generalize v.mul (k : Int) = u at *
                have hyr : w.heap.size + 1 < wr.heap.size := by omega
                go_wp2_with (first | (go_at_call 106; (with_reducible refine (sVecAdd_c u v _).mono ?_); rintro e w3 ⟨rfl, hb3⟩; obtain ⟨hcr3, hfr3, hz3⟩ := hb3.rules; (try simp at hz3); have hy3_w10 : w1.heap.size < w3.heap.size := (by omega); have hy3_w0 : w.heap.size < w3.heap.size := (by omega); have hy3_w1 : w.heap.size + 1 < w3.heap.size := (by omega)))
                rw [timesV_no HE.out, HE.out]
                simp only [Vec.zero]
                exact ret_is (by simp [results, Try.results105, go_sem, *]) rfl (by repeat (first | exact Ext.refl _ | assumption | apply Ext.alloc | apply Ext.drewN | apply Ext.drew | (refine Ext.setCell ?_ (by first | (simp; done) | (simp; omega) | omega) _) | (refine Ext.trans ?_ (by assumption))))
            · have hkn : (k : Int) = n := by omega
              have e : timesOkB v n = true := by rw [hkn] at hok; unfold timesOkB; rw [hv, hok, decide_eq_true hn']; rfl
              have HE := Lib.hid (show timesV v n = v.mul k by rw [timesV_yes e, hkn])
              have HE2 := Lib.hid e
              clear hkn e
              generalize v.mul (k : Int) = u at *
              have hyw : w.heap.size + 1 < wr.heap.size := by omega
              go_wp2
              rw [HE.out, HE2.out]
              exact ret_is (by simp [results, Try.results105, go_sem, *]) rfl (by repeat (first | exact Ext.refl _ | assumption | apply Ext.alloc | apply Ext.drewN | apply Ext.drew | (refine Ext.setCell ?_ (by first | (simp; done) | (simp; omega) | omega) _) | (refine Ext.trans ?_ (by assumption))))
  · have e : timesOkB v n = false := by unfold timesOkB; rw [hv]; rfl
    rw [timesV_no e, e]
    simp only [Vec.zero]
    go_enter Try.func105, Try.ntmps105
    go_wp2_with (first | (go_at_call 103; (with_reducible refine (sVecOk_c v _).mono ?_); rintro e w1 ⟨rfl, hb1⟩; obtain ⟨hcr1, hfr1, hz1⟩ := hb1.rules; (try simp at hz1); have hy1_w0 : w.heap.size < w1.heap.size := (by omega); have hy1_w1 : w.heap.size + 1 < w1.heap.size := (by omega)))
    exact ret_is (by simp [results, Try.results105, go_sem, *]) rfl (by repeat (first | exact Ext.refl _ | assumption | apply Ext.alloc | apply Ext.drewN | apply Ext.drew | (refine Ext.setCell ?_ (by first | (simp; done) | (simp; omega) | omega) _) | (refine Ext.trans ?_ (by assumption))))

end Go.Proofs.Ytbfambeoboiifaa
