/- Contracts over lists of numbers: whether one is among them. -/
import Derived.Test.YtgmlcohffdeplaaGreatSmall
namespace Go.Proofs.YtgmlcohffdeplaaGreat
open Go.RowKit
def idxI (v : Int) : List Int → Nat → Int
  | [], _ => -1
  | a :: r, k => if (v == a) = true then k else idxI v r (k + 1)
theorem idxI_ge (v : Int) (l : List Int) : ∀ k : Nat, (decide (0 ≤ idxI v l k)) = l.contains v := by
  induction l with
  | nil => intro k; rfl
  | cons a r ih =>
    intro k
    rw [idxI]
    by_cases h : (v == a) = true
    · rw [if_pos h, List.contains_cons, h, Bool.true_or, decide_eq_true_iff]; omega
    · rw [if_neg h, ih, List.contains_cons, Bool.eq_false_iff.2 h, Bool.false_or]
theorem contains_cons' (a v : Int) (r : List Int) : (a :: r).contains v = (a == v || r.contains v) := by
  rw [List.contains_cons]; congr 1; rw [Bool.eq_iff_iff]; simp only [beq_iff_eq]; exact eq_comm
set_option maxHeartbeats 1000000 in
theorem l02Has_c (xs : List Int) (v : Int) (A : Option Addr) (n c : Nat) (w : World) (h : SlAt RInt 1 w A n xs) (hl : n ≤ maxLen) : Calls Tryz.prog 143 #[.slice A n c, .int .i64 v] w (Ret w (.bool (xs.contains v))) := by
  unfold maxLen at hl
  have HN := Lib.hid h.len
  go_enter Tryz.func143, Tryz.ntmps143
  go_wp2
  go_loopw [9] (fun i wr => ∃ k : Nat, k ≤ n ∧ i = .int .i64 k ∧ Ext w wr ∧ xs.contains v = (xs.drop k).contains v) (fun i _ => n - (intOf i).toNat)
  case atStart => exact ⟨0, Nat.zero_le _, rfl, Ext.refl _, rfl⟩
  case round =>
    obtain ⟨k, hk, rfl, hb, hE⟩ := hrel
    have HE := Lib.hid hE; clear hE
    by_cases hlt : k < n
    · obtain ⟨b, o, x, cs, rfl, hbw, hx, _, hc, rfl, _⟩ := (h.ext (Flat.mono _ _) hb).at_ hlt
      have c0 := hc 0 _ rfl
      simp only [Nat.mul_one, Nat.add_zero] at c0
      have HX := Lib.hid hx
      clear hc hx h
      rcases Bool.eq_false_or_eq_true (x == v) with h1 | h1
      · have H1 := Lib.hid (show (x :: xs.drop (k + 1)).contains v = true by rw [contains_cons', h1]; rfl)
        go_wp2
        exact ret_bool rfl rfl rfl (by rw [HE.out, drop_cons HX.out, H1.out]) hb
      · have H1 := Lib.hid (show (x :: xs.drop (k + 1)).contains v = (xs.drop (k + 1)).contains v by rw [contains_cons', h1]; rfl)
        go_wp2
        go_roundw
        case rel => exact ⟨k + 1, by omega, by go_num, hb, by rw [HE.out, drop_cons HX.out, H1.out]⟩
        case measure => simp [intOf]; omega
    · go_wp2
      exact ret_bool rfl rfl rfl (by rw [HE.out, List.drop_eq_nil_of_le (by have := HN.out; omega)]; rfl) hb
set_option maxHeartbeats 1000000 in
theorem Index_c (xs : List Int) (v : Int) (A : Option Addr) (n c : Nat) (w : World) (h : SlAt RInt 1 w A n xs) (hl : n ≤ maxLen) : Calls Tryz.prog 96 #[.slice A n c, .int .i64 v] w (Ret w (.int .i64 (idxI v xs 0))) := by
  unfold maxLen at hl
  have HN := Lib.hid h.len
  go_enter Tryz.func96, Tryz.ntmps96
  go_wp2
  go_loopw [8] (fun i wr => ∃ k : Nat, k ≤ n ∧ i = .int .i64 k ∧ Ext w wr ∧ idxI v xs 0 = idxI v (xs.drop k) k) (fun i _ => n - (intOf i).toNat)
  case atStart => exact ⟨0, Nat.zero_le _, rfl, Ext.refl _, rfl⟩
  case round =>
    obtain ⟨k, hk, rfl, hb, hE⟩ := hrel
    have HE := Lib.hid hE; clear hE
    by_cases hlt : k < n
    · obtain ⟨b, o, x, cs, rfl, hbw, hx, _, hc, rfl, _⟩ := (h.ext (Flat.mono _ _) hb).at_ hlt
      have c0 := hc 0 _ rfl
      simp only [Nat.mul_one, Nat.add_zero] at c0
      have HX := Lib.hid hx
      clear hc hx h
      rcases Bool.eq_false_or_eq_true (v == x) with h1 | h1
      · have H1 := Lib.hid (show idxI v (x :: xs.drop (k + 1)) k = k by rw [idxI, if_pos h1])
        go_wp2
        exact ret_int rfl rfl rfl (by rw [HE.out, drop_cons HX.out, H1.out]) hb
      · have H1 := Lib.hid (show idxI v (x :: xs.drop (k + 1)) k = idxI v (xs.drop (k + 1)) (k + 1) by rw [idxI, if_neg (by rw [h1]; simp)])
        go_wp2
        go_roundw
        case rel => exact ⟨k + 1, by omega, by go_num, hb, by rw [HE.out, drop_cons HX.out, H1.out]⟩
        case measure => simp [intOf]; omega
    · go_wp2
      exact ret_int rfl rfl rfl (by rw [HE.out, List.drop_eq_nil_of_le (by have := HN.out; omega)]; rfl) hb
theorem Contains_c (xs : List Int) (v : Int) (A : Option Addr) (n c : Nat) (w : World) (h : SlAt RInt 1 w A n xs) (hl : n ≤ maxLen) : Calls Tryz.prog 58 #[.slice A n c, .int .i64 v] w (Ret w (.bool (xs.contains v))) := by
  have HN := Lib.hid (idxI_ge v xs 0)
  have HC := Lib.hid (Index_c xs v A n c w h hl)
  rw [← HN.out]
  generalize idxI v xs 0 = ix at *
  go_enter Tryz.func58, Tryz.ntmps58
  go_wp2_with fail
  refine HC.out.mono ?_
  rintro e w1 ⟨rfl, hb1⟩
  go_wp2
  exact ret_bool rfl rfl rfl rfl hb1
end Go.Proofs.YtgmlcohffdeplaaGreat
