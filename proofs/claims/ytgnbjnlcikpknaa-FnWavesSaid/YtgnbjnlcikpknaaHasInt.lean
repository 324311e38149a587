/- Contracts of the laws' own helper: whether a number is in a list. -/
import Derived.Test.YtgnbjnlcikpknaaInts
namespace Go.Proofs.Ytgnbjnlcikpknaa
open Go.RowKit
set_option linter.unusedVariables false
theorem SlAt.pre {α : Type} {R : Rel α} {sz n : Nat} {w : World} {A : Option Addr} {xs : List α} (h : SlAt R sz w A n xs) {k : Nat} (hk : k ≤ n) : SlAt R sz w A k (xs.take k) := by
  refine ⟨by rw [List.length_take, h.1]; omega, fun h0 => ?_⟩
  obtain ⟨b, o, e, hb, hc⟩ := h.2 (by omega)
  refine ⟨b, o, e, hb, fun j x hx => hc j x ?_⟩
  rw [List.getElem?_take] at hx; split at hx
  · exact hx
  · cases hx
set_option maxHeartbeats 1000000 in
theorem hasInt_c (xs : List Int) (v : Int) (A : Option Addr) (n c : Nat) (w : World) (h : SlAt RInt 1 w A n xs) (hl : n ≤ maxLen) : Calls Try.prog 10 #[.slice A n c, .int .i64 v] w (Ret w (.bool (xs.contains v))) := by
  unfold maxLen at hl
  have HN := Lib.hid h.len
  go_enter Try.func10, Try.ntmps10
  go_wp2
  go_loopw [9] (fun i wr => ∃ k : Nat, k ≤ n ∧ i = .int .i64 k ∧ Ext w wr ∧ xs.contains v = (xs.drop k).contains v) (fun i _ => n - (intOf i).toNat)
  case atStart => exact ⟨0, Nat.zero_le _, rfl, Ext.refl _, rfl⟩
  case round =>
    obtain ⟨k, hk, rfl, hb, hE⟩ := hrel
    have HE := Lib.hid hE; clear hE
    by_cases hlt : k < n
    · obtain ⟨b, o, x, cs, rfl, hbw, hx, _, hc, rfl, _⟩ := (h.ext (Flat.mono _ _) hb).at_ hlt
      have c0 := hc 0 _ rfl
      simp only [Nat.mul_one, Nat.add_zero] at c0
      have HX := Lib.hid hx
      clear hc hx h
      rcases Bool.eq_false_or_eq_true (x == v) with h1 | h1
      · have H1 := Lib.hid (show (x :: xs.drop (k + 1)).contains v = true by rw [contains_cons', h1]; rfl)
        go_wp2
        exact ret_bool rfl rfl rfl (by rw [HE.out, drop_cons HX.out, H1.out]) hb
      · have H1 := Lib.hid (show (x :: xs.drop (k + 1)).contains v = (xs.drop (k + 1)).contains v by rw [contains_cons', h1]; rfl)
        go_wp2
        go_roundw
        case rel => exact ⟨k + 1, by omega, by go_num, hb, by rw [HE.out, drop_cons HX.out, H1.out]⟩
        case measure => simp [intOf]; omega
    · go_wp2
      exact ret_bool rfl rfl rfl (by rw [HE.out, List.drop_eq_nil_of_le (by have := HN.out; omega)]; rfl) hb
end Go.Proofs.Ytgnbjnlcikpknaa
