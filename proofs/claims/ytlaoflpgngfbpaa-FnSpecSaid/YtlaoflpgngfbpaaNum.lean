/- Contracts: a number as text. -/
import Derived.Test.YtlaoflpgngfbpaaSmall
import Derived.Test.YtlaoflpgngfbpaaLaw
import Derived.Deep.RegionHeld3
namespace Go.Proofs.Ytlaoflpgngfbpaa
open Go.RowKit
set_option linter.unusedVariables false
def numF : Nat → Nat → List UInt8 → List UInt8
  | 0, k, acc => (48 + UInt8.ofNat k) :: acc
  | f + 1, k, acc => if k < 10 then (48 + UInt8.ofNat k) :: acc else numF f (k / 10) ((48 + UInt8.ofNat (k % 10)) :: acc)
theorem numF_small {k : Nat} (h : k < 10) (f : Nat) (acc : List UInt8) : numF f k acc = (48 + UInt8.ofNat k) :: acc := by
  cases f with
  | zero => rfl
  | succ f => rw [numF, if_pos h]
theorem numF_fuel : ∀ (f g k : Nat) (acc : List UInt8), k ≤ f → k ≤ g → numF f k acc = numF g k acc := by
  intro f
  induction f with
  | zero => intro g k acc h1 h2; have : k = 0 := by omega
            subst this; rw [numF_small (by omega), numF_small (by omega)]
  | succ f ih =>
    intro g k acc h1 h2
    by_cases hk : k < 10
    · rw [numF_small hk, numF_small hk]
    · cases g with
      | zero => omega
      | succ g => rw [numF, numF, if_neg hk, if_neg hk]; exact ih g (k / 10) _ (by omega) (by omega)
theorem numF_app : ∀ (f k : Nat) (acc : List UInt8), numF f k acc = numF f k [] ++ acc := by
  intro f
  induction f with
  | zero => intro k acc; rfl
  | succ f ih =>
    intro k acc
    by_cases hk : k < 10
    · rw [numF_small hk, numF_small hk]; rfl
    · rw [numF, numF, if_neg hk, if_neg hk, ih, ih (k / 10) [48 + UInt8.ofNat (k % 10)], List.append_assoc]; rfl
theorem numF_len : ∀ (f k : Nat) (acc : List UInt8), (numF f k acc).length ≤ f + 1 + acc.length := by
  intro f
  induction f with
  | zero => intro k acc; simp [numF]; omega
  | succ f ih =>
    intro k acc
    by_cases hk : k < 10
    · rw [numF_small hk]; simp; omega
    · rw [numF, if_neg hk]; have := ih (k / 10) ((48 + UInt8.ofNat (k % 10)) :: acc); simp at this; omega
theorem numF_tiny : ∀ (f k : Nat) (acc : List UInt8), k < 10 ^ 10 → (numF f k acc).length ≤ 10 + acc.length := by
  have key : ∀ (d f k : Nat) (acc : List UInt8), k < 10 ^ (d + 1) → (numF f k acc).length ≤ d + 1 + acc.length := by
    intro d
    induction d with
    | zero => intro f k acc h; rw [numF_small (by simpa using h)]; simp; omega
    | succ d ih =>
      intro f k acc h
      by_cases hk : k < 10
      · rw [numF_small hk]; simp; omega
      · cases f with
        | zero => simp [numF]; omega
        | succ f =>
          rw [numF, if_neg hk]
          have := ih f (k / 10) ((48 + UInt8.ofNat (k % 10)) :: acc) (by rw [Nat.pow_succ] at h; omega)
          simp at this; omega
  intro f k acc h; exact key 9 f k acc h
def numText (k : Nat) : ByteArray := ⟨(numF k k []).toArray⟩
theorem numText_size (k : Nat) (h : k ≤ 1000000000) : (numText k).size ≤ 10 := by
  have := numF_tiny k k [] (Nat.lt_of_le_of_lt h (by decide))
  simpa [numText, ByteArray.size] using this
theorem numText_step {k : Nat} (h : ¬ k < 10) : numText k = numText (k / 10) ++ (⟨#[48 + UInt8.ofNat (k % 10)]⟩ : ByteArray) := by
  apply bytes_inj.1
  rw [ByteArray.toList_eq, ByteArray.toList_eq]
  unfold numText
  obtain ⟨f, rfl⟩ : ∃ f, k = f + 1 := ⟨k - 1, by omega⟩
  rw [numF, if_neg h, numF_fuel f ((f + 1) / 10) _ _ (by omega) (Nat.le_refl _), numF_app]
  simp [ByteArray.data_append]
theorem numText_small {k : Nat} (h : k < 10) : numText k = (⟨#[48 + UInt8.ofNat k]⟩ : ByteArray) := by
  unfold numText; rw [numF_small h]
set_option maxHeartbeats 1000000 in
theorem NumText_c (k : Nat) (w : World) (hk : k ≤ 1000000000) : Calls Try.prog 14 #[.int .i64 k] w (Ret w (.string (numText k))) := by
  have HT := Lib.hid (isTime_c k w)
  rw [show timeB k = true by unfold timeB; rw [decide_eq_true_iff]; omega] at HT
  go_enter Try.func14, Try.ntmps14
  go_wp2_with fail
  refine (HT.out).mono ?_
  rintro e w1 ⟨rfl, rfl⟩
  go_wp2
  go_loopw [0, 3] (fun n s wr => ∃ (j f : Nat) (out : List UInt8), j ≤ f ∧ j ≤ k ∧ n = .int .i64 j ∧ s = .string ⟨out.toArray⟩ ∧ Hid (numF k k [] = numF f j out) ∧ Ext w wr ∧ out.length + f ≤ k) (fun n _ _ => (intOf n).toNat)
  case atStart => exact ⟨k, k, [], Nat.le_refl _, Nat.le_refl _, rfl, rfl, Lib.hid rfl, Ext.refl _, by simp⟩
  case round =>
    obtain ⟨j, f, out, hjf, hjk, rfl, rfl, HE, hb, hlen⟩ := hrel
    have kc := run_byte_string (P := Try.prog) Try.underlying22 Try.underlying5 Try.underlying9
    by_cases hj : 9 < j
    · have hsz : (⟨#[UInt8.ofNat (48 + (j : Int) % 10).toNat]⟩ : ByteArray).size + (⟨out.toArray⟩ : ByteArray).size ≤ 9223372036854775807 := by simp [ByteArray.size]; omega
      go_wp2
      go_roundw
      case rel =>
        refine ⟨j / 10, f - 1, (48 + UInt8.ofNat (j % 10)) :: out, by omega, by omega, by go_num, by rw [cons_bytes], Lib.hid ?_, hb.alloc _, by simp; omega⟩
        rw [HE.out, show f = (f - 1) + 1 by omega, numF, if_neg (by omega)]; rfl
      case measure => simp [intOf]; omega
    · have HF := Lib.hid (show numText k = (⟨#[48 + UInt8.ofNat j]⟩ : ByteArray) ++ (⟨out.toArray⟩ : ByteArray) by unfold numText; rw [HE.out, numF_small (by omega), cons_bytes])
      have hsz : (⟨#[UInt8.ofNat (48 + (j : Int)).toNat]⟩ : ByteArray).size + (⟨out.toArray⟩ : ByteArray).size ≤ 9223372036854775807 := by simp [ByteArray.size]; omega
      go_wp2
      rw [HF.out]
      exact ret_val rfl rfl rfl (hb.alloc _)
end Go.Proofs.Ytlaoflpgngfbpaa
