/- Contracts over words. -/
import Derived.Test.YtbfambeoboiifaaSmall
namespace Go.Proofs.Ytbfambeoboiifaa
open Go.RowKit
def lowB (c : UInt8) : Bool := decide (97 ≤ (c.toNat : Int) ∧ (c.toNat : Int) ≤ 122)
def wordB (s : ByteArray) : Bool := s.data.toList.all lowB && decide (1 ≤ s.size ∧ s.size ≤ 8)
theorem drop_byte {s : ByteArray} {k : Nat} (h : k < s.size) : s.data.toList.drop k = s[k] :: s.data.toList.drop (k + 1) := by
  rw [List.drop_eq_getElem_cons (by simpa using h)]; rfl
set_option maxHeartbeats 1000000 in
theorem WordOk_c (s : ByteArray) (w : World) (hs : s.size ≤ maxLen) : Calls Try.prog 45 #[.string s] w (Same w (.bool (wordB s))) := by
  unfold maxLen at hs
  go_enter Try.func45, Try.ntmps45
  go_wp2
  go_loop [3] (fun i => ∃ k : Nat, k ≤ s.size ∧ i = .int .i64 k ∧ wordB s = ((s.data.toList.drop k).all lowB && decide (1 ≤ s.size ∧ s.size ≤ 8))) (fun i => s.size - (intOf i).toNat)
  case atStart => exact ⟨0, Nat.zero_le _, rfl, rfl⟩
  case round =>
    obtain ⟨k, hk, rfl, hE⟩ := hrel
    have HE := Lib.hid hE; clear hE
    by_cases hlt : k < s.size
    · have HD := Lib.hid (drop_byte hlt)
      by_cases h1 : 97 ≤ (s[k].toNat : Int)
      · by_cases h2 : (s[k].toNat : Int) ≤ 122
        · go_wp2
          go_round
          case rel => exact ⟨k + 1, by omega, by go_num, by rw [HE.out, HD.out, List.all_cons, show lowB s[k] = true by unfold lowB; rw [decide_eq_true_iff]; omega]; rfl⟩
          case measure => simp [intOf]; omega
        · go_wp2
          exact same_bool rfl rfl rfl (by rw [HE.out, HD.out, List.all_cons, show lowB s[k] = false by unfold lowB; rw [decide_eq_false_iff_not]; omega]; rfl)
      · go_wp2
        exact same_bool rfl rfl rfl (by rw [HE.out, HD.out, List.all_cons, show lowB s[k] = false by unfold lowB; rw [decide_eq_false_iff_not]; omega]; rfl)
    · have HK : s.data.toList.drop k = [] := List.drop_eq_nil_of_le (by simp; omega)
      have HK := Lib.hid HK
      go_wp2
      all_goals (refine same_bool rfl rfl rfl ?_; rw [HE.out, HK.out, List.all_nil, Bool.true_and]; (first | (symm; rw [decide_eq_true_iff]; omega) | (symm; rw [decide_eq_false_iff_not]; omega) | (rw [decide_eq_decide]; omega) | ((try simp only [beq_iff_eq, beq_eq_false_iff_ne, bne_iff_ne, bne_eq_false_iff_eq, ne_eq] at *); rw [Bool.eq_iff_iff]; simp; omega)))
set_option maxHeartbeats 1000000 in
theorem sWordOk_c (s : ByteArray) (w : World) (hs : s.size ≤ maxLen) : Calls Try.prog 76 #[.string s] w (Same w (.bool (wordB s))) := by
  unfold maxLen at hs
  go_enter Try.func76, Try.ntmps76
  go_wp2
  go_loop [3] (fun i => ∃ k : Nat, k ≤ s.size ∧ i = .int .i64 k ∧ wordB s = ((s.data.toList.drop k).all lowB && decide (1 ≤ s.size ∧ s.size ≤ 8))) (fun i => s.size - (intOf i).toNat)
  case atStart => exact ⟨0, Nat.zero_le _, rfl, rfl⟩
  case round =>
    obtain ⟨k, hk, rfl, hE⟩ := hrel
    have HE := Lib.hid hE; clear hE
    by_cases hlt : k < s.size
    · have HD := Lib.hid (drop_byte hlt)
      by_cases h1 : 97 ≤ (s[k].toNat : Int)
      · by_cases h2 : (s[k].toNat : Int) ≤ 122
        · go_wp2
          go_round
          case rel => exact ⟨k + 1, by omega, by go_num, by rw [HE.out, HD.out, List.all_cons, show lowB s[k] = true by unfold lowB; rw [decide_eq_true_iff]; omega]; rfl⟩
          case measure => simp [intOf]; omega
        · go_wp2
          exact same_bool rfl rfl rfl (by rw [HE.out, HD.out, List.all_cons, show lowB s[k] = false by unfold lowB; rw [decide_eq_false_iff_not]; omega]; rfl)
      · go_wp2
        exact same_bool rfl rfl rfl (by rw [HE.out, HD.out, List.all_cons, show lowB s[k] = false by unfold lowB; rw [decide_eq_false_iff_not]; omega]; rfl)
    · have HK : s.data.toList.drop k = [] := List.drop_eq_nil_of_le (by simp; omega)
      have HK := Lib.hid HK
      go_wp2
      all_goals (refine same_bool rfl rfl rfl ?_; rw [HE.out, HK.out, List.all_nil, Bool.true_and]; (first | (symm; rw [decide_eq_true_iff]; omega) | (symm; rw [decide_eq_false_iff_not]; omega) | (rw [decide_eq_decide]; omega) | ((try simp only [beq_iff_eq, beq_eq_false_iff_ne, bne_iff_ne, bne_eq_false_iff_eq, ne_eq] at *); rw [Bool.eq_iff_iff]; simp; omega)))
end Go.Proofs.Ytbfambeoboiifaa
