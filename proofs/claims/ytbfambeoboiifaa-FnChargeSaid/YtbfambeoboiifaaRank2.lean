/- Contracts over lists of accounts: the rank taken off. -/
import Derived.Test.YtbfambeoboiifaaRank
import Derived.Test.YtbfambeoboiifaaAcct4
namespace Go.Proofs.Ytbfambeoboiifaa
open Go.RowKit
def rankPrioI (l : List Account) (name : ByteArray) (b : Int) : Int := if (decide (0 ≤ acctAt l name) && withinB b 0 999) = true then max 0 (b - ((ranksL l)[(acctAt l name).toNat]?.getD 0)) else -1
theorem ranksL_at {l : List Account} {k : Nat} {y : Int} (h : (ranksL l)[k]? = some y) : 0 ≤ y ∧ y ≤ 12 := by
  unfold ranksL at h
  split at h
  · rename_i hB
    have := acctsB_len hB
    obtain ⟨x, hx, rfl⟩ := List.mem_map.1 (List.mem_of_getElem? h)
    have := rankN_le l x
    omega
  · simp at h
theorem ranksL_len {l : List Account} (h : acctsB l = true) : (ranksL l).length = l.length := by
  rw [ranksL, if_pos h, List.length_map]
set_option maxHeartbeats 1000000 in
theorem RankPrio_c (xs : List Account) (name : ByteArray) (q : Int) (A : Option Addr) (n c : Nat) (w : World) (h : SlAt RAccount 3 w A n xs) (hl : n ≤ maxLen) : Calls Try.prog 17 #[.slice A n c, .string name, .int .i64 q] w (Ret w (.int .i64 (rankPrioI xs name q))) := by
  have hl' := hl
  unfold maxLen at hl
  have HN := Lib.hid h.len
  have hM := Flat.mono Account.enc Account.ok
  have hat := AccountAt_c xs name A n c w h hl'
  rcases acctAt_lt xs name with hk | ⟨hk0, hk1⟩
  · have e : rankPrioI xs name q = -1 := by unfold rankPrioI; rw [hk]; rfl
    rw [e]
    rw [hk] at hat
    go_enter Try.func17, Try.ntmps17
    go_wp2_with fail
    refine hat.mono ?_
    rintro e w1 ⟨rfl, hb1⟩
    go_wp2
    exact ret_is (by simp [results, Try.results17, go_sem]) rfl hb1
  · obtain ⟨k, hkk⟩ := Int.eq_ofNat_of_zero_le hk0
    have hB := acctAt_ok hk0
    have hlt : k < (ranksL xs).length := by rw [ranksL_len hB]; omega
    rcases Bool.eq_false_or_eq_true (withinB q 0 999) with hq | hq
    · have hq' := hq
      unfold withinB at hq'
      simp only [decide_eq_true_eq] at hq'
      obtain ⟨y, hy⟩ : ∃ y, (ranksL xs)[k]? = some y := ⟨_, List.getElem?_eq_getElem hlt⟩
      have HY := Lib.hid hy
      clear hy
      have E := Lib.hid (show rankPrioI xs name q = max 0 (q - y) by unfold rankPrioI; rw [hq, decide_eq_true hk0, hkk, Int.toNat_natCast, HY.out]; rfl)
      rw [hkk] at hat
      clear hkk hk0 hk1
      rw [E.out]
      go_enter Try.func17, Try.ntmps17
      go_wp2_with fail
      refine hat.mono ?_
      rintro e w1 ⟨rfl, hb1⟩
      clear hat
      go_wp2_with fail
      refine (within_c _ _ _ _).mono ?_
      rintro e w3 ⟨rfl, rfl⟩
      go_wp2_with fail
      refine (Ranks_c xs _ _ _ _ (h.ext hM hb1) hl').mono ?_
      rintro e w4 ⟨A4, c4, rfl, ho4, hb4⟩
      obtain ⟨b, o, y', cs, rfl, hbw, hx, _, hc, rfl, _⟩ := ho4.slAt.at_ hlt
      obtain rfl : y = y' := by have := HY.out; rw [hx] at this; injection this with this; exact this.symm
      have f0 := hc 0 _ rfl
      simp only [Nat.mul_one, Nat.add_zero] at f0
      obtain ⟨y0, y1⟩ := ranksL_at hx
      clear hc hx
      rcases Int.le_total (q - y) 0 with hm | hm
      all_goals
        go_wp2
        all_goals exact ret_is (by simp [results, Try.results17, go_sem] <;> omega) rfl (hb1.trans hb4)
    · have E := Lib.hid (show rankPrioI xs name q = -1 by unfold rankPrioI; rw [hq]; simp)
      rw [hkk] at hat
      clear hkk hk0 hk1
      rw [E.out]
      go_enter Try.func17, Try.ntmps17
      go_wp2_with fail
      refine hat.mono ?_
      rintro e w1 ⟨rfl, hb1⟩
      clear hat
      go_wp2_with fail
      refine (within_c _ _ _ _).mono ?_
      rintro e w3 ⟨rfl, rfl⟩
      go_wp2
      exact ret_is (by simp [results, Try.results17, go_sem]) rfl hb1
end Go.Proofs.Ytbfambeoboiifaa
