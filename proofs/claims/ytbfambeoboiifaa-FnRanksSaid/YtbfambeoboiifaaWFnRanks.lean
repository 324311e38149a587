/- The law FnRanks returns true: the walk. -/
import Derived.Test.YtbfambeoboiifaaDrawAcct2
import Derived.Test.YtbfambeoboiifaaRankLaw
import Derived.Test.YtbfambeoboiifaaHasInt
namespace Go.Proofs.Ytbfambeoboiifaa
open Go.RowKit
set_option linter.unusedVariables false
theorem own_cap {α : Type} {R : Rel α} {e : TypeId} {sz base c : Nat} {A : Option Addr} {w : World} {xs : List α} (h : OwnAt R e sz w base (.slice A xs.length c) xs) : xs.length ≤ c := by
  obtain ⟨L, ⟨_, h1⟩, _⟩ := h
  rcases h1 with ⟨_, h0⟩ | ⟨g, cap, cur, hv, _, _, hn, _⟩
  · omega
  · injection hv with _ _ e; omega
set_option maxHeartbeats 4000000 in
set_option maxRecDepth 20000 in
theorem FnRanks_c (w : World) (A0 : Option Addr) (n0 c0 : Nat) (x0 : List Int) (h0 : SlAt RU8 1 w A0 n0 x0) (hn0 : n0 ≤ maxLen) : Calls Try.prog 4 #[.slice A0 n0 c0] w (Ret w (.bool true)) := by
  unfold maxLen at hn0
  by_cases hbig : 1048576 < n0
  · clear h0
    go_enter Try.func4, Try.ntmps4
    go_wp2
    exact ret_bool rfl rfl rfl rfl (Ext.refl _)
  have HD := Lib.hid (DrawRanks_c x0 A0 n0 c0 w h0 (by omega))
  clear h0
  go_enter Try.func4, Try.ntmps4
  go_wp2_with fail
  refine HD.out.mono ?_
  rintro e w1 ⟨A, c, xs, rfl, hs, hl, hb1⟩
  have hlm : xs.length ≤ maxLen := by unfold maxLen; omega
  have hM := Flat.mono Account.enc Account.ok
  have HS := Lib.hid hs
  have HB1 := Lib.hid hb1
  clear hs hb1
  go_wp2_with fail
  refine (Ranks_c xs A xs.length c _ HS.out hlm).mono ?_
  rintro e w2 ⟨A2, c2, rfl, ho2, hb2⟩
  have HO2 := Lib.hid ho2
  have HE2 := Lib.hid hb2
  clear ho2 hb2
  go_wp2_with fail
  refine (sRanks_c xs A xs.length c _ (HS.out.ext hM HE2.out) hlm).mono ?_
  rintro e w3 ⟨A3, c3, rfl, ho3, hb3⟩
  have HE3 := Lib.hid (HE2.out.trans hb3)
  have HR3 := Lib.hid (HO2.out.ext (Flat.mono _ _) hb3)
  clear ho3 hb3
  have hcap := own_cap HR3.out
  have HRL := Lib.hid (show (ranksL xs).length ≤ 5 by unfold ranksL; split <;> simp <;> omega)
  have hm5 := HRL.out
  obtain ⟨m, hm⟩ : ∃ m, m = (ranksL xs).length := ⟨_, rfl⟩
  have HM := Lib.hid hm
  rw [← hm] at hcap hm5
  rw [← hm]
  clear hm
  go_wp2
  go_loopw [22] (fun iv wr => ∃ k : Nat, k ≤ m ∧ iv = .int .i64 k ∧ Hid (Ext w3 wr)) (fun iv _ => m - (intOf iv).toNat)
  case atStart => exact ⟨0, Nat.zero_le _, rfl, Lib.hid (Ext.refl _)⟩
  case round =>
    obtain ⟨k, hk, rfl, HE⟩ := hrel
    by_cases hlt : k < m
    · have HSR := Lib.hid ((HR3.out.slAt).ext (Flat.mono _ _) HE.out)
      obtain ⟨b, o, y, cs, rfl, hbw, hy, _, hc, rfl, _⟩ := HSR.out.at_ (by rw [← HM.out]; exact hlt)
      have y0 := hc 0 _ rfl
      simp only [Nat.mul_one, Nat.add_zero] at y0
      have HY := Lib.hid hy
      have hB : acctsB xs = true := by
        rcases Bool.eq_false_or_eq_true (acctsB xs) with h | h
        · exact h
        · have := HM.out; rw [ranksL, if_neg (by rw [h]; simp)] at this; simp at this; omega
      have hlen : k < xs.length := by have := HM.out; rw [ranksL, if_pos hB, List.length_map] at this; omega
      obtain ⟨a, ha⟩ : ∃ a, xs[k]? = some a := ⟨_, List.getElem?_eq_getElem hlen⟩
      have hya : y = (rankN xs a : Int) := by have := ranks_get hB ha; rw [hy] at this; injection this
      have hlow := rank_low (List.mem_of_getElem? ha)
      have hml : m = xs.length := by have := HM.out; rw [ranksL, if_pos hB, List.length_map] at this; exact this
      have HNEW := Lib.hid (show ((ranksL xs).take k).contains y = false by rw [hya]; exact ranks_new hB ha)
      have HPR := Lib.hid (show rankPrioI xs a.Name 999 = 999 - y by rw [hya]; exact prio_at hB ha)
      have hy0 : 0 ≤ y := by omega
      have hym : y < m := by omega
      obtain ⟨b2, o2, a', cs2, rfl, hbw2, ha', _, hc2, rfl, hok2⟩ := (HS.out.ext hM (HE3.out.trans HE.out)).at_ hlen
      rw [ha] at ha'; injection ha' with ha'; subst ha'
      have z0 := hc2 0 _ rfl
      have z1 := hc2 1 _ rfl
      have z2 := hc2 2 _ rfl
      simp only [Nat.add_zero] at z0
      have HHI := Lib.hid (hasInt_c ((ranksL xs).take k) y (some ⟨b, o, none⟩) k c2 wr (HSR.out.pre (by rw [← HM.out]; omega)) (by unfold maxLen; omega))
      have HPC := Lib.hid (fun (u : World) (e : Ext wr u) => RankPrio_c xs a.Name 999 (some ⟨b2, o2, none⟩) xs.length c u (HS.out.ext hM ((HE3.out.trans HE.out).trans e)) hlm)
      rw [HNEW.out] at HHI
      rw [HPR.out] at HPC
      clear hc hc2 hy ha hB hya hlow hml hok2
      go_wp2_with fail
      refine HHI.out.mono ?_
      rintro e w4 ⟨rfl, hb4⟩
      have v0 := hb4.cell z0
      have hw4 : b2 < w4.heap.size := Nat.lt_of_lt_of_le hbw2 hb4.le
      have HB4 := Lib.hid hb4
      clear hb4 z0 z1 z2 y0
      go_wp2_with fail
      refine (HPC.out _ HB4.out).mono ?_
      rintro e w5 ⟨rfl, hb5⟩
      have HB5 := Lib.hid (HE.out.trans (HB4.out.trans hb5))
      clear hb5 v0
      go_wp2
      go_roundw
      case rel => exact ⟨k + 1, by omega, by go_num, HB5⟩
      case measure => simp [intOf]; omega
    · go_wp2
      exact ret_bool rfl rfl rfl rfl ((HB1.out.trans HE3.out).trans HE.out)
end Go.Proofs.Ytbfambeoboiifaa
