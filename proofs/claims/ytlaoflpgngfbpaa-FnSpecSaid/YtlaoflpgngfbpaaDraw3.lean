/- Contracts of the draws: numbers of any kind; a new cursor. -/
import Derived.Test.YtlaoflpgngfbpaaDraw2
namespace Go.Proofs.Ytlaoflpgngfbpaa
open Go.RowKit
set_option linter.unusedVariables false
set_option maxHeartbeats 2000000 in
theorem l01Raw_c (g : Nat) (w : World) (hc : Cur w g) : Calls Try.prog 24 #[.pointer (some ⟨g, 0, none⟩)] w (RetDraw w g In64) := by
  have HB := Lib.hid (fun (n : Int) (hn : In64 n) (u : World) (hu : Cur u g) => l01Below_c g n u hu hn)
  have HC0 := Lib.hid hc
  clear hc
  go_enter Try.func24, Try.ntmps24
  go_wp2_with fail
  refine (HB.out 9 (by unfold In64; omega) _ HC0.out).mono ?_
  rintro e w1 ⟨k, rfl, ⟨hk0, hk1⟩, ht1, hc1⟩
  have HC1 := Lib.hid hc1
  have HT1 := Lib.hid ht1
  clear hc1 ht1
  have hk : k < 4 ∨ k = 4 ∨ k = 5 ∨ k = 6 ∨ k = 7 ∨ 7 < k := by omega
  rcases hk with hk | rfl | rfl | rfl | rfl | hk
  · go_wp2_with fail
    refine (HB.out 24 (by unfold In64; omega) _ HC1.out).mono ?_
    rintro e w2 ⟨v, rfl, ⟨hv0, hv1⟩, ht2, hc2⟩
    have HC2 := Lib.hid hc2
    have HT2 := Lib.hid (HT1.out.trans ht2)
    clear hc2 ht2
    go_wp2
    exact bodyPost_ret (results_tmp rfl _ _ _) rfl ⟨v - 2, rfl, by unfold In64; omega, HT2.out, HC2.out⟩
  · go_wp2_with fail
    refine (HB.out 3 (by unfold In64; omega) _ HC1.out).mono ?_
    rintro e w2 ⟨v, rfl, ⟨hv0, hv1⟩, ht2, hc2⟩
    have HC2 := Lib.hid hc2
    have HT2 := Lib.hid (HT1.out.trans ht2)
    clear hc2 ht2
    go_wp2
    exact bodyPost_ret (results_tmp rfl _ _ _) rfl ⟨999999 + v, rfl, by unfold In64; omega, HT2.out, HC2.out⟩
  · go_wp2_with fail
    refine (HB.out 3 (by unfold In64; omega) _ HC1.out).mono ?_
    rintro e w2 ⟨v, rfl, ⟨hv0, hv1⟩, ht2, hc2⟩
    have HC2 := Lib.hid hc2
    have HT2 := Lib.hid (HT1.out.trans ht2)
    clear hc2 ht2
    go_wp2
    exact bodyPost_ret (results_tmp rfl _ _ _) rfl ⟨999999999 + v, rfl, by unfold In64; omega, HT2.out, HC2.out⟩
  · go_wp2_with fail
    refine (HB.out 2 (by unfold In64; omega) _ HC1.out).mono ?_
    rintro e w2 ⟨v, rfl, ⟨hv0, hv1⟩, ht2, hc2⟩
    have HC2 := Lib.hid hc2
    have HT2 := Lib.hid (HT1.out.trans ht2)
    clear hc2 ht2
    go_wp2
    exact bodyPost_ret (results_tmp rfl _ _ _) rfl ⟨9223372036854775807 - v, rfl, by unfold In64; omega, HT2.out, HC2.out⟩
  · go_wp2_with fail
    refine (HB.out 2 (by unfold In64; omega) _ HC1.out).mono ?_
    rintro e w2 ⟨v, rfl, ⟨hv0, hv1⟩, ht2, hc2⟩
    have HC2 := Lib.hid hc2
    have HT2 := Lib.hid (HT1.out.trans ht2)
    clear hc2 ht2
    go_wp2
    exact bodyPost_ret (results_tmp rfl _ _ _) rfl ⟨-9223372036854775807 - v, rfl, by unfold In64; omega, HT2.out, HC2.out⟩
  · go_wp2_with fail
    refine (HB.out 2000000 (by unfold In64; omega) _ HC1.out).mono ?_
    rintro e w2 ⟨v, rfl, ⟨hv0, hv1⟩, ht2, hc2⟩
    have HC2 := Lib.hid hc2
    have HT2 := Lib.hid (HT1.out.trans ht2)
    clear hc2 ht2
    go_wp2
    exact bodyPost_ret (results_tmp rfl _ _ _) rfl ⟨v, rfl, by unfold In64; omega, HT2.out, HC2.out⟩
theorem in_bits (op : BinOp) (x y : Int) : In64 (bits op .i64 x y) := by
  unfold bits In64
  simp only []
  rw [IntKind.wrap_i64]
  omega
theorem cur_low {w : World} {A : Option Addr} {n b o : Nat} {bs : List Int} (h : SlAt RU8 1 w A n bs) (h0 : 0 < n) (e : A = some ⟨b, o, none⟩) : b < w.heap.size := by
  obtain ⟨b1, o1, e1, hb1, _⟩ := h.2 h0
  rw [e] at e1; injection e1 with e1; injection e1 with e1 _; omega
/-- A call hands back a cursor in new memory. -/
def RetCur (w : World) : Ending → World → Prop := fun e w' => ∃ g : Nat, e = .returned (.pointer (some ⟨g, 0, none⟩)) ∧ w.heap.size ≤ g ∧ Ext w w' ∧ Cur w' g
set_option maxHeartbeats 2000000 in
set_option maxRecDepth 20000 in
theorem l01New_c (bs : List Int) (A : Option Addr) (n c : Nat) (w : World) (hs : SlAt RU8 1 w A n bs) (hn : n ≤ 1048576) : Calls Try.prog 11 #[.slice A n c] w (RetCur w) := by
  go_enter Try.func11, Try.ntmps11
  go_wp2
  go_loop [3, 4] (fun h i => ∃ (k : Nat) (q : Int), k ≤ n ∧ i = .int .i64 k ∧ h = .int .i64 q ∧ In64 q) (fun _ i => n - (intOf i).toNat)
  case atStart => exact ⟨0, _, Nat.zero_le _, rfl, rfl, by unfold In64; omega⟩
  case round =>
    obtain ⟨k, q, hk, rfl, rfl, hq⟩ := hrel
    by_cases hlt : k < n
    · by_cases h4 : k < 4000
      · obtain ⟨b, o, x, cs, rfl, hbw, _, _, hcb, hr⟩ := hs.at_ hlt
        obtain rfl : cs = [.int .u8 x] := hr
        have y0 := hcb 0 _ rfl
        simp only [Nat.mul_one, Nat.add_zero] at y0
        have HQ := Lib.hid (fun (a d : Int) => in_bits .and a d)
        clear hcb hs hq
        go_wp2
        go_round
        case rel => exact ⟨k + 1, _, by omega, by go_num, rfl, HQ.out _ _⟩
        case measure => simp [intOf]; omega
      · have HS := Lib.hid hs
        have HQ := Lib.hid hq
        clear hs hq
        go_wp2
        exact bodyPost_ret (results_tmp rfl _ _ _) rfl ⟨w.heap.size, rfl, Nat.le_refl _, (by repeat (first | exact Ext.refl _ | assumption | apply Ext.alloc | apply Ext.drewN | apply Ext.drew | (refine Ext.setCell ?_ (by first | (simp; done) | (simp; omega) | omega) _) | (refine Ext.trans ?_ (by assumption)))), by simp, fun j => by simp, A, n, c, bs, 0, q, law_box w [.slice A n c, .int .i64 0, .int .i64 q] _ 0 _ rfl, law_box w [.slice A n c, .int .i64 0, .int .i64 q] _ 1 _ rfl, law_box w [.slice A n c, .int .i64 0, .int .i64 q] _ 2 _ rfl, Nat.zero_le _, hn, HQ.out, HS.out.ext RU8.mono ((Ext.refl _).alloc _), fun h0 b o e => cur_low HS.out h0 e⟩
    · have HS := Lib.hid hs
      have HQ := Lib.hid hq
      clear hs hq
      go_wp2
      exact bodyPost_ret (results_tmp rfl _ _ _) rfl ⟨w.heap.size, rfl, Nat.le_refl _, (by repeat (first | exact Ext.refl _ | assumption | apply Ext.alloc | apply Ext.drewN | apply Ext.drew | (refine Ext.setCell ?_ (by first | (simp; done) | (simp; omega) | omega) _) | (refine Ext.trans ?_ (by assumption)))), by simp, fun j => by simp, A, n, c, bs, 0, q, law_box w [.slice A n c, .int .i64 0, .int .i64 q] _ 0 _ rfl, law_box w [.slice A n c, .int .i64 0, .int .i64 q] _ 1 _ rfl, law_box w [.slice A n c, .int .i64 0, .int .i64 q] _ 2 _ rfl, Nat.zero_le _, hn, HQ.out, HS.out.ext RU8.mono ((Ext.refl _).alloc _), fun h0 b o e => cur_low HS.out h0 e⟩
end Go.Proofs.Ytlaoflpgngfbpaa
