/- Contracts: what the law on the k-th least draws. -/
import Derived.Test.YtdnbjmfngmahkaaDraw5
import Derived.Test.YtdnbjmfngmahkaaSmall
namespace Go.Proofs.Ytdnbjmfngmahkaa
open Go.RowKit
set_option linter.unusedVariables false
theorem contains_cons' (a v : Int) (r : List Int) : (a :: r).contains v = (a == v || r.contains v) := by
  rw [List.contains_cons]; congr 1; rw [Bool.eq_iff_iff]; simp only [beq_iff_eq]; exact eq_comm
set_option maxHeartbeats 1000000 in
theorem hasInt_c (xs : List Int) (v : Int) (A : Option Addr) (n c : Nat) (w : World) (h : SlAt RInt 1 w A n xs) (hl : n ≤ maxLen) : Calls Try.prog 8 #[.slice A n c, .int .i64 v] w (Ret w (.bool (xs.contains v))) := by
  unfold maxLen at hl
  have HN := Lib.hid h.len
  go_enter Try.func8, Try.ntmps8
  go_wp2
  go_loopw [9] (fun i wr => ∃ k : Nat, k ≤ n ∧ i = .int .i64 k ∧ Ext w wr ∧ xs.contains v = (xs.drop k).contains v) (fun i _ => n - (intOf i).toNat)
  case atStart => exact ⟨0, Nat.zero_le _, rfl, Ext.refl _, rfl⟩
  case round =>
    obtain ⟨k, hk, rfl, hb, hE⟩ := hrel
    have HE := Lib.hid hE; clear hE
    by_cases hlt : k < n
    · obtain ⟨b, o, x, cs, rfl, hbw, hx, _, hc, rfl, _⟩ := (h.ext (Flat.mono _ _) hb).at_ hlt
      have c0 := hc 0 _ rfl
      simp only [Nat.mul_one, Nat.add_zero] at c0
      have HX := Lib.hid hx
      clear hc hx h
      rcases Bool.eq_false_or_eq_true (x == v) with h1 | h1
      · have H1 := Lib.hid (show (x :: xs.drop (k + 1)).contains v = true by rw [contains_cons', h1]; rfl)
        go_wp2
        exact ret_bool rfl rfl rfl (by rw [HE.out, drop_cons HX.out, H1.out]) hb
      · have H1 := Lib.hid (show (x :: xs.drop (k + 1)).contains v = (xs.drop (k + 1)).contains v by rw [contains_cons', h1]; rfl)
        go_wp2
        go_roundw
        case rel => exact ⟨k + 1, by omega, by go_num, hb, by rw [HE.out, drop_cons HX.out, H1.out]⟩
        case measure => simp [intOf]; omega
    · go_wp2
      exact ret_bool rfl rfl rfl (by rw [HE.out, List.drop_eq_nil_of_le (by have := HN.out; omega)]; rfl) hb
theorem sl_keep {w w' : World} {g base m : Nat} {A : Option Addr} {xs : List Int} (h : SlAt RInt 1 w A m xs) (hb : 0 < m → ∀ b o, A = some ⟨b, o, none⟩ → base ≤ b) (hg : g + 1 ≤ base) (ht : Turned g (g + 1) w w') : SlAt RInt 1 w' A m xs := by
  refine ⟨h.1, fun h0 => ?_⟩
  obtain ⟨b, o, e, hl, hcs⟩ := h.2 h0
  have hbb := hb h0 b o e
  refine ⟨b, o, e, Nat.lt_of_lt_of_le hl ht.size, fun k x hx => ?_⟩
  obtain ⟨cs, q1, q2, q3⟩ := hcs k x hx
  exact ⟨cs, q1, fun j u hu => by rw [World.cell?_of_block (a := ⟨b, o + k * 1 + j, none⟩) (ht.block b hl (.inr (by omega)))]; exact q2 j u hu, q3⟩
def RetDQ (w : World) : Ending → World → Prop := fun e w' => ∃ (A : Option Addr) (c : Nat) (xs : List Int) (k : Int), e = .returned (.tuple #[.slice A xs.length c, .int .i64 k]) ∧ SlAt RInt 1 w' A xs.length xs ∧ xs.length ≤ 1001 ∧ In64 k ∧ Ext w w'
set_option maxHeartbeats 2000000 in
theorem DrawQuantile_c (bs : List Int) (A : Option Addr) (n c : Nat) (w : World) (hs : SlAt RU8 1 w A n bs) (hn : n ≤ 1048576) : Calls Try.prog 4 #[.slice A n c] w (RetDQ w) := by
  have HB := Lib.hid (fun (g : Nat) (n : Int) (hn : In64 n) (u : World) (hu : Cur u g) => l01Below_c g n u hu hn)
  have HN := Lib.hid (l01New_c bs A n c w hs hn)
  clear hs
  go_enter Try.func4, Try.ntmps4
  go_wp2_with fail
  refine HN.out.mono ?_
  rintro e w1 ⟨g, rfl, hg, hb1, hc1⟩
  have hg1 : g + 1 ≤ w1.heap.size := hc1.lt
  go_wp2_with fail
  refine (l16Any_c g _ hc1).mono ?_
  rintro e w2 ⟨A2, c2, xs, rfl, hs2, hl2, hlo2, ht2, hc2⟩
  go_wp2_with fail
  refine (HB.out g _ (by unfold In64; omega) _ hc2).mono ?_
  rintro e w3 ⟨v, rfl, ⟨hv0, hv1⟩, ht3, hc3⟩
  go_wp2_with fail
  refine (HB.out g 9 (by unfold In64; omega) _ hc3).mono ?_
  rintro e w4 ⟨j, rfl, ⟨hj0, hj1⟩, ht4, hc4⟩
  have HS4 := Lib.hid (sl_keep hs2 hlo2 hg1 (ht3.trans ht4))
  have HT4 := Lib.hid ((ht2.trans ht3).trans ht4)
  have HE := Lib.hid hb1
  have HC4 := Lib.hid hc4
  have HLO := Lib.hid hlo2
  clear hs2 ht2 ht3 ht4 hb1 hc1 hc2 hc3 hc4 hlo2
  by_cases hj : j = 0
  · subst hj
    go_wp2_with fail
    refine (l01Raw_c g _ HC4.out).mono ?_
    rintro e w5 ⟨k, rfl, hk, ht5, _⟩
    have HS5 := Lib.hid (sl_keep HS4.out HLO.out hg1 ht5)
    have HT5 := Lib.hid (HT4.out.trans ht5)
    have HK := Lib.hid hk
    clear ht5 hk
    go_wp2
    exact bodyPost_ret (results_tmp2 rfl _ _ _) rfl ⟨A2, c2, xs, k, rfl, HS5.out, hl2, HK.out, ext_turned HE.out HT5.out hg⟩
  · go_wp2
    exact bodyPost_ret (results_tmp2 rfl _ _ _) rfl ⟨A2, c2, xs, 1 + v, rfl, HS4.out, hl2, by unfold In64; omega, ext_turned HE.out HT4.out hg⟩
end Go.Proofs.Ytdnbjmfngmahkaa
