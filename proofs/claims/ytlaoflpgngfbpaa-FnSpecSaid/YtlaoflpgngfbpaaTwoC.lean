/- Contracts: a text cut in two; a span out of a text. -/
import Derived.Test.YtlaoflpgngfbpaaPartsC
namespace Go.Proofs.Ytlaoflpgngfbpaa
open Go.RowKit
set_option linter.unusedVariables false
theorem two_one {s other : ByteArray} {b : UInt8} (h : (partsS s b).length = 1) : twoS s b other = (s, other) := by
  unfold twoS
  cases hp : partsS s b with
  | nil => rw [hp] at h; simp at h
  | cons a r =>
    cases r with
    | nil => rfl
    | cons c q => rw [hp] at h; simp at h
theorem two_two {s other : ByteArray} {b : UInt8} (h : (partsS s b).length = 2) : ∃ p q, partsS s b = [p, q] ∧ twoS s b other = (p, q) := by
  unfold twoS
  cases hp : partsS s b with
  | nil => rw [hp] at h; simp at h
  | cons a r =>
    cases r with
    | nil => rw [hp] at h; simp at h
    | cons c q =>
      cases q with
      | nil => exact ⟨a, c, rfl, rfl⟩
      | cons d q => rw [hp] at h; simp at h
theorem two_else {s other : ByteArray} {b : UInt8} (h1 : (partsS s b).length ≠ 1) (h2 : (partsS s b).length ≠ 2) : twoS s b other = (ByteArray.empty, ByteArray.empty) := by
  unfold twoS
  cases hp : partsS s b with
  | nil => rfl
  | cons a r =>
    cases r with
    | nil => rw [hp] at h1; simp at h1
    | cons c q =>
      cases q with
      | nil => rw [hp] at h2; simp at h2
      | cons d q => rfl
theorem two_size (s : ByteArray) (b : UInt8) (other : ByteArray) : (twoS s b other).1.size ≤ s.size ∧ (twoS s b other).2.size ≤ s.size + other.size := by
  have h := partsS_size s b
  by_cases h1 : (partsS s b).length = 1
  · rw [two_one h1]; exact ⟨Nat.le_refl _, by simp⟩
  · by_cases h2 : (partsS s b).length = 2
    · obtain ⟨p, q, hp, e⟩ := two_two (other := other) h2
      rw [e]
      rw [hp] at h
      have := h p (by simp); have := h q (by simp)
      exact ⟨by simp only []; omega, by simp only []; omega⟩
    · rw [two_else h1 h2]; exact ⟨Nat.zero_le _, Nat.zero_le _⟩
theorem str_at {w : World} {A : Option Addr} {n : Nat} {ps : List ByteArray} (h : SlAt (Flat encStr okStr) 1 w A n ps) {k : Nat} (hk : k < n) : ∃ b o x, A = some ⟨b, o, none⟩ ∧ b < w.heap.size ∧ ps[k]? = some x ∧ w.cell? ⟨b, o + k, none⟩ = some (.string x) := by
  obtain ⟨b, o, x, cs, rfl, hb, hx, _, hc, rfl, _⟩ := h.at_ hk
  have := hc 0 _ rfl
  simp only [Nat.mul_one, Nat.add_zero] at this
  exact ⟨b, o, x, rfl, hb, hx, this⟩
set_option maxHeartbeats 2000000 in
theorem two_c (s : ByteArray) (b : UInt8) (other : ByteArray) (w : World) (hs : s.size ≤ 1048576) : Calls Try.prog 17 #[.string s, .int .u8 b.toNat, .string other] w (Ret w (.tuple #[.string (twoS s b other).1, .string (twoS s b other).2])) := by
  have HP := Lib.hid (Parts_c s b w hs)
  have HL := Lib.hid (partsS_len s b)
  have H1 := Lib.hid (fun h => two_one (s := s) (b := b) (other := other) h)
  have H2 := Lib.hid (fun h => two_two (s := s) (b := b) (other := other) h)
  have H3 := Lib.hid (fun h h' => two_else (s := s) (b := b) (other := other) h h')
  generalize twoS s b other = r at *
  obtain ⟨hl1, hl2⟩ := HL.out
  generalize partsS s b = ps at *
  go_enter Try.func17, Try.ntmps17
  go_wp2_with fail
  refine HP.out.mono ?_
  rintro e w1 ⟨A, c, rfl, ho, hb⟩
  have HS := Lib.hid ho.slAt
  clear ho
  by_cases h1 : ps.length = 1
  · have hr := H1.out h1
    subst hr
    have hq : ((ps.length : Int) == 1) = true := by rw [beq_iff_eq]; omega
    clear h1
    go_wp2
    exact ret_is (by simp [results, Try.results17, go_sem]) rfl hb
  · by_cases h2 : ps.length = 2
    · obtain ⟨p, q, hp, hr⟩ := H2.out h2
      subst hr
      obtain ⟨b0, o0, x0, rfl, hbl, hx0, c0⟩ := str_at HS.out (k := 0) (by omega)
      obtain ⟨b1, o1, x1, e1, _, hx1, c1⟩ := str_at HS.out (k := 1) (by omega)
      injection e1 with e1
      injection e1 with e1 e2
      subst e1 e2
      rw [hp] at hx0 hx1
      simp at hx0 hx1
      subst hx0 hx1
      have hq1 : ((ps.length : Int) == 1) = false := by rw [beq_eq_false_iff_ne]; omega
      have hq2 : ((ps.length : Int) == 2) = true := by rw [beq_iff_eq]; omega
      have hl2' : ps.length = 2 := h2
      have hL0 : 0 < ps.length := by omega
      have hL1 : 1 < ps.length := by omega
      rw [Nat.add_zero] at c0
      have hcx := @Later.cell w1
      clear h1 h2 hp hl2' HS
      go_wp2
      refine wp_region_ext (by kernel_rfl) (by kernel_rfl) ?_
      repeat (go_big_quiet_step (fail))
      refine wpQuiet_nil ?_
      intro w1 hb1
      have HB1 := Lib.hid hb1
      clear hcx c0 c1 hb1
      go_wp2
      exact ret_is (by simp [results, Try.results17, go_sem]) rfl (hb.trans HB1.out)
    · have hr := H3.out h1 h2
      subst hr
      have hq1 : ((ps.length : Int) == 1) = false := by rw [beq_eq_false_iff_ne]; omega
      have hq2 : ((ps.length : Int) == 2) = false := by rw [beq_eq_false_iff_ne]; omega
      clear h1 h2
      go_wp2
      exact ret_is (by simp [results, Try.results17, go_sem]; rfl) rfl hb
end Go.Proofs.Ytlaoflpgngfbpaa
