/- Rows of lists of numbers: compared, marked, asked for marks. -/
import Derived.Test.YtgnbjnlcikpknaaVRow
namespace Go.Proofs.Ytgnbjnlcikpknaa
open Go.RowKit
set_option linter.unusedVariables false
set_option maxHeartbeats 2000000 in
theorem eqIntSS_t (xs : List (List Int)) (A A' : Option Addr) (n c c' : Nat) (w : World) (h1 : SlAt RIntS 1 w A n xs) (h2 : SlAt RIntS 1 w A' n xs) (hl : n ≤ maxLen) : Calls Try.prog 21 #[.slice A n c, .slice A' n c'] w (Ret w (.bool true)) := by
  unfold maxLen at hl
  go_enter Try.func21, Try.ntmps21
  go_wp2
  go_loopw [5] (fun i wr => ∃ k : Nat, k ≤ n ∧ i = .int .i64 k ∧ Ext w wr) (fun i _ => n - (intOf i).toNat)
  case atStart => exact ⟨0, Nat.zero_le _, rfl, Ext.refl _⟩
  case round =>
    obtain ⟨k, hk, rfl, hb⟩ := hrel
    by_cases hlt : k < n
    · obtain ⟨b, o, x, cs, rfl, hbw, hx, _, hc, hr⟩ := (h1.ext RIntS.mono hb).at_ hlt
      obtain ⟨b', o', y, cs', rfl, hbw', hy, _, hc', hr'⟩ := (h2.ext RIntS.mono hb).at_ hlt
      rw [hx] at hy; injection hy with hy; subst hy
      obtain ⟨A1, c1, rfl, hsl, hml⟩ := hr
      obtain ⟨A2, c2, rfl, hsl', _⟩ := hr'
      have g0 := hc 0 _ rfl
      simp only [Nat.mul_one, Nat.add_zero] at g0
      have d0 := hc' 0 _ rfl
      simp only [Nat.mul_one, Nat.add_zero] at d0
      have HB := Lib.hid hb
      have HC := Lib.hid (fun (u : World) (e : Ext wr u) => (show Calls Try.prog 23 #[.slice A1 x.length c1, .slice A2 x.length c2] u (Ret u (.bool true)) from by have := eqIntS_c x x A1 A2 x.length c1 x.length c2 u (hsl.ext (Flat.mono _ _) e) (hsl'.ext (Flat.mono _ _) e) hml; rw [decide_eq_true rfl] at this; exact this))
      have hcx := @Later.cell wr
      clear hc hc' hsl hsl' hml hx h1 h2 hb
      go_wp2
      refine wp_region_ext (by kernel_rfl) (by kernel_rfl) ?_
      repeat (go_big_quiet_step ((go_at_call 23; exact Calls.quiet_ext ((HC.out _ (Later.ext _))))))
      refine wpQuiet_nil ?_
      intro w1 hb1
      have HB1 := Lib.hid hb1
      clear hcx g0 d0 hb1
      go_wp2
      go_roundw
      case rel => exact ⟨k + 1, by omega, by go_num, HB.out.trans HB1.out⟩
      case measure => simp [intOf]; omega
    · clear h1 h2
      go_wp2
      exact ret_bool rfl rfl rfl rfl hb
set_option maxHeartbeats 4000000 in
set_option maxRecDepth 8000 in
theorem markIntSS_n (lo hi : Nat) (A : Option Addr) (n c : Nat) (f : Nat → VItem) (w : World) (h : VR w lo hi A n c n f) (hn : n ≤ 1048576) (hm : ∀ j, j < n → (f j).m ≤ 1048576) : Calls Try.prog 26 #[.slice A n c, .int .i64 1] w (RetVM w lo hi A n c f 1) := by
  have HBD := Lib.hid (fun i => vpos_bd (f := f) (k0 := 1) hm i)
  have HM := Lib.hid hm
  have H0 := Lib.hid h
  clear h hm
  go_enter Try.func26, Try.ntmps26
  go_wp2
  go_loopw [1, 5] (fun kv iv wr => ∃ i : Nat, i ≤ n ∧ iv = .int .i64 i ∧ kv = .int .i64 (vpos f 1 i) ∧ Hid (VR wr lo hi A n c n (fun j => if j < i then vmi f 1 j else f j)) ∧ Hid (Turned lo hi w wr)) (fun _ iv _ => n - (intOf iv).toNat)
  case atStart => exact ⟨0, Nat.zero_le _, rfl, rfl, Lib.hid (H0.out.congr (fun j hj => by simp)), Lib.hid (Turned.refl _ _ _)⟩
  case round =>
    obtain ⟨i, hi', rfl, rfl, HR, HT⟩ := hrel
    by_cases hlt : i < n
    · obtain ⟨L, hL, hright⟩ := HR.out.row
      obtain ⟨g, rfl, hgl, hgh⟩ : ∃ g, A = some ⟨g, 0, none⟩ ∧ lo ≤ g ∧ g < wr.heap.size := by
        obtain ⟨g, cap, e1, h1, h2⟩ := own_form hL (by omega)
        injection e1 with e1 _ _
        exact ⟨g, e1, h1, h2⟩
      have y0 := HR.out.one hlt (Nat.le_refl _)
      simp only [Nat.lt_irrefl, if_false] at y0
      obtain ⟨hb1, hb2⟩ := HBD.out i hi'
      have HMI := Lib.hid (HM.out i hlt)
      have HNP := Lib.hid (show vpos f 1 (i + 1) = vpos f 1 i + (f i).m from rfl)
      obtain ⟨K, hK⟩ : ∃ K, K = vpos f 1 i := ⟨_, rfl⟩
      have HKK := Lib.hid hK
      rw [← hK] at hb1 hb2 ⊢
      have hown := HR.out.own i hlt
      simp only [Nat.lt_irrefl, if_false] at hown
      have HOW := Lib.hid hown
      have hK1 : 0 < K := by omega
      have hK3 : K ≤ 1125899906842000 := by omega
      have hfv : (f i).v = .slice (f i).A (f i).m (f i).c := rfl
      rw [hfv] at y0
      clear hL hK hown hfv hb2 hright
      go_wp2_with fail
      refine (markIntS_c (f i).A (f i).m (f i).c lo _ K _ HOW.out HMI.out hK1 (by omega)).mono ?_
      rintro e w3 ⟨rfl, hm3, hg3⟩
      have HR3 := Lib.hid (VR.inner (i := i) (vs := marks mkInt 1 K (f i).m) HR.out hlt (by simpa [VItem.v] using hg3) (by simpa [VItem.v] using hm3))
      have HR4 := Lib.hid (show VR w3 lo hi (some ⟨g, 0, none⟩) n c n (fun j => if j < i + 1 then vmi f 1 j else f j) from HR3.out.congr (fun j hj => by
        by_cases e : j = i
        · subst e; simp [vmi, ← HKK.out]
        · rcases Nat.lt_or_ge j i with h1 | h1
          · simp [e, h1, show j < i + 1 by omega]
          · simp [e, show ¬ j < i by omega, show ¬ j < i + 1 by omega]))
      have HT3 := Lib.hid (HT.out.trans (turned_in hg3 (fun q e => ⟨(HOW.out.lt q e).1, (by have := HR.out.lows i hlt q (by simpa [VItem.v] using e); exact this)⟩)))
      clear hm3 hg3
      go_wp2
      go_roundw
      case rel => exact ⟨i + 1, by omega, by go_num, by rw [HNP.out, ← HKK.out], HR4, HT3⟩
      case measure => simp [intOf]; omega
    · have hin : i = n := by omega
      subst hin
      have HF := Lib.hid (show RetVM w lo hi A i c f 1 (.returned (.int .i64 (vpos f 1 i))) wr from ⟨rfl, HR.out.congr (fun j hj => by simp [hj]), HT.out⟩)
      go_wp2
      exact bodyPost_ret (results_tmp rfl _ _ _) rfl ⟨rfl, HF.out.2⟩
set_option maxHeartbeats 4000000 in
set_option maxRecDepth 8000 in
theorem heldIntSS_n (lo hi : Nat) (A : Option Addr) (n c : Nat) (f : Nat → VItem) (w : World) (h : VR w lo hi A n c n (vmi f 1)) (hn : n ≤ 1048576) (hm : ∀ j, j < n → (f j).m ≤ 1048576) : Calls Try.prog 27 #[.slice A n c, .int .i64 1] w (Ret w (.int .i64 (vpos f 1 n))) := by
  have HBD := Lib.hid (fun i => vpos_bd (f := f) (k0 := 1) hm i)
  have HM := Lib.hid hm
  have H0 := Lib.hid h
  clear h hm
  go_enter Try.func27, Try.ntmps27
  go_wp2
  go_loopw [1, 5] (fun kv iv wr => ∃ i : Nat, i ≤ n ∧ iv = .int .i64 i ∧ kv = .int .i64 (vpos f 1 i) ∧ Ext w wr) (fun _ iv _ => n - (intOf iv).toNat)
  case atStart => exact ⟨0, Nat.zero_le _, rfl, rfl, Ext.refl _⟩
  case round =>
    obtain ⟨i, hi', rfl, rfl, hb⟩ := hrel
    by_cases hlt : i < n
    · have HR := Lib.hid (H0.out.ext hb)
      obtain ⟨L, hL, hright⟩ := HR.out.row
      obtain ⟨g, rfl, hgl, hgh⟩ : ∃ g, A = some ⟨g, 0, none⟩ ∧ lo ≤ g ∧ g < wr.heap.size := by
        obtain ⟨g, cap, e1, h1, h2⟩ := own_form hL (by omega)
        injection e1 with e1 _ _
        exact ⟨g, e1, h1, h2⟩
      have y0 := HR.out.one hlt (Nat.le_refl _)
      obtain ⟨hb1, hb2⟩ := HBD.out i hi'
      have HMI := Lib.hid (HM.out i hlt)
      have HNP := Lib.hid (show vpos f 1 (i + 1) = vpos f 1 i + (f i).m from rfl)
      have HOW := Lib.hid (show wr.ownsRow lo 3 1 (.slice (f i).A (f i).m (f i).c) (f i).m (marks mkInt 1 (vpos f 1 i) (f i).m) from HR.out.own i hlt)
      have y0' : wr.cell? ⟨g, i, none⟩ = some (.slice (f i).A (f i).m (f i).c) := y0
      clear y0 hL hright
      obtain ⟨K, hK⟩ : ∃ K, K = vpos f 1 i := ⟨_, rfl⟩
      have HKK := Lib.hid hK
      rw [← hK] at hb1 hb2 HOW HNP ⊢
      have hK1 : 0 < K := by omega
      have hms := HMI.out
      have hK3 : K ≤ 1125899906842000 := by omega
      clear hK hb2
      go_wp2_with fail
      refine (heldIntS_c (f i).A (f i).m (f i).c lo K _ HOW.out HMI.out hK1 (by omega)).mono ?_
      rintro e w3 ⟨rfl, hb3⟩
      go_wp2
      go_roundw
      case rel => exact ⟨i + 1, by omega, by go_num, by rw [HNP.out], hb.trans hb3⟩
      case measure => simp [intOf]; omega
    · have hin : i = n := by omega
      subst hin
      go_wp2
      exact ret_int rfl rfl rfl rfl hb
end Go.Proofs.Ytgnbjnlcikpknaa
