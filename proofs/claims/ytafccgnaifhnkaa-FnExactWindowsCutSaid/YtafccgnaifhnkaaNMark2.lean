/- Marks are set in a row of windows. -/
import Derived.Test.YtafccgnaifhnkaaNMark
namespace Go.Proofs.Ytafccgnaifhnkaa
open Go.RowKit
set_option linter.unusedVariables false
set_option maxHeartbeats 4000000 in
set_option maxRecDepth 8000 in
theorem markWindowS_n (lo hi : Nat) (A : Option Addr) (n c : Nat) (f : Nat → NItem) (w : World) (h : NR w lo hi A n c n f) (hn : n ≤ 1048576) (hm : ∀ j, j < n → (f j).m ≤ 1048576) : Calls Try.prog 26 #[.slice A n c, .int .i64 1] w (RetNM w lo hi A n c f 1) := by
  have HBD := Lib.hid (fun i => npos_bd (f := f) (k0 := 1) hm i)
  have HM := Lib.hid hm
  have H0 := Lib.hid h
  clear h hm
  go_enter Try.func26, Try.ntmps26
  go_wp2
  go_loopw [1, 5] (fun kv iv wr => ∃ i : Nat, i ≤ n ∧ iv = .int .i64 i ∧ kv = .int .i64 (npos f 1 i) ∧ Hid (NR wr lo hi A n c n (fun j => if j < i then nmi f 1 j else f j)) ∧ Hid (Turned lo hi w wr)) (fun _ iv _ => n - (intOf iv).toNat)
  case atStart => exact ⟨0, Nat.zero_le _, rfl, rfl, Lib.hid (H0.out.congr (fun j hj => by simp)), Lib.hid (Turned.refl _ _ _)⟩
  case round =>
    obtain ⟨i, hi', rfl, rfl, HR, HT⟩ := hrel
    by_cases hlt : i < n
    · obtain ⟨L, hL, hright⟩ := HR.out.row
      obtain ⟨g, rfl, hgl, hgh⟩ : ∃ g, A = some ⟨g, 0, none⟩ ∧ lo ≤ g ∧ g < wr.heap.size := by
        obtain ⟨g, cap, e1, h1, h2⟩ := own_form hL (by omega)
        injection e1 with e1 _ _
        exact ⟨g, e1, h1, h2⟩
      have hghi : g < hi := HR.out.low g rfl
      have z0 := hL.frozenAt (i * 3)
      have z1 := hL.frozenAt (i * 3 + 1)
      obtain ⟨y0, y1, y2⟩ := HR.out.third hlt (Nat.le_refl _)
      simp only [Nat.lt_irrefl, if_false] at y0 y1 y2
      obtain ⟨hb1, hb2⟩ := HBD.out i hi'
      have HMI := Lib.hid (HM.out i hlt)
      have HNP := Lib.hid (show npos f 1 (i + 1) = npos f 1 i + 2 + (f i).m from rfl)
      obtain ⟨K, hK⟩ : ∃ K, K = npos f 1 i := ⟨_, rfl⟩
      have HKK := Lib.hid hK
      rw [← hK] at hb1 hb2 ⊢
      have HR2 := Lib.hid (HR.out.put2 hlt (Nat.le_refl _) (.int .i64 K) (.int .i64 (K + 1)))
      have HT2 := Lib.hid (NR.turned_put (p := i * 3 + 1) (u := .int .i64 (K + 1)) (NR.turned_put (p := i * 3) (u := .int .i64 K) HT.out hgl hghi) hgl hghi)
      have hown := HR2.out.own i hlt
      simp only [if_true, Nat.lt_irrefl, if_false] at hown
      have HOW := Lib.hid hown
      have hK1 : 0 < K + 2 := by omega
      have hK3 : K ≤ 1125899906842000 := by omega
      have hfv : (f i).v = .slice (f i).A (f i).m (f i).c := rfl
      rw [hfv] at y2
      clear hL hK hown hfv hb2 hright
      go_wp2_with fail
      rw [show K + 1 + 1 = K + 2 by omega]
      refine (markIntS_c (f i).A (f i).m (f i).c lo _ (K + 2) _ HOW.out HMI.out hK1 (by omega)).mono ?_
      rintro e w3 ⟨rfl, hm3, hg3⟩
      have HR3 := Lib.hid (NR.inner (i := i) (vs := marks mkInt 1 (K + 2) (f i).m) HR2.out hlt (by simpa [NItem.v] using hg3) (by simpa [NItem.v] using hm3))
      have HR4 := Lib.hid (show NR w3 lo hi (some ⟨g, 0, none⟩) n c n (fun j => if j < i + 1 then nmi f 1 j else f j) from HR3.out.congr (fun j hj => by
        by_cases e : j = i
        · subst e; simp [nmi, ← HKK.out]
        · rcases Nat.lt_or_ge j i with h1 | h1
          · simp [e, h1, show j < i + 1 by omega]
          · simp [e, show ¬ j < i by omega, show ¬ j < i + 1 by omega]))
      have HT3 := Lib.hid (HT2.out.trans (NR.turned_in hg3 (fun q e => ⟨(HOW.out.lt q e).1, (by have := HR2.out.lows i hlt q (by simpa [NItem.v] using e); exact this)⟩)))
      clear hm3 hg3
      go_wp2
      go_roundw
      case rel => exact ⟨i + 1, by omega, by go_num, by rw [HNP.out, ← HKK.out], HR4, HT3⟩
      case measure => simp [intOf]; omega
    · have hin : i = n := by omega
      subst hin
      have HF := Lib.hid (show RetNM w lo hi A i c f 1 (.returned (.int .i64 (npos f 1 i))) wr from ⟨rfl, HR.out.congr (fun j hj => by simp [hj]), HT.out⟩)
      go_wp2
      exact bodyPost_ret (results_tmp rfl _ _ _) rfl ⟨rfl, HF.out.2⟩
end Go.Proofs.Ytafccgnaifhnkaa
