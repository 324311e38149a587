/- Marks in a row of windows are asked for. -/
import Derived.Test.YtafccgnaifhnkaaNMark
namespace Go.Proofs.Ytafccgnaifhnkaa
open Go.RowKit
set_option linter.unusedVariables false
set_option maxHeartbeats 4000000 in
set_option maxRecDepth 8000 in
theorem heldWindowS_n (lo hi : Nat) (A : Option Addr) (n c : Nat) (f : Nat → NItem) (w : World) (h : NR w lo hi A n c n (nmi f 1)) (hn : n ≤ 1048576) (hm : ∀ j, j < n → (f j).m ≤ 1048576) : Calls Try.prog 27 #[.slice A n c, .int .i64 1] w (Ret w (.int .i64 (npos f 1 n))) := by
  have HBD := Lib.hid (fun i => npos_bd (f := f) (k0 := 1) hm i)
  have HM := Lib.hid hm
  have H0 := Lib.hid h
  clear h hm
  go_enter Try.func27, Try.ntmps27
  go_wp2
  go_loopw [1, 5] (fun kv iv wr => ∃ i : Nat, i ≤ n ∧ iv = .int .i64 i ∧ kv = .int .i64 (npos f 1 i) ∧ Ext w wr) (fun _ iv _ => n - (intOf iv).toNat)
  case atStart => exact ⟨0, Nat.zero_le _, rfl, rfl, Ext.refl _⟩
  case round =>
    obtain ⟨i, hi', rfl, rfl, hb⟩ := hrel
    by_cases hlt : i < n
    · have HR := Lib.hid (H0.out.ext hb)
      obtain ⟨L, hL, hright⟩ := HR.out.row
      obtain ⟨g, rfl, hgl, hgh⟩ : ∃ g, A = some ⟨g, 0, none⟩ ∧ lo ≤ g ∧ g < wr.heap.size := by
        obtain ⟨g, cap, e1, h1, h2⟩ := own_form hL (by omega)
        injection e1 with e1 _ _
        exact ⟨g, e1, h1, h2⟩
      obtain ⟨y0, y1, y2⟩ := HR.out.third hlt (Nat.le_refl _)
      obtain ⟨hb1, hb2⟩ := HBD.out i hi'
      have HMI := Lib.hid (HM.out i hlt)
      have HNP := Lib.hid (show npos f 1 (i + 1) = npos f 1 i + 2 + (f i).m from rfl)
      have HOW := Lib.hid (show wr.ownsRow lo 3 1 (.slice (f i).A (f i).m (f i).c) (f i).m (marks mkInt 1 (npos f 1 i + 2) (f i).m) from HR.out.own i hlt)
      have y0' : wr.cell? ⟨g, i * 3, none⟩ = some (.int .i64 (npos f 1 i)) := y0
      have y1' : wr.cell? ⟨g, i * 3 + 1, none⟩ = some (.int .i64 (npos f 1 i + 1)) := y1
      have y2' : wr.cell? ⟨g, i * 3 + 2, none⟩ = some (.slice (f i).A (f i).m (f i).c) := y2
      clear y0 y1 y2 hL hright
      obtain ⟨K, hK⟩ : ∃ K, K = npos f 1 i := ⟨_, rfl⟩
      have HKK := Lib.hid hK
      rw [← hK] at hb1 hb2 HOW HNP y0' y1' ⊢
      have hK1 : 0 < K + 2 := by omega
      have hms := HMI.out
      have hK3 : K ≤ 1125899906842000 := by omega
      clear hK hb2
      go_wp2_with fail
      rw [show K + 1 + 1 = K + 2 by omega]
      refine (heldIntS_c (f i).A (f i).m (f i).c lo (K + 2) _ HOW.out HMI.out hK1 (by omega)).mono ?_
      rintro e w3 ⟨rfl, hb3⟩
      go_wp2
      go_roundw
      case rel => exact ⟨i + 1, by omega, by go_num, by rw [HNP.out], hb.trans hb3⟩
      case measure => simp [intOf]; omega
    · have hin : i = n := by omega
      subst hin
      go_wp2
      exact ret_int rfl rfl rfl rfl hb
end Go.Proofs.Ytafccgnaifhnkaa
