/- The law FnOver returns true: the walk. -/
import Derived.Test.YtbfambeoboiifaaDrawProf5
import Derived.Test.YtbfambeoboiifaaOverLaw
namespace Go.Proofs.Ytbfambeoboiifaa
open Go.RowKit
set_option linter.unusedVariables false
attribute [local go_sem ↓] run_use_eq run_use_guard
set_option maxHeartbeats 8000000 in
set_option maxRecDepth 20000 in
theorem FnOver_c (w : World) (A0 : Option Addr) (n0 c0 : Nat) (x0 : List Int) (h0 : SlAt RU8 1 w A0 n0 x0) (hn0 : n0 ≤ maxLen) : Calls Try.prog 5 #[.slice A0 n0 c0] w (Ret w (.bool true)) := by
  unfold maxLen at hn0
  by_cases hbig : 1048576 < n0
  · clear h0
    go_enter Try.func5, Try.ntmps5
    go_wp2
    exact ret_bool rfl rfl rfl rfl (Ext.refl _)
  have HD := Lib.hid (DrawUsedOver_c x0 A0 n0 c0 w h0 (by omega))
  clear h0
  go_enter Try.func5, Try.ntmps5
  go_wp2_with fail
  refine HD.out.mono ?_
  rintro e w1 ⟨A, c, xs, v, fr, to, rfl, hs, hl, hv, hf, ht, hb1⟩
  have hlm : xs.length ≤ maxLen := by unfold maxLen; omega
  have HU := Lib.hid (fun (u : World) (e : Ext w1 u) => UsedOver_c xs v fr to A xs.length c u (hs.ext (Flat.mono _ _) e) hlm)
  have HSU := Lib.hid (fun (u : World) (e : Ext w1 u) => sUsedOver_c xs v fr to A xs.length c u (hs.ext (Flat.mono _ _) e) hlm)
  have HF := Lib.hid (fun (a b : Int) (u : World) (e : Ext w1 u) => FreeOver_c xs a b A xs.length c u (hs.ext (Flat.mono _ _) e) hlm)
  have HB1 := Lib.hid hb1
  have HBOX := Lib.hid (fun (u : World) (e : Ext ((w1.alloc (.cells #[.slice A xs.length c] 40)).alloc (.cells #[.int .i64 v.A, .int .i64 v.B, .int .i64 v.C] 42)) u) => show (u.cell? ⟨w1.heap.size, 0, none⟩ = some (.slice A xs.length c)) ∧ u.cell? ⟨w1.heap.size + 1, 0, none⟩ = some (.int .i64 v.A) ∧ u.cell? ⟨w1.heap.size + 1, 1, none⟩ = some (.int .i64 v.B) ∧ u.cell? ⟨w1.heap.size + 1, 2, none⟩ = some (.int .i64 v.C) from ⟨Ext.cell (((Ext.refl _).alloc _).trans e) (dcell_box w1 [.slice A xs.length c] 40 0 _ rfl), e.cell (cell_box_at (w1.alloc (.cells #[.slice A xs.length c] 40)) (w1.heap.size + 1) (by simp) [.int .i64 v.A, .int .i64 v.B, .int .i64 v.C] 42 0 _ rfl), e.cell (cell_box_at (w1.alloc (.cells #[.slice A xs.length c] 40)) (w1.heap.size + 1) (by simp) [.int .i64 v.A, .int .i64 v.B, .int .i64 v.C] 42 1 _ rfl), e.cell (cell_box_at (w1.alloc (.cells #[.slice A xs.length c] 40)) (w1.heap.size + 1) (by simp) [.int .i64 v.A, .int .i64 v.B, .int .i64 v.C] 42 2 _ rfl)⟩)
  have HE := Lib.hid (((Ext.refl w1).alloc (.cells #[.slice A xs.length c] 40)).alloc (.cells #[.int .i64 v.A, .int .i64 v.B, .int .i64 v.C] 42))
  clear hs hb1
  rcases (Bool.eq_false_or_eq_true (usedB xs v fr to)).symm with hub | hub
  · have HUZ := Lib.hid (usedU_bad hub)
    rw [hub, HUZ.out] at HU
    rw [hub] at HSU
    generalize usedU xs v fr to = U at *
    have HF1 := Lib.hid (HF.out fr to)
    generalize overU xs fr to = F at HF1
    clear hub
    go_wp2_with fail
    refine (HU.out _ HE.out).mono ?_
    rintro e w2 ⟨rfl, hb2⟩
    have E2 := Lib.hid hb2
    clear hb2
    obtain ⟨p0, v0, v1, v2⟩ := HBOX.out _ E2.out
    have hlp := lt_of_cell p0
    have hlv := lt_of_cell v0
    have HUX := Lib.hid (fun (u : World) (e : Ext (w2.alloc (.cells #[.int .i64 0, .int .i64 0, .int .i64 0] 45)) u) => show u.cell? ⟨w2.heap.size, 0, none⟩ = some (.int .i64 0) ∧ u.cell? ⟨w2.heap.size, 1, none⟩ = some (.int .i64 0) ∧ u.cell? ⟨w2.heap.size, 2, none⟩ = some (.int .i64 0) from ⟨e.cell (dcell_box w2 [.int .i64 0, .int .i64 0, .int .i64 0] 45 0 _ rfl), e.cell (dcell_box w2 [.int .i64 0, .int .i64 0, .int .i64 0] 45 1 _ rfl), e.cell (dcell_box w2 [.int .i64 0, .int .i64 0, .int .i64 0] 45 2 _ rfl)⟩)
    go_wp2_with fail
    refine (HSU.out _ (HE.out.trans (E2.out.alloc _))).mono ?_
    rintro e w3 ⟨rfl, hb3⟩
    have X3 := Lib.hid hb3
    have E3 := Lib.hid ((E2.out.alloc (.cells #[.int .i64 0, .int .i64 0, .int .i64 0] 45)).trans hb3)
    clear hb3 p0 v0 v1 v2 hlp hlv
    obtain ⟨p0, v0, v1, v2⟩ := HBOX.out _ E3.out
    have hlp := lt_of_cell p0
    have hlv := lt_of_cell v0
    go_wp2_with fail
    refine (HF1.out _ (HE.out.trans (E3.out.alloc _))).mono ?_
    rintro e w4 ⟨rfl, hb4⟩
    have X4 := Lib.hid ((X3.out.alloc (.cells #[.int .i64 U.A, .int .i64 U.B, .int .i64 U.C] 45)).trans hb4)
    have E4 := Lib.hid ((E3.out.alloc (.cells #[.int .i64 U.A, .int .i64 U.B, .int .i64 U.C] 45)).trans hb4)
    clear hb4 p0 v0 v1 v2 hlp hlv
    obtain ⟨u0, u1, u2⟩ := HUX.out _ X4.out
    have hlu := lt_of_cell u0
    go_wp2
    exact ret_bool rfl rfl rfl rfl (HB1.out.trans (HE.out.trans (E4.out.alloc _)))
  · have HOF := Lib.hid (over_f hub)
    have HMID := Lib.hid (fun (m : Int) (h1 : fr < m) (h2 : m ≤ to) => mid_f (m := m) (over_f hub).over h1 h2)
    rw [hub] at HU HSU
    have HF1 := Lib.hid (HF.out fr to)
    rw [HOF.out.over] at HF1
    obtain ⟨hOv, f0, flt, t1, hvr, bA, bB, bC, pA, pB, pC, uA, uB, uC⟩ := HOF.out
    clear hOv HOF hub
    generalize usedU xs v fr to = U at *
    generalize overU xs fr to = F at *
    go_wp2_with fail
    refine (HU.out _ HE.out).mono ?_
    rintro e w2 ⟨rfl, hb2⟩
    have E2 := Lib.hid hb2
    clear hb2
    obtain ⟨p0, v0, v1, v2⟩ := HBOX.out _ E2.out
    have hlp := lt_of_cell p0
    have hlv := lt_of_cell v0
    have HUX := Lib.hid (fun (u : World) (e : Ext (w2.alloc (.cells #[.int .i64 U.A, .int .i64 U.B, .int .i64 U.C] 45)) u) => show u.cell? ⟨w2.heap.size, 0, none⟩ = some (.int .i64 U.A) ∧ u.cell? ⟨w2.heap.size, 1, none⟩ = some (.int .i64 U.B) ∧ u.cell? ⟨w2.heap.size, 2, none⟩ = some (.int .i64 U.C) from ⟨e.cell (dcell_box w2 [.int .i64 U.A, .int .i64 U.B, .int .i64 U.C] 45 0 _ rfl), e.cell (dcell_box w2 [.int .i64 U.A, .int .i64 U.B, .int .i64 U.C] 45 1 _ rfl), e.cell (dcell_box w2 [.int .i64 U.A, .int .i64 U.B, .int .i64 U.C] 45 2 _ rfl)⟩)
    go_wp2_with fail
    refine (HSU.out _ (HE.out.trans (E2.out.alloc _))).mono ?_
    rintro e w3 ⟨rfl, hb3⟩
    have X3 := Lib.hid hb3
    have E3 := Lib.hid ((E2.out.alloc (.cells #[.int .i64 U.A, .int .i64 U.B, .int .i64 U.C] 45)).trans hb3)
    clear hb3 p0 v0 v1 v2 hlp hlv
    obtain ⟨p0, v0, v1, v2⟩ := HBOX.out _ E3.out
    have hlp := lt_of_cell p0
    have hlv := lt_of_cell v0
    go_wp2_with fail
    refine (HF1.out _ (HE.out.trans (E3.out.alloc _))).mono ?_
    rintro e w4 ⟨rfl, hb4⟩
    have X4 := Lib.hid ((X3.out.alloc (.cells #[.int .i64 U.A, .int .i64 U.B, .int .i64 U.C] 45)).trans hb4)
    have E4 := Lib.hid ((E3.out.alloc (.cells #[.int .i64 U.A, .int .i64 U.B, .int .i64 U.C] 45)).trans hb4)
    clear hb4 p0 v0 v1 v2 hlp hlv
    obtain ⟨p0, v0, v1, v2⟩ := HBOX.out _ E4.out
    have hlp := lt_of_cell p0
    have hlv := lt_of_cell v0
    obtain ⟨u0, u1, u2⟩ := HUX.out _ X4.out
    have hlu := lt_of_cell u0
    have HFX := Lib.hid (fun (u : World) (e : Ext (w4.alloc (.cells #[.int .i64 F.A, .int .i64 F.B, .int .i64 F.C] 45)) u) => show u.cell? ⟨w4.heap.size, 0, none⟩ = some (.int .i64 F.A) ∧ u.cell? ⟨w4.heap.size, 1, none⟩ = some (.int .i64 F.B) ∧ u.cell? ⟨w4.heap.size, 2, none⟩ = some (.int .i64 F.C) from ⟨e.cell (dcell_box w4 [.int .i64 F.A, .int .i64 F.B, .int .i64 F.C] 45 0 _ rfl), e.cell (dcell_box w4 [.int .i64 F.A, .int .i64 F.B, .int .i64 F.C] 45 1 _ rfl), e.cell (dcell_box w4 [.int .i64 F.A, .int .i64 F.B, .int .i64 F.C] 45 2 _ rfl)⟩)
    go_wp2_with fail
    have hm1 : fr < fr + (to - fr + 1) / 2 := by omega
    have hm2 : fr + (to - fr + 1) / 2 ≤ to := by omega
    generalize fr + (to - fr + 1) / 2 = m at *
    obtain ⟨ho1, ho2, ⟨hA, hB⟩, ⟨a0, b0⟩, a1, b1⟩ := HMID.out m hm1 hm2
    have HFA := Lib.hid (HF.out fr m)
    have HFB := Lib.hid (HF.out m to)
    rw [ho1] at HFA
    rw [ho2] at HFB
    clear ho1 ho2 HMID HF
    generalize overU xs fr m = Ua at *
    generalize overU xs m to = Ub at *
    refine (HFA.out _ (HE.out.trans (E4.out.alloc _))).mono ?_
    rintro e w5 ⟨rfl, hb5⟩
    have X5 := Lib.hid ((X4.out.alloc (.cells #[.int .i64 F.A, .int .i64 F.B, .int .i64 F.C] 45)).trans hb5)
    have E5 := Lib.hid ((E4.out.alloc (.cells #[.int .i64 F.A, .int .i64 F.B, .int .i64 F.C] 45)).trans hb5)
    have Y5 := Lib.hid hb5
    clear hb5 p0 v0 v1 v2 hlp hlv u0 u1 u2 hlu
    obtain ⟨p0, v0, v1, v2⟩ := HBOX.out _ E5.out
    have hlp := lt_of_cell p0
    clear v0 v1 v2
    have HAX := Lib.hid (fun (u : World) (e : Ext (w5.alloc (.cells #[.int .i64 Ua.A, .int .i64 Ua.B, .int .i64 Ua.C] 45)) u) => show u.cell? ⟨w5.heap.size, 0, none⟩ = some (.int .i64 Ua.A) ∧ u.cell? ⟨w5.heap.size, 1, none⟩ = some (.int .i64 Ua.B) ∧ u.cell? ⟨w5.heap.size, 2, none⟩ = some (.int .i64 Ua.C) from ⟨e.cell (dcell_box w5 [.int .i64 Ua.A, .int .i64 Ua.B, .int .i64 Ua.C] 45 0 _ rfl), e.cell (dcell_box w5 [.int .i64 Ua.A, .int .i64 Ua.B, .int .i64 Ua.C] 45 1 _ rfl), e.cell (dcell_box w5 [.int .i64 Ua.A, .int .i64 Ua.B, .int .i64 Ua.C] 45 2 _ rfl)⟩)
    go_wp2_with fail
    refine (HFB.out _ (HE.out.trans (E5.out.alloc _))).mono ?_
    rintro e w6 ⟨rfl, hb6⟩
    have E6 := Lib.hid ((E5.out.alloc (.cells #[.int .i64 Ua.A, .int .i64 Ua.B, .int .i64 Ua.C] 45)).trans hb6)
    have Y6 := Lib.hid ((Y5.out.alloc (.cells #[.int .i64 Ua.A, .int .i64 Ua.B, .int .i64 Ua.C] 45)).trans hb6)
    have HA6 := Lib.hid hb6
    clear hb6 p0 hlp
    obtain ⟨f0', f1, f2⟩ := HFX.out _ Y6.out
    obtain ⟨a0', a1', a2⟩ := HAX.out _ HA6.out
    have hlf := lt_of_cell f0'
    have hla := lt_of_cell a0'
    go_wp2
    exact ret_bool rfl rfl rfl rfl (HB1.out.trans (HE.out.trans (E6.out.alloc _)))
end Go.Proofs.Ytbfambeoboiifaa
