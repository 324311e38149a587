/- The law FnExactMayHold returns true: the walk. Written by genlaw.py. -/
import Derived.Test.YtmnghgacglppeaaLaw
import Derived.Test.YtmnghgacglppeaaMayHold
import Derived.Deep.RegionHeld3
namespace Go.Proofs.Ytmnghgacglppeaa
open Go.RowKit
set_option linter.unusedVariables false
set_option maxHeartbeats 4000000 in
set_option maxRecDepth 10000 in
theorem FnExactMayHold_c (w : World) (A0 : Option Addr) (n0 c0 : Nat) (x0 : List Quota) (h0 : SlAt RQuota 6 w A0 n0 x0) (hn0 : n0 ≤ maxLen) (A1 : Option Addr) (n1 c1 : Nat) (x1 : List Hold) (h1 : SlAt RHold 12 w A1 n1 x1) (hn1 : n1 ≤ maxLen) (x2 : Hold) (hi2 : x2.ok) : Calls Try.prog 8 #[.slice A0 n0 c0, .slice A1 n1 c1, .agg #[.string x2.Name, .int .i64 x2.Job.Id, .int .i64 x2.Job.Prio, .int .i64 x2.Job.Nodes, .int .i64 x2.Job.Need.A, .int .i64 x2.Job.Need.B, .int .i64 x2.Job.Need.C, .int .i64 x2.Job.Lic.A, .int .i64 x2.Job.Lic.B, .int .i64 x2.Job.Lic.C, .int .i64 x2.Job.Wall, .int .i64 x2.Job.Level]] w (Ret w (.bool true)) := by
  obtain rfl := h0.len
  obtain rfl := h1.len
  go_enter Try.func8, Try.ntmps8
  have hb1 : Ext w (w.alloc (.cells #[.string x2.Name, .int .i64 x2.Job.Id, .int .i64 x2.Job.Prio, .int .i64 x2.Job.Nodes, .int .i64 x2.Job.Need.A, .int .i64 x2.Job.Need.B, .int .i64 x2.Job.Need.C, .int .i64 x2.Job.Lic.A, .int .i64 x2.Job.Lic.B, .int .i64 x2.Job.Lic.C, .int .i64 x2.Job.Wall, .int .i64 x2.Job.Level] 51)) := (Ext.refl _).alloc _
  go_wp2_with fail
  refine (szQuotaS_c x0 _ _ _ 1048576 _ (h0.ext (Flat.mono _ _) hb1) hn0 (by omega) (by omega)).mono ?_
  rintro e w2 ⟨rfl, hb2⟩
  rcases szSM_cases (fun x : Quota => x.Name.size) x0 1048576 with hz0 | ⟨hz0, hle0, hl0⟩
  · have hz : decide (szSM (fun x : Quota => x.Name.size) x0 1048576 < 0) = true := by simpa using hz0
    clear hz0
    go_wp2
    exact ret_is (by simp [results, Try.results8, go_sem]) rfl (hb1.trans hb2)
  have hz : decide (szSM (fun x : Quota => x.Name.size) x0 1048576 < 0) = false := by simpa using hz0
  have hg0 : 0 ≤ szSM (fun x : Quota => x.Name.size) x0 1048576 ∧ szSM (fun x : Quota => x.Name.size) x0 1048576 ≤ 1048576 := ⟨by omega, by omega⟩
  clear hl0 hz0
  generalize szSM (fun x : Quota => x.Name.size) x0 1048576 = lf0 at *
  obtain ⟨hg0, hl0⟩ := hg0
  have hle0 : x0.length ≤ 1048576 := by omega
  go_wp2_with fail
  refine (szHoldS_c x1 _ _ _ lf0 _ (h1.ext (Flat.mono _ _) (hb1.trans hb2)) hn1 (by omega) (by omega)).mono ?_
  rintro e w3 ⟨rfl, hb3⟩
  rcases szSM_cases (fun x : Hold => x.Name.size) x1 lf0 with hz1 | ⟨hz1, hle1, hl1⟩
  · have hz : decide (szSM (fun x : Hold => x.Name.size) x1 lf0 < 0) = true := by simpa using hz1
    clear hz1
    go_wp2
    exact ret_is (by simp [results, Try.results8, go_sem]) rfl ((hb1.trans hb2).trans hb3)
  have hz : decide (szSM (fun x : Hold => x.Name.size) x1 lf0 < 0) = false := by simpa using hz1
  have hg1 : 0 ≤ szSM (fun x : Hold => x.Name.size) x1 lf0 ∧ szSM (fun x : Hold => x.Name.size) x1 lf0 ≤ lf0 := ⟨by omega, by omega⟩
  clear hl1 hz1
  generalize szSM (fun x : Hold => x.Name.size) x1 lf0 = lf1 at *
  obtain ⟨hg1, hl1⟩ := hg1
  have hle1 : x1.length ≤ 1048576 := by omega
  have kp2_0 := (hb2.trans hb3).cell (law_box_at w (w.heap.size) (by simp) [.string x2.Name, .int .i64 x2.Job.Id, .int .i64 x2.Job.Prio, .int .i64 x2.Job.Nodes, .int .i64 x2.Job.Need.A, .int .i64 x2.Job.Need.B, .int .i64 x2.Job.Need.C, .int .i64 x2.Job.Lic.A, .int .i64 x2.Job.Lic.B, .int .i64 x2.Job.Lic.C, .int .i64 x2.Job.Wall, .int .i64 x2.Job.Level] 51 0 _ rfl)
  have kp2_1 := (hb2.trans hb3).cell (law_box_at w (w.heap.size) (by simp) [.string x2.Name, .int .i64 x2.Job.Id, .int .i64 x2.Job.Prio, .int .i64 x2.Job.Nodes, .int .i64 x2.Job.Need.A, .int .i64 x2.Job.Need.B, .int .i64 x2.Job.Need.C, .int .i64 x2.Job.Lic.A, .int .i64 x2.Job.Lic.B, .int .i64 x2.Job.Lic.C, .int .i64 x2.Job.Wall, .int .i64 x2.Job.Level] 51 1 _ rfl)
  have kp2_2 := (hb2.trans hb3).cell (law_box_at w (w.heap.size) (by simp) [.string x2.Name, .int .i64 x2.Job.Id, .int .i64 x2.Job.Prio, .int .i64 x2.Job.Nodes, .int .i64 x2.Job.Need.A, .int .i64 x2.Job.Need.B, .int .i64 x2.Job.Need.C, .int .i64 x2.Job.Lic.A, .int .i64 x2.Job.Lic.B, .int .i64 x2.Job.Lic.C, .int .i64 x2.Job.Wall, .int .i64 x2.Job.Level] 51 2 _ rfl)
  have kp2_3 := (hb2.trans hb3).cell (law_box_at w (w.heap.size) (by simp) [.string x2.Name, .int .i64 x2.Job.Id, .int .i64 x2.Job.Prio, .int .i64 x2.Job.Nodes, .int .i64 x2.Job.Need.A, .int .i64 x2.Job.Need.B, .int .i64 x2.Job.Need.C, .int .i64 x2.Job.Lic.A, .int .i64 x2.Job.Lic.B, .int .i64 x2.Job.Lic.C, .int .i64 x2.Job.Wall, .int .i64 x2.Job.Level] 51 3 _ rfl)
  have kp2_4 := (hb2.trans hb3).cell (law_box_at w (w.heap.size) (by simp) [.string x2.Name, .int .i64 x2.Job.Id, .int .i64 x2.Job.Prio, .int .i64 x2.Job.Nodes, .int .i64 x2.Job.Need.A, .int .i64 x2.Job.Need.B, .int .i64 x2.Job.Need.C, .int .i64 x2.Job.Lic.A, .int .i64 x2.Job.Lic.B, .int .i64 x2.Job.Lic.C, .int .i64 x2.Job.Wall, .int .i64 x2.Job.Level] 51 4 _ rfl)
  have kp2_5 := (hb2.trans hb3).cell (law_box_at w (w.heap.size) (by simp) [.string x2.Name, .int .i64 x2.Job.Id, .int .i64 x2.Job.Prio, .int .i64 x2.Job.Nodes, .int .i64 x2.Job.Need.A, .int .i64 x2.Job.Need.B, .int .i64 x2.Job.Need.C, .int .i64 x2.Job.Lic.A, .int .i64 x2.Job.Lic.B, .int .i64 x2.Job.Lic.C, .int .i64 x2.Job.Wall, .int .i64 x2.Job.Level] 51 5 _ rfl)
  have kp2_6 := (hb2.trans hb3).cell (law_box_at w (w.heap.size) (by simp) [.string x2.Name, .int .i64 x2.Job.Id, .int .i64 x2.Job.Prio, .int .i64 x2.Job.Nodes, .int .i64 x2.Job.Need.A, .int .i64 x2.Job.Need.B, .int .i64 x2.Job.Need.C, .int .i64 x2.Job.Lic.A, .int .i64 x2.Job.Lic.B, .int .i64 x2.Job.Lic.C, .int .i64 x2.Job.Wall, .int .i64 x2.Job.Level] 51 6 _ rfl)
  have kp2_7 := (hb2.trans hb3).cell (law_box_at w (w.heap.size) (by simp) [.string x2.Name, .int .i64 x2.Job.Id, .int .i64 x2.Job.Prio, .int .i64 x2.Job.Nodes, .int .i64 x2.Job.Need.A, .int .i64 x2.Job.Need.B, .int .i64 x2.Job.Need.C, .int .i64 x2.Job.Lic.A, .int .i64 x2.Job.Lic.B, .int .i64 x2.Job.Lic.C, .int .i64 x2.Job.Wall, .int .i64 x2.Job.Level] 51 7 _ rfl)
  have kp2_8 := (hb2.trans hb3).cell (law_box_at w (w.heap.size) (by simp) [.string x2.Name, .int .i64 x2.Job.Id, .int .i64 x2.Job.Prio, .int .i64 x2.Job.Nodes, .int .i64 x2.Job.Need.A, .int .i64 x2.Job.Need.B, .int .i64 x2.Job.Need.C, .int .i64 x2.Job.Lic.A, .int .i64 x2.Job.Lic.B, .int .i64 x2.Job.Lic.C, .int .i64 x2.Job.Wall, .int .i64 x2.Job.Level] 51 8 _ rfl)
  have kp2_9 := (hb2.trans hb3).cell (law_box_at w (w.heap.size) (by simp) [.string x2.Name, .int .i64 x2.Job.Id, .int .i64 x2.Job.Prio, .int .i64 x2.Job.Nodes, .int .i64 x2.Job.Need.A, .int .i64 x2.Job.Need.B, .int .i64 x2.Job.Need.C, .int .i64 x2.Job.Lic.A, .int .i64 x2.Job.Lic.B, .int .i64 x2.Job.Lic.C, .int .i64 x2.Job.Wall, .int .i64 x2.Job.Level] 51 9 _ rfl)
  have kp2_10 := (hb2.trans hb3).cell (law_box_at w (w.heap.size) (by simp) [.string x2.Name, .int .i64 x2.Job.Id, .int .i64 x2.Job.Prio, .int .i64 x2.Job.Nodes, .int .i64 x2.Job.Need.A, .int .i64 x2.Job.Need.B, .int .i64 x2.Job.Need.C, .int .i64 x2.Job.Lic.A, .int .i64 x2.Job.Lic.B, .int .i64 x2.Job.Lic.C, .int .i64 x2.Job.Wall, .int .i64 x2.Job.Level] 51 10 _ rfl)
  have kp2_11 := (hb2.trans hb3).cell (law_box_at w (w.heap.size) (by simp) [.string x2.Name, .int .i64 x2.Job.Id, .int .i64 x2.Job.Prio, .int .i64 x2.Job.Nodes, .int .i64 x2.Job.Need.A, .int .i64 x2.Job.Need.B, .int .i64 x2.Job.Need.C, .int .i64 x2.Job.Lic.A, .int .i64 x2.Job.Lic.B, .int .i64 x2.Job.Lic.C, .int .i64 x2.Job.Wall, .int .i64 x2.Job.Level] 51 11 _ rfl)
  go_wp2_with fail
  refine (szHold_c x2 lf1 _ hi2.1 (by omega) (by omega)).mono ?_
  rintro e w4 ⟨rfl, hb4⟩
  (try clear kp2_0 kp2_1 kp2_2 kp2_3 kp2_4 kp2_5 kp2_6 kp2_7 kp2_8 kp2_9 kp2_10 kp2_11)
  rcases szOne_cases x2.Name.size lf1 with ⟨hz2, hl2⟩ | ⟨hz2, hle2, hl2⟩
  · have hz : decide (szOne x2.Name.size lf1 < 0) = true := by simpa using hz2
    clear hl2 hz2
    go_wp2
    exact ret_is (by simp [results, Try.results8, go_sem]) rfl (((hb1.trans hb2).trans hb3).trans hb4)
  have hz : decide (szOne x2.Name.size lf1 < 0) = false := by simpa using hz2
  have hg2 : 0 ≤ szOne x2.Name.size lf1 ∧ szOne x2.Name.size lf1 ≤ lf1 := ⟨by omega, by omega⟩
  clear hl2 hz2
  generalize szOne x2.Name.size lf1 = lf2 at *
  obtain ⟨hg2, hl2⟩ := hg2
  have cI := fun (A0 : Option Addr) (c0 : Nat) (A1 : Option Addr) (c1 : Nat) (u : World) (h0 : SlAt RQuota 6 u A0 x0.length x0) (h1 : SlAt RHold 12 u A1 x1.length x1) (hcap1 : x1.length ≤ c1) => MayHold_c x0 x1 x2 A0 x0.length c0 A1 x1.length c1 u h0 hn0 h1 hn1 hcap1 hi2
  have cS := fun (A0 : Option Addr) (c0 : Nat) (A1 : Option Addr) (c1 : Nat) (u : World) (h0 : SlAt RQuota 6 u A0 x0.length x0) (h1 : SlAt RHold 12 u A1 x1.length x1) (hcap1 : x1.length ≤ c1) => sMayHold_c x0 x1 x2 A0 x0.length c0 A1 x1.length c1 u h0 hn0 h1 hn1 hcap1 hi2
  generalize mayHoldB x0 x1 x2 = y0 at cI cS
  have CI := Lib.hid cI
  have CS := Lib.hid cS
  clear cI cS
  have kp2_0 := ((hb2.trans hb3).trans hb4).cell (law_box_at w (w.heap.size) (by simp) [.string x2.Name, .int .i64 x2.Job.Id, .int .i64 x2.Job.Prio, .int .i64 x2.Job.Nodes, .int .i64 x2.Job.Need.A, .int .i64 x2.Job.Need.B, .int .i64 x2.Job.Need.C, .int .i64 x2.Job.Lic.A, .int .i64 x2.Job.Lic.B, .int .i64 x2.Job.Lic.C, .int .i64 x2.Job.Wall, .int .i64 x2.Job.Level] 51 0 _ rfl)
  have kp2_1 := ((hb2.trans hb3).trans hb4).cell (law_box_at w (w.heap.size) (by simp) [.string x2.Name, .int .i64 x2.Job.Id, .int .i64 x2.Job.Prio, .int .i64 x2.Job.Nodes, .int .i64 x2.Job.Need.A, .int .i64 x2.Job.Need.B, .int .i64 x2.Job.Need.C, .int .i64 x2.Job.Lic.A, .int .i64 x2.Job.Lic.B, .int .i64 x2.Job.Lic.C, .int .i64 x2.Job.Wall, .int .i64 x2.Job.Level] 51 1 _ rfl)
  have kp2_2 := ((hb2.trans hb3).trans hb4).cell (law_box_at w (w.heap.size) (by simp) [.string x2.Name, .int .i64 x2.Job.Id, .int .i64 x2.Job.Prio, .int .i64 x2.Job.Nodes, .int .i64 x2.Job.Need.A, .int .i64 x2.Job.Need.B, .int .i64 x2.Job.Need.C, .int .i64 x2.Job.Lic.A, .int .i64 x2.Job.Lic.B, .int .i64 x2.Job.Lic.C, .int .i64 x2.Job.Wall, .int .i64 x2.Job.Level] 51 2 _ rfl)
  have kp2_3 := ((hb2.trans hb3).trans hb4).cell (law_box_at w (w.heap.size) (by simp) [.string x2.Name, .int .i64 x2.Job.Id, .int .i64 x2.Job.Prio, .int .i64 x2.Job.Nodes, .int .i64 x2.Job.Need.A, .int .i64 x2.Job.Need.B, .int .i64 x2.Job.Need.C, .int .i64 x2.Job.Lic.A, .int .i64 x2.Job.Lic.B, .int .i64 x2.Job.Lic.C, .int .i64 x2.Job.Wall, .int .i64 x2.Job.Level] 51 3 _ rfl)
  have kp2_4 := ((hb2.trans hb3).trans hb4).cell (law_box_at w (w.heap.size) (by simp) [.string x2.Name, .int .i64 x2.Job.Id, .int .i64 x2.Job.Prio, .int .i64 x2.Job.Nodes, .int .i64 x2.Job.Need.A, .int .i64 x2.Job.Need.B, .int .i64 x2.Job.Need.C, .int .i64 x2.Job.Lic.A, .int .i64 x2.Job.Lic.B, .int .i64 x2.Job.Lic.C, .int .i64 x2.Job.Wall, .int .i64 x2.Job.Level] 51 4 _ rfl)
  have kp2_5 := ((hb2.trans hb3).trans hb4).cell (law_box_at w (w.heap.size) (by simp) [.string x2.Name, .int .i64 x2.Job.Id, .int .i64 x2.Job.Prio, .int .i64 x2.Job.Nodes, .int .i64 x2.Job.Need.A, .int .i64 x2.Job.Need.B, .int .i64 x2.Job.Need.C, .int .i64 x2.Job.Lic.A, .int .i64 x2.Job.Lic.B, .int .i64 x2.Job.Lic.C, .int .i64 x2.Job.Wall, .int .i64 x2.Job.Level] 51 5 _ rfl)
  have kp2_6 := ((hb2.trans hb3).trans hb4).cell (law_box_at w (w.heap.size) (by simp) [.string x2.Name, .int .i64 x2.Job.Id, .int .i64 x2.Job.Prio, .int .i64 x2.Job.Nodes, .int .i64 x2.Job.Need.A, .int .i64 x2.Job.Need.B, .int .i64 x2.Job.Need.C, .int .i64 x2.Job.Lic.A, .int .i64 x2.Job.Lic.B, .int .i64 x2.Job.Lic.C, .int .i64 x2.Job.Wall, .int .i64 x2.Job.Level] 51 6 _ rfl)
  have kp2_7 := ((hb2.trans hb3).trans hb4).cell (law_box_at w (w.heap.size) (by simp) [.string x2.Name, .int .i64 x2.Job.Id, .int .i64 x2.Job.Prio, .int .i64 x2.Job.Nodes, .int .i64 x2.Job.Need.A, .int .i64 x2.Job.Need.B, .int .i64 x2.Job.Need.C, .int .i64 x2.Job.Lic.A, .int .i64 x2.Job.Lic.B, .int .i64 x2.Job.Lic.C, .int .i64 x2.Job.Wall, .int .i64 x2.Job.Level] 51 7 _ rfl)
  have kp2_8 := ((hb2.trans hb3).trans hb4).cell (law_box_at w (w.heap.size) (by simp) [.string x2.Name, .int .i64 x2.Job.Id, .int .i64 x2.Job.Prio, .int .i64 x2.Job.Nodes, .int .i64 x2.Job.Need.A, .int .i64 x2.Job.Need.B, .int .i64 x2.Job.Need.C, .int .i64 x2.Job.Lic.A, .int .i64 x2.Job.Lic.B, .int .i64 x2.Job.Lic.C, .int .i64 x2.Job.Wall, .int .i64 x2.Job.Level] 51 8 _ rfl)
  have kp2_9 := ((hb2.trans hb3).trans hb4).cell (law_box_at w (w.heap.size) (by simp) [.string x2.Name, .int .i64 x2.Job.Id, .int .i64 x2.Job.Prio, .int .i64 x2.Job.Nodes, .int .i64 x2.Job.Need.A, .int .i64 x2.Job.Need.B, .int .i64 x2.Job.Need.C, .int .i64 x2.Job.Lic.A, .int .i64 x2.Job.Lic.B, .int .i64 x2.Job.Lic.C, .int .i64 x2.Job.Wall, .int .i64 x2.Job.Level] 51 9 _ rfl)
  have kp2_10 := ((hb2.trans hb3).trans hb4).cell (law_box_at w (w.heap.size) (by simp) [.string x2.Name, .int .i64 x2.Job.Id, .int .i64 x2.Job.Prio, .int .i64 x2.Job.Nodes, .int .i64 x2.Job.Need.A, .int .i64 x2.Job.Need.B, .int .i64 x2.Job.Need.C, .int .i64 x2.Job.Lic.A, .int .i64 x2.Job.Lic.B, .int .i64 x2.Job.Lic.C, .int .i64 x2.Job.Wall, .int .i64 x2.Job.Level] 51 10 _ rfl)
  have kp2_11 := ((hb2.trans hb3).trans hb4).cell (law_box_at w (w.heap.size) (by simp) [.string x2.Name, .int .i64 x2.Job.Id, .int .i64 x2.Job.Prio, .int .i64 x2.Job.Nodes, .int .i64 x2.Job.Need.A, .int .i64 x2.Job.Need.B, .int .i64 x2.Job.Need.C, .int .i64 x2.Job.Lic.A, .int .i64 x2.Job.Lic.B, .int .i64 x2.Job.Lic.C, .int .i64 x2.Job.Wall, .int .i64 x2.Job.Level] 51 11 _ rfl)
  go_wp2
  have hb5 : Ext w4 w4.drew := (Ext.refl _).drew
  have KD0 := Lib.hid (show w4.drew.cell? ⟨w.heap.size, 0, none⟩ = some (.string x2.Name) from kp2_0)
  have KD1 := Lib.hid (show w4.drew.cell? ⟨w.heap.size, 1, none⟩ = some (.int .i64 x2.Job.Id) from kp2_1)
  have KD2 := Lib.hid (show w4.drew.cell? ⟨w.heap.size, 2, none⟩ = some (.int .i64 x2.Job.Prio) from kp2_2)
  have KD3 := Lib.hid (show w4.drew.cell? ⟨w.heap.size, 3, none⟩ = some (.int .i64 x2.Job.Nodes) from kp2_3)
  have KD4 := Lib.hid (show w4.drew.cell? ⟨w.heap.size, 4, none⟩ = some (.int .i64 x2.Job.Need.A) from kp2_4)
  have KD5 := Lib.hid (show w4.drew.cell? ⟨w.heap.size, 5, none⟩ = some (.int .i64 x2.Job.Need.B) from kp2_5)
  have KD6 := Lib.hid (show w4.drew.cell? ⟨w.heap.size, 6, none⟩ = some (.int .i64 x2.Job.Need.C) from kp2_6)
  have KD7 := Lib.hid (show w4.drew.cell? ⟨w.heap.size, 7, none⟩ = some (.int .i64 x2.Job.Lic.A) from kp2_7)
  have KD8 := Lib.hid (show w4.drew.cell? ⟨w.heap.size, 8, none⟩ = some (.int .i64 x2.Job.Lic.B) from kp2_8)
  have KD9 := Lib.hid (show w4.drew.cell? ⟨w.heap.size, 9, none⟩ = some (.int .i64 x2.Job.Lic.C) from kp2_9)
  have KD10 := Lib.hid (show w4.drew.cell? ⟨w.heap.size, 10, none⟩ = some (.int .i64 x2.Job.Wall) from kp2_10)
  have KD11 := Lib.hid (show w4.drew.cell? ⟨w.heap.size, 11, none⟩ = some (.int .i64 x2.Job.Level) from kp2_11)
  clear kp2_0 kp2_1 kp2_2 kp2_3 kp2_4 kp2_5 kp2_6 kp2_7 kp2_8 kp2_9 kp2_10 kp2_11
  go_region_held3 (fun u => u.cell? ⟨w.heap.size, 0, none⟩ = some (.string x2.Name) ∧ u.cell? ⟨w.heap.size, 1, none⟩ = some (.int .i64 x2.Job.Id) ∧ u.cell? ⟨w.heap.size, 2, none⟩ = some (.int .i64 x2.Job.Prio) ∧ u.cell? ⟨w.heap.size, 3, none⟩ = some (.int .i64 x2.Job.Nodes) ∧ u.cell? ⟨w.heap.size, 4, none⟩ = some (.int .i64 x2.Job.Need.A) ∧ u.cell? ⟨w.heap.size, 5, none⟩ = some (.int .i64 x2.Job.Need.B) ∧ u.cell? ⟨w.heap.size, 6, none⟩ = some (.int .i64 x2.Job.Need.C) ∧ u.cell? ⟨w.heap.size, 7, none⟩ = some (.int .i64 x2.Job.Lic.A) ∧ u.cell? ⟨w.heap.size, 8, none⟩ = some (.int .i64 x2.Job.Lic.B) ∧ u.cell? ⟨w.heap.size, 9, none⟩ = some (.int .i64 x2.Job.Lic.C) ∧ u.cell? ⟨w.heap.size, 10, none⟩ = some (.int .i64 x2.Job.Wall) ∧ u.cell? ⟨w.heap.size, 11, none⟩ = some (.int .i64 x2.Job.Level)) ((refine ⟨?_, ?_, ?_, ?_, ?_, ?_, ?_, ?_, ?_, ?_, ?_, ?_⟩ <;> first | assumption | exact KD0.out | exact KD1.out | exact KD2.out | exact KD3.out | exact KD4.out | exact KD5.out | exact KD6.out | exact KD7.out | exact KD8.out | exact KD9.out | exact KD10.out | exact KD11.out)) (first | (go_at_call 11; refine (toQuotaS_c x0 _ _ _ _ (by exact (h0.ext (Flat.mono _ _) ((((hb1.trans hb2).trans hb3).trans hb4).trans hb5))) hle0).mono ?_; rintro e w6 ⟨A6, c6, rfl, hq6, hb6⟩; have ho6 := OwnIn.of hq6; have K1_0 := hb6.cell KD0.out; have K1_1 := hb6.cell KD1.out; have K1_2 := hb6.cell KD2.out; have K1_3 := hb6.cell KD3.out; have K1_4 := hb6.cell KD4.out; have K1_5 := hb6.cell KD5.out; have K1_6 := hb6.cell KD6.out; have K1_7 := hb6.cell KD7.out; have K1_8 := hb6.cell KD8.out; have K1_9 := hb6.cell KD9.out; have K1_10 := hb6.cell KD10.out; have K1_11 := hb6.cell KD11.out) | (go_at_call 16; refine (toHoldS_c x1 _ _ _ _ (by exact (h1.ext (Flat.mono _ _) (((((hb1.trans hb2).trans hb3).trans hb4).trans hb5).trans hb6))) hle1).mono ?_; rintro e w7 ⟨A7, c7, rfl, hq7, hb7⟩; have ho7 := OwnIn.of hq7; have K2_0 := hb7.cell K1_0; have K2_1 := hb7.cell K1_1; have K2_2 := hb7.cell K1_2; have K2_3 := hb7.cell K1_3; have K2_4 := hb7.cell K1_4; have K2_5 := hb7.cell K1_5; have K2_6 := hb7.cell K1_6; have K2_7 := hb7.cell K1_7; have K2_8 := hb7.cell K1_8; have K2_9 := hb7.cell K1_9; have K2_10 := hb7.cell K1_10; have K2_11 := hb7.cell K1_11) | (go_at_call 30; refine (toHold_c x2 _).mono ?_; rintro e w8 ⟨rfl, hb8⟩; have K3_0 := hb8.cell K2_0; have K3_1 := hb8.cell K2_1; have K3_2 := hb8.cell K2_2; have K3_3 := hb8.cell K2_3; have K3_4 := hb8.cell K2_4; have K3_5 := hb8.cell K2_5; have K3_6 := hb8.cell K2_6; have K3_7 := hb8.cell K2_7; have K3_8 := hb8.cell K2_8; have K3_9 := hb8.cell K2_9; have K3_10 := hb8.cell K2_10; have K3_11 := hb8.cell K2_11) | (go_at_call 29; refine (CS.out _ _ _ _ _ (by exact ((ho6.ext (Flat.mono _ _) hb7).ext (Flat.mono _ _) hb8).sl) (by exact (ho7.ext (Flat.mono _ _) hb8).sl) (by exact (ho7.ext (Flat.mono _ _) hb8).cap)).mono ?_; rintro e w9 ⟨rfl, hb9⟩; have K4_0 := hb9.cell K3_0; have K4_1 := hb9.cell K3_1; have K4_2 := hb9.cell K3_2; have K4_3 := hb9.cell K3_3; have K4_4 := hb9.cell K3_4; have K4_5 := hb9.cell K3_5; have K4_6 := hb9.cell K3_6; have K4_7 := hb9.cell K3_7; have K4_8 := hb9.cell K3_8; have K4_9 := hb9.cell K3_9; have K4_10 := hb9.cell K3_10; have K4_11 := hb9.cell K3_11))
  clear KD0 KD1 KD2 KD3 KD4 KD5 KD6 KD7 KD8 KD9 KD10 KD11 K1_0 K1_1 K1_2 K1_3 K1_4 K1_5 K1_6 K1_7 K1_8 K1_9 K1_10 K1_11 K2_0 K2_1 K2_2 K2_3 K2_4 K2_5 K2_6 K2_7 K2_8 K2_9 K2_10 K2_11 K3_0 K3_1 K3_2 K3_3 K3_4 K3_5 K3_6 K3_7 K3_8 K3_9 K3_10 K3_11 K4_0 K4_1 K4_2 K4_3 K4_4 K4_5 K4_6 K4_7 K4_8 K4_9 K4_10 K4_11
  clear hq6 hq7
  go_wp2_with fail
  refine (toQuotaS_c x0 _ _ _ _ (h0.ext (Flat.mono _ _) ((((((((hb1.trans hb2).trans hb3).trans hb4).trans hb5).trans hb6).trans hb7).trans hb8).trans hb9)) hle0).mono ?_
  rintro e w10 ⟨A10, c10, rfl, hq10, hb10⟩
  have ho10 := OwnIn.of hq10
  clear hq10
  go_wp2_with fail
  refine (toHoldS_c x1 _ _ _ _ (h1.ext (Flat.mono _ _) (((((((((hb1.trans hb2).trans hb3).trans hb4).trans hb5).trans hb6).trans hb7).trans hb8).trans hb9).trans hb10)) hle1).mono ?_
  rintro e w11 ⟨A11, c11, rfl, hq11, hb11⟩
  have ho11 := OwnIn.of hq11
  clear hq11
  have kp2_0 := (((((((((hb2.trans hb3).trans hb4).trans hb5).trans hb6).trans hb7).trans hb8).trans hb9).trans hb10).trans hb11).cell (law_box_at w (w.heap.size) (by simp) [.string x2.Name, .int .i64 x2.Job.Id, .int .i64 x2.Job.Prio, .int .i64 x2.Job.Nodes, .int .i64 x2.Job.Need.A, .int .i64 x2.Job.Need.B, .int .i64 x2.Job.Need.C, .int .i64 x2.Job.Lic.A, .int .i64 x2.Job.Lic.B, .int .i64 x2.Job.Lic.C, .int .i64 x2.Job.Wall, .int .i64 x2.Job.Level] 51 0 _ rfl)
  have kp2_1 := (((((((((hb2.trans hb3).trans hb4).trans hb5).trans hb6).trans hb7).trans hb8).trans hb9).trans hb10).trans hb11).cell (law_box_at w (w.heap.size) (by simp) [.string x2.Name, .int .i64 x2.Job.Id, .int .i64 x2.Job.Prio, .int .i64 x2.Job.Nodes, .int .i64 x2.Job.Need.A, .int .i64 x2.Job.Need.B, .int .i64 x2.Job.Need.C, .int .i64 x2.Job.Lic.A, .int .i64 x2.Job.Lic.B, .int .i64 x2.Job.Lic.C, .int .i64 x2.Job.Wall, .int .i64 x2.Job.Level] 51 1 _ rfl)
  have kp2_2 := (((((((((hb2.trans hb3).trans hb4).trans hb5).trans hb6).trans hb7).trans hb8).trans hb9).trans hb10).trans hb11).cell (law_box_at w (w.heap.size) (by simp) [.string x2.Name, .int .i64 x2.Job.Id, .int .i64 x2.Job.Prio, .int .i64 x2.Job.Nodes, .int .i64 x2.Job.Need.A, .int .i64 x2.Job.Need.B, .int .i64 x2.Job.Need.C, .int .i64 x2.Job.Lic.A, .int .i64 x2.Job.Lic.B, .int .i64 x2.Job.Lic.C, .int .i64 x2.Job.Wall, .int .i64 x2.Job.Level] 51 2 _ rfl)
  have kp2_3 := (((((((((hb2.trans hb3).trans hb4).trans hb5).trans hb6).trans hb7).trans hb8).trans hb9).trans hb10).trans hb11).cell (law_box_at w (w.heap.size) (by simp) [.string x2.Name, .int .i64 x2.Job.Id, .int .i64 x2.Job.Prio, .int .i64 x2.Job.Nodes, .int .i64 x2.Job.Need.A, .int .i64 x2.Job.Need.B, .int .i64 x2.Job.Need.C, .int .i64 x2.Job.Lic.A, .int .i64 x2.Job.Lic.B, .int .i64 x2.Job.Lic.C, .int .i64 x2.Job.Wall, .int .i64 x2.Job.Level] 51 3 _ rfl)
  have kp2_4 := (((((((((hb2.trans hb3).trans hb4).trans hb5).trans hb6).trans hb7).trans hb8).trans hb9).trans hb10).trans hb11).cell (law_box_at w (w.heap.size) (by simp) [.string x2.Name, .int .i64 x2.Job.Id, .int .i64 x2.Job.Prio, .int .i64 x2.Job.Nodes, .int .i64 x2.Job.Need.A, .int .i64 x2.Job.Need.B, .int .i64 x2.Job.Need.C, .int .i64 x2.Job.Lic.A, .int .i64 x2.Job.Lic.B, .int .i64 x2.Job.Lic.C, .int .i64 x2.Job.Wall, .int .i64 x2.Job.Level] 51 4 _ rfl)
  have kp2_5 := (((((((((hb2.trans hb3).trans hb4).trans hb5).trans hb6).trans hb7).trans hb8).trans hb9).trans hb10).trans hb11).cell (law_box_at w (w.heap.size) (by simp) [.string x2.Name, .int .i64 x2.Job.Id, .int .i64 x2.Job.Prio, .int .i64 x2.Job.Nodes, .int .i64 x2.Job.Need.A, .int .i64 x2.Job.Need.B, .int .i64 x2.Job.Need.C, .int .i64 x2.Job.Lic.A, .int .i64 x2.Job.Lic.B, .int .i64 x2.Job.Lic.C, .int .i64 x2.Job.Wall, .int .i64 x2.Job.Level] 51 5 _ rfl)
  have kp2_6 := (((((((((hb2.trans hb3).trans hb4).trans hb5).trans hb6).trans hb7).trans hb8).trans hb9).trans hb10).trans hb11).cell (law_box_at w (w.heap.size) (by simp) [.string x2.Name, .int .i64 x2.Job.Id, .int .i64 x2.Job.Prio, .int .i64 x2.Job.Nodes, .int .i64 x2.Job.Need.A, .int .i64 x2.Job.Need.B, .int .i64 x2.Job.Need.C, .int .i64 x2.Job.Lic.A, .int .i64 x2.Job.Lic.B, .int .i64 x2.Job.Lic.C, .int .i64 x2.Job.Wall, .int .i64 x2.Job.Level] 51 6 _ rfl)
  have kp2_7 := (((((((((hb2.trans hb3).trans hb4).trans hb5).trans hb6).trans hb7).trans hb8).trans hb9).trans hb10).trans hb11).cell (law_box_at w (w.heap.size) (by simp) [.string x2.Name, .int .i64 x2.Job.Id, .int .i64 x2.Job.Prio, .int .i64 x2.Job.Nodes, .int .i64 x2.Job.Need.A, .int .i64 x2.Job.Need.B, .int .i64 x2.Job.Need.C, .int .i64 x2.Job.Lic.A, .int .i64 x2.Job.Lic.B, .int .i64 x2.Job.Lic.C, .int .i64 x2.Job.Wall, .int .i64 x2.Job.Level] 51 7 _ rfl)
  have kp2_8 := (((((((((hb2.trans hb3).trans hb4).trans hb5).trans hb6).trans hb7).trans hb8).trans hb9).trans hb10).trans hb11).cell (law_box_at w (w.heap.size) (by simp) [.string x2.Name, .int .i64 x2.Job.Id, .int .i64 x2.Job.Prio, .int .i64 x2.Job.Nodes, .int .i64 x2.Job.Need.A, .int .i64 x2.Job.Need.B, .int .i64 x2.Job.Need.C, .int .i64 x2.Job.Lic.A, .int .i64 x2.Job.Lic.B, .int .i64 x2.Job.Lic.C, .int .i64 x2.Job.Wall, .int .i64 x2.Job.Level] 51 8 _ rfl)
  have kp2_9 := (((((((((hb2.trans hb3).trans hb4).trans hb5).trans hb6).trans hb7).trans hb8).trans hb9).trans hb10).trans hb11).cell (law_box_at w (w.heap.size) (by simp) [.string x2.Name, .int .i64 x2.Job.Id, .int .i64 x2.Job.Prio, .int .i64 x2.Job.Nodes, .int .i64 x2.Job.Need.A, .int .i64 x2.Job.Need.B, .int .i64 x2.Job.Need.C, .int .i64 x2.Job.Lic.A, .int .i64 x2.Job.Lic.B, .int .i64 x2.Job.Lic.C, .int .i64 x2.Job.Wall, .int .i64 x2.Job.Level] 51 9 _ rfl)
  have kp2_10 := (((((((((hb2.trans hb3).trans hb4).trans hb5).trans hb6).trans hb7).trans hb8).trans hb9).trans hb10).trans hb11).cell (law_box_at w (w.heap.size) (by simp) [.string x2.Name, .int .i64 x2.Job.Id, .int .i64 x2.Job.Prio, .int .i64 x2.Job.Nodes, .int .i64 x2.Job.Need.A, .int .i64 x2.Job.Need.B, .int .i64 x2.Job.Need.C, .int .i64 x2.Job.Lic.A, .int .i64 x2.Job.Lic.B, .int .i64 x2.Job.Lic.C, .int .i64 x2.Job.Wall, .int .i64 x2.Job.Level] 51 10 _ rfl)
  have kp2_11 := (((((((((hb2.trans hb3).trans hb4).trans hb5).trans hb6).trans hb7).trans hb8).trans hb9).trans hb10).trans hb11).cell (law_box_at w (w.heap.size) (by simp) [.string x2.Name, .int .i64 x2.Job.Id, .int .i64 x2.Job.Prio, .int .i64 x2.Job.Nodes, .int .i64 x2.Job.Need.A, .int .i64 x2.Job.Need.B, .int .i64 x2.Job.Need.C, .int .i64 x2.Job.Lic.A, .int .i64 x2.Job.Lic.B, .int .i64 x2.Job.Lic.C, .int .i64 x2.Job.Wall, .int .i64 x2.Job.Level] 51 11 _ rfl)
  go_wp2_with fail
  refine (toHold_c x2 _).mono ?_
  rintro e w12 ⟨rfl, hb12⟩
  (try clear kp2_0 kp2_1 kp2_2 kp2_3 kp2_4 kp2_5 kp2_6 kp2_7 kp2_8 kp2_9 kp2_10 kp2_11)
  go_wp2_with fail
  refine (CI.out _ _ _ _ _ ((ho10.ext (Flat.mono _ _) hb11).ext (Flat.mono _ _) hb12).sl (ho11.ext (Flat.mono _ _) hb12).sl (ho11.ext (Flat.mono _ _) hb12).cap).mono ?_
  rintro e w13 ⟨rfl, hb13⟩
  go_wp2_with fail
  refine (toQuotaS_c x0 _ _ _ _ (h0.ext (Flat.mono _ _) ((((((((((((hb1.trans hb2).trans hb3).trans hb4).trans hb5).trans hb6).trans hb7).trans hb8).trans hb9).trans hb10).trans hb11).trans hb12).trans hb13)) hle0).mono ?_
  rintro e w14 ⟨A14, c14, rfl, hq14, hb14⟩
  have ho14 := OwnIn.of hq14
  clear hq14
  go_wp2_with fail
  refine (eqQuotaS_c x0 x0 _ _ _ _ _ _ _ ((((ho10.ext (Flat.mono _ _) hb11).ext (Flat.mono _ _) hb12).ext (Flat.mono _ _) hb13).ext (Flat.mono _ _) hb14).sl ho14.sl hn0).mono ?_
  rintro e w15 ⟨rfl, hb15⟩
  go_wp2_with fail
  refine (toHoldS_c x1 _ _ _ _ (h1.ext (Flat.mono _ _) ((((((((((((((hb1.trans hb2).trans hb3).trans hb4).trans hb5).trans hb6).trans hb7).trans hb8).trans hb9).trans hb10).trans hb11).trans hb12).trans hb13).trans hb14).trans hb15)) hle1).mono ?_
  rintro e w16 ⟨A16, c16, rfl, hq16, hb16⟩
  have ho16 := OwnIn.of hq16
  clear hq16
  go_wp2_with fail
  refine (eqHoldS_c x1 x1 _ _ _ _ _ _ _ (((((ho11.ext (Flat.mono _ _) hb12).ext (Flat.mono _ _) hb13).ext (Flat.mono _ _) hb14).ext (Flat.mono _ _) hb15).ext (Flat.mono _ _) hb16).sl ho16.sl hn1).mono ?_
  rintro e w17 ⟨rfl, hb17⟩
  go_wp2
  exact ret_is (by simp [results, Try.results8, go_sem]) rfl ((((((((((((((((hb1.trans hb2).trans hb3).trans hb4).trans hb5).trans hb6).trans hb7).trans hb8).trans hb9).trans hb10).trans hb11).trans hb12).trans hb13).trans hb14).trans hb15).trans hb16).trans hb17)
end Go.Proofs.Ytmnghgacglppeaa
