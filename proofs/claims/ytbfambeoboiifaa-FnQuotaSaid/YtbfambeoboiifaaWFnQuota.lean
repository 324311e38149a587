/- The law FnQuota returns true: the walk. Written by gq.py. -/
import Derived.Test.YtbfambeoboiifaaDrawHold3
import Derived.Test.YtbfambeoboiifaaQuotaLaw
import Derived.Deep.RegionHeld3
namespace Go.Proofs.Ytbfambeoboiifaa
open Go.RowKit
set_option linter.unusedVariables false
set_option maxHeartbeats 16000000 in
set_option maxRecDepth 20000 in
theorem FnQuota_c (w : World) (A0 : Option Addr) (n0 c0 : Nat) (x0 : List Int) (h0 : SlAt RU8 1 w A0 n0 x0) (hn0 : n0 ≤ maxLen) : Calls Try.prog 6 #[.slice A0 n0 c0] w (Ret w (.bool true)) := by
  unfold maxLen at hn0
  by_cases hbig : 1048576 < n0
  · clear h0
    go_enter Try.func6, Try.ntmps6
    go_wp2
    exact ret_bool rfl rfl rfl rfl (Ext.refl _)
  have HD := Lib.hid (DrawMayHold_c x0 A0 n0 c0 w h0 (by omega))
  clear h0
  go_enter Try.func6, Try.ntmps6
  go_wp2_with fail
  refine HD.out.mono ?_
  rintro e w1 ⟨A, c, qs, A2, c2, hs, x, rfl, hq, hql, hh, hhl, hcap, hx, hb1⟩
  have HB1 := Lib.hid (hb1.alloc (.cells #[.string x.Name, .int .i64 x.Job.Id, .int .i64 x.Job.Prio, .int .i64 x.Job.Nodes, .int .i64 x.Job.Need.A, .int .i64 x.Job.Need.B, .int .i64 x.Job.Need.C, .int .i64 x.Job.Lic.A, .int .i64 x.Job.Lic.B, .int .i64 x.Job.Lic.C, .int .i64 x.Job.Wall, .int .i64 x.Job.Level] 54))
  have HXO := Lib.hid hx
  have HALL := Lib.hid hh.all
  have HCAP := Lib.hid hcap
  have hqm : qs.length ≤ maxLen := by unfold maxLen; omega
  have hhm : hs.length ≤ maxLen := by unfold maxLen; omega
  have HQL := Lib.hid hql
  have hHL := hhl
  have HWX := Lib.hid ((Ext.refl w1).alloc (.cells #[.string x.Name, .int .i64 x.Job.Id, .int .i64 x.Job.Prio, .int .i64 x.Job.Nodes, .int .i64 x.Job.Need.A, .int .i64 x.Job.Need.B, .int .i64 x.Job.Need.C, .int .i64 x.Job.Lic.A, .int .i64 x.Job.Lic.B, .int .i64 x.Job.Lic.C, .int .i64 x.Job.Wall, .int .i64 x.Job.Level] 54))
  have HM1 := Lib.hid (fun (u : World) (e : Ext w1 u) => MayHold_c qs hs x A qs.length c A2 hs.length c2 u (hq.ext (Flat.mono _ _) e) hqm (hh.ext (Flat.mono _ _) e) hhm hcap hx)
  have HM2 := Lib.hid (fun (u : World) (e : Ext w1 u) => sMayHold_c qs hs x A qs.length c A2 hs.length c2 u (hq.ext (Flat.mono _ _) e) hqm (hh.ext (Flat.mono _ _) e) hhm hcap hx)
  have HW := Lib.hid (fun (u : World) (e : Ext w1 u) => Within_c qs hs A qs.length c A2 hs.length c2 u (hq.ext (Flat.mono _ _) e) hqm (hh.ext (Flat.mono _ _) e) hhm hcap)
  have HWG := Lib.hid (fun (l : List Hold) (m : Nat) (A' : Option Addr) (c' : Nat) (u : World) (e : Ext w1 u) (h' : SlAt RHold 12 u A' m l) (hl' : m ≤ maxLen) (hc' : m ≤ c') => Within_c qs l A qs.length c A' m c' u (hq.ext (Flat.mono _ _) e) hqm h' hl' hc')
  have HS := Lib.hid (fun (u : World) (e : Ext w1 u) => hh.ext (Flat.mono Hold.enc Hold.ok) e)
  have HK := Lib.hid (fun (u : World) (e : Ext (w1.alloc (.cells #[.string x.Name, .int .i64 x.Job.Id, .int .i64 x.Job.Prio, .int .i64 x.Job.Nodes, .int .i64 x.Job.Need.A, .int .i64 x.Job.Need.B, .int .i64 x.Job.Need.C, .int .i64 x.Job.Lic.A, .int .i64 x.Job.Lic.B, .int .i64 x.Job.Lic.C, .int .i64 x.Job.Wall, .int .i64 x.Job.Level] 54)) u) => show Ext (w1.alloc (.cells #[.string x.Name, .int .i64 x.Job.Id, .int .i64 x.Job.Prio, .int .i64 x.Job.Nodes, .int .i64 x.Job.Need.A, .int .i64 x.Job.Need.B, .int .i64 x.Job.Need.C, .int .i64 x.Job.Lic.A, .int .i64 x.Job.Lic.B, .int .i64 x.Job.Lic.C, .int .i64 x.Job.Wall, .int .i64 x.Job.Level] 54)) u ∧ u.cell? ⟨w1.heap.size, 0, none⟩ = some (.string x.Name) ∧ u.cell? ⟨w1.heap.size, 1, none⟩ = some (.int .i64 x.Job.Id) ∧ u.cell? ⟨w1.heap.size, 2, none⟩ = some (.int .i64 x.Job.Prio) ∧ u.cell? ⟨w1.heap.size, 3, none⟩ = some (.int .i64 x.Job.Nodes) ∧ u.cell? ⟨w1.heap.size, 4, none⟩ = some (.int .i64 x.Job.Need.A) ∧ u.cell? ⟨w1.heap.size, 5, none⟩ = some (.int .i64 x.Job.Need.B) ∧ u.cell? ⟨w1.heap.size, 6, none⟩ = some (.int .i64 x.Job.Need.C) ∧ u.cell? ⟨w1.heap.size, 7, none⟩ = some (.int .i64 x.Job.Lic.A) ∧ u.cell? ⟨w1.heap.size, 8, none⟩ = some (.int .i64 x.Job.Lic.B) ∧ u.cell? ⟨w1.heap.size, 9, none⟩ = some (.int .i64 x.Job.Lic.C) ∧ u.cell? ⟨w1.heap.size, 10, none⟩ = some (.int .i64 x.Job.Wall) ∧ u.cell? ⟨w1.heap.size, 11, none⟩ = some (.int .i64 x.Job.Level) from ⟨e, e.cell (law_box w1 [.string x.Name, .int .i64 x.Job.Id, .int .i64 x.Job.Prio, .int .i64 x.Job.Nodes, .int .i64 x.Job.Need.A, .int .i64 x.Job.Need.B, .int .i64 x.Job.Need.C, .int .i64 x.Job.Lic.A, .int .i64 x.Job.Lic.B, .int .i64 x.Job.Lic.C, .int .i64 x.Job.Wall, .int .i64 x.Job.Level] 54 0 _ rfl), e.cell (law_box w1 [.string x.Name, .int .i64 x.Job.Id, .int .i64 x.Job.Prio, .int .i64 x.Job.Nodes, .int .i64 x.Job.Need.A, .int .i64 x.Job.Need.B, .int .i64 x.Job.Need.C, .int .i64 x.Job.Lic.A, .int .i64 x.Job.Lic.B, .int .i64 x.Job.Lic.C, .int .i64 x.Job.Wall, .int .i64 x.Job.Level] 54 1 _ rfl), e.cell (law_box w1 [.string x.Name, .int .i64 x.Job.Id, .int .i64 x.Job.Prio, .int .i64 x.Job.Nodes, .int .i64 x.Job.Need.A, .int .i64 x.Job.Need.B, .int .i64 x.Job.Need.C, .int .i64 x.Job.Lic.A, .int .i64 x.Job.Lic.B, .int .i64 x.Job.Lic.C, .int .i64 x.Job.Wall, .int .i64 x.Job.Level] 54 2 _ rfl), e.cell (law_box w1 [.string x.Name, .int .i64 x.Job.Id, .int .i64 x.Job.Prio, .int .i64 x.Job.Nodes, .int .i64 x.Job.Need.A, .int .i64 x.Job.Need.B, .int .i64 x.Job.Need.C, .int .i64 x.Job.Lic.A, .int .i64 x.Job.Lic.B, .int .i64 x.Job.Lic.C, .int .i64 x.Job.Wall, .int .i64 x.Job.Level] 54 3 _ rfl), e.cell (law_box w1 [.string x.Name, .int .i64 x.Job.Id, .int .i64 x.Job.Prio, .int .i64 x.Job.Nodes, .int .i64 x.Job.Need.A, .int .i64 x.Job.Need.B, .int .i64 x.Job.Need.C, .int .i64 x.Job.Lic.A, .int .i64 x.Job.Lic.B, .int .i64 x.Job.Lic.C, .int .i64 x.Job.Wall, .int .i64 x.Job.Level] 54 4 _ rfl), e.cell (law_box w1 [.string x.Name, .int .i64 x.Job.Id, .int .i64 x.Job.Prio, .int .i64 x.Job.Nodes, .int .i64 x.Job.Need.A, .int .i64 x.Job.Need.B, .int .i64 x.Job.Need.C, .int .i64 x.Job.Lic.A, .int .i64 x.Job.Lic.B, .int .i64 x.Job.Lic.C, .int .i64 x.Job.Wall, .int .i64 x.Job.Level] 54 5 _ rfl), e.cell (law_box w1 [.string x.Name, .int .i64 x.Job.Id, .int .i64 x.Job.Prio, .int .i64 x.Job.Nodes, .int .i64 x.Job.Need.A, .int .i64 x.Job.Need.B, .int .i64 x.Job.Need.C, .int .i64 x.Job.Lic.A, .int .i64 x.Job.Lic.B, .int .i64 x.Job.Lic.C, .int .i64 x.Job.Wall, .int .i64 x.Job.Level] 54 6 _ rfl), e.cell (law_box w1 [.string x.Name, .int .i64 x.Job.Id, .int .i64 x.Job.Prio, .int .i64 x.Job.Nodes, .int .i64 x.Job.Need.A, .int .i64 x.Job.Need.B, .int .i64 x.Job.Need.C, .int .i64 x.Job.Lic.A, .int .i64 x.Job.Lic.B, .int .i64 x.Job.Lic.C, .int .i64 x.Job.Wall, .int .i64 x.Job.Level] 54 7 _ rfl), e.cell (law_box w1 [.string x.Name, .int .i64 x.Job.Id, .int .i64 x.Job.Prio, .int .i64 x.Job.Nodes, .int .i64 x.Job.Need.A, .int .i64 x.Job.Need.B, .int .i64 x.Job.Need.C, .int .i64 x.Job.Lic.A, .int .i64 x.Job.Lic.B, .int .i64 x.Job.Lic.C, .int .i64 x.Job.Wall, .int .i64 x.Job.Level] 54 8 _ rfl), e.cell (law_box w1 [.string x.Name, .int .i64 x.Job.Id, .int .i64 x.Job.Prio, .int .i64 x.Job.Nodes, .int .i64 x.Job.Need.A, .int .i64 x.Job.Need.B, .int .i64 x.Job.Need.C, .int .i64 x.Job.Lic.A, .int .i64 x.Job.Lic.B, .int .i64 x.Job.Lic.C, .int .i64 x.Job.Wall, .int .i64 x.Job.Level] 54 9 _ rfl), e.cell (law_box w1 [.string x.Name, .int .i64 x.Job.Id, .int .i64 x.Job.Prio, .int .i64 x.Job.Nodes, .int .i64 x.Job.Need.A, .int .i64 x.Job.Need.B, .int .i64 x.Job.Need.C, .int .i64 x.Job.Lic.A, .int .i64 x.Job.Lic.B, .int .i64 x.Job.Lic.C, .int .i64 x.Job.Wall, .int .i64 x.Job.Level] 54 10 _ rfl), e.cell (law_box w1 [.string x.Name, .int .i64 x.Job.Id, .int .i64 x.Job.Prio, .int .i64 x.Job.Nodes, .int .i64 x.Job.Need.A, .int .i64 x.Job.Need.B, .int .i64 x.Job.Need.C, .int .i64 x.Job.Lic.A, .int .i64 x.Job.Lic.B, .int .i64 x.Job.Lic.C, .int .i64 x.Job.Wall, .int .i64 x.Job.Level] 54 11 _ rfl)⟩)
  have HOK := Lib.hid (show ∀ y ∈ hs ++ [x], y.ok from fun y hy => by
    rcases List.mem_append.1 hy with hy | hy
    · exact HALL.out y hy
    · rw [List.mem_singleton.1 hy]; exact HXO.out)
  have HMB := Lib.hid (show mayHoldB qs hs x = (withinL qs hs && withinL qs (hs ++ [x])) from rfl)
  have HBK := Lib.hid (fun e => back_self (q := qs) (l := hs) (x := x) e)
  have HPO := Lib.hid (fun e => held_pos (l := hs) (x := x) e)
  generalize mayHoldB qs hs x = mb at *
  obtain ⟨i0, hi, hI0, hI1, hI2⟩ := info_parts Hold.info
  clear hq hh hx hb1 hql hhl hcap HALL
  go_wp2_with fail
  refine (HM1.out _ HWX.out).mono ?_
  rintro e w2 ⟨rfl, hb2⟩
  obtain ⟨_, k0, k1, k2, k3, k4, k5, k6, k7, k8, k9, k10, k11⟩ := HK.out w2 (hb2)
  have hsz := lt_of_cell k0
  go_wp2_with fail
  refine (HM2.out _ (HWX.out.trans hb2)).mono ?_
  rintro e w3 ⟨rfl, hb3⟩
  clear k0 k1 k2 k3 k4 k5 k6 k7 k8 k9 k10 k11 hsz
  have HX3 := Lib.hid (hb2.trans hb3)
  have HE3 := Lib.hid (HWX.out.trans HX3.out)
  have HF3 := Lib.hid (HB1.out.trans HX3.out)
  have hw3 : w1.heap.size < w3.heap.size := lt_of_cell (HK.out w3 HX3.out).2.1
  clear hb2 hb3 HM1 HM2
  rcases (Bool.eq_false_or_eq_true mb).symm with rfl | rfl
  · rcases (Bool.eq_false_or_eq_true (withinL qs hs)).symm with h1 | h1
    · rw [h1] at HW
      clear h1 HK HWG HMB HBK HPO HOK HS hi hI0 hI1 hI2
      have hcx := @Later.cell w3
      go_wp2
      refine wp_region_ext (by kernel_rfl) (by kernel_rfl) ?_
      repeat (go_big_quiet_step ((go_at_call 25; exact Calls.quiet_ext ((HW.out _ (HE3.out.trans (Later.ext _)))))))
      refine wpQuiet_nil ?_
      intro w1 hb1
      have HB1 := Lib.hid hb1
      clear hcx  hb1
      go_wp2
      exact ret_bool rfl rfl rfl rfl (HF3.out.trans HB1.out)
    · have H2 := Lib.hid (show withinL qs (hs ++ [x]) = false by have := HMB.out; rw [h1] at this; simpa using this.symm)
      rw [h1] at HW
      have hW3 := HWG.out (hs ++ [x]) (hs.length + 1)
      rw [H2.out] at hW3
      have HW3 := Lib.hid hW3
      clear hW3 HWG h1 HMB HBK HPO
      go_wp2
      go_region_held3 (fun u => Ext (w1.alloc (.cells #[.string x.Name, .int .i64 x.Job.Id, .int .i64 x.Job.Prio, .int .i64 x.Job.Nodes, .int .i64 x.Job.Need.A, .int .i64 x.Job.Need.B, .int .i64 x.Job.Need.C, .int .i64 x.Job.Lic.A, .int .i64 x.Job.Lic.B, .int .i64 x.Job.Lic.C, .int .i64 x.Job.Wall, .int .i64 x.Job.Level] 54)) u ∧ u.cell? ⟨w1.heap.size, 0, none⟩ = some (.string x.Name) ∧ u.cell? ⟨w1.heap.size, 1, none⟩ = some (.int .i64 x.Job.Id) ∧ u.cell? ⟨w1.heap.size, 2, none⟩ = some (.int .i64 x.Job.Prio) ∧ u.cell? ⟨w1.heap.size, 3, none⟩ = some (.int .i64 x.Job.Nodes) ∧ u.cell? ⟨w1.heap.size, 4, none⟩ = some (.int .i64 x.Job.Need.A) ∧ u.cell? ⟨w1.heap.size, 5, none⟩ = some (.int .i64 x.Job.Need.B) ∧ u.cell? ⟨w1.heap.size, 6, none⟩ = some (.int .i64 x.Job.Need.C) ∧ u.cell? ⟨w1.heap.size, 7, none⟩ = some (.int .i64 x.Job.Lic.A) ∧ u.cell? ⟨w1.heap.size, 8, none⟩ = some (.int .i64 x.Job.Lic.B) ∧ u.cell? ⟨w1.heap.size, 9, none⟩ = some (.int .i64 x.Job.Lic.C) ∧ u.cell? ⟨w1.heap.size, 10, none⟩ = some (.int .i64 x.Job.Wall) ∧ u.cell? ⟨w1.heap.size, 11, none⟩ = some (.int .i64 x.Job.Level)) ((refine HK.out _ ?_; first | exact HX3.out.drew | exact HX3.out | assumption | exact hx2.alloc _ | exact (hx2.alloc _).alloc _ | exact hx3.alloc _)) (first
        | (go_at_call 25; (with_reducible refine (HW.out _ (HE3.out.drew)).mono ?_); rintro e w4 ⟨rfl, hb4⟩; have hx2 : Ext (w1.alloc (.cells #[.string x.Name, .int .i64 x.Job.Id, .int .i64 x.Job.Prio, .int .i64 x.Job.Nodes, .int .i64 x.Job.Need.A, .int .i64 x.Job.Need.B, .int .i64 x.Job.Need.C, .int .i64 x.Job.Lic.A, .int .i64 x.Job.Lic.B, .int .i64 x.Job.Lic.C, .int .i64 x.Job.Wall, .int .i64 x.Job.Level] 54)) w4 := Ext.trans HX3.out (Ext.trans (Ext.refl _).drew hb4))
        | (refine step_append_list (w0 := (w1.alloc (.cells #[.string x.Name, .int .i64 x.Job.Id, .int .i64 x.Job.Prio, .int .i64 x.Job.Nodes, .int .i64 x.Job.Need.A, .int .i64 x.Job.Need.B, .int .i64 x.Job.Need.C, .int .i64 x.Job.Lic.A, .int .i64 x.Job.Lic.B, .int .i64 x.Job.Lic.C, .int .i64 x.Job.Wall, .int .i64 x.Job.Level] 54))) (by rfl) _ _ _ (by rfl) w4.heap.size 54 i0 _ 12 104 Try.underlying50 hi hI0 hI1 hI2 rfl (by omega) _ 0 [] A2 hs.length c2 hs hs.length (by simp) (by rfl) (by rfl) (by first | exact owns_empty w4 54 12 | exact (owns_empty w4 54 12).alloc _ | exact owns_base (owns_empty_at (w4.alloc (.cells #[.string x.Name, .int .i64 x.Job.Id, .int .i64 x.Job.Prio, .int .i64 x.Job.Nodes, .int .i64 x.Job.Need.A, .int .i64 x.Job.Need.B, .int .i64 x.Job.Need.C, .int .i64 x.Job.Lic.A, .int .i64 x.Job.Lic.B, .int .i64 x.Job.Lic.C, .int .i64 x.Job.Wall, .int .i64 x.Job.Level] 54)) (w4.heap.size + 1) (by simp) 54 12) (by simp)) (HS.out _ (HWX.out.trans (by first | exact hx2.alloc _ | exact (hx2.alloc _).alloc _))) Hold.size Hold.one (by unfold maxLen; omega) (by omega) (by first | exact hx2.alloc _ | exact (hx2.alloc _).alloc _) (by exact hx2.le) (by simp; try omega) ?_; intro A3 c3 w5 ho3 hx3 hz3 hg3; simp only [List.nil_append] at ho3)
        | (refine step_append_list (w0 := (w1.alloc (.cells #[.string x.Name, .int .i64 x.Job.Id, .int .i64 x.Job.Prio, .int .i64 x.Job.Nodes, .int .i64 x.Job.Need.A, .int .i64 x.Job.Need.B, .int .i64 x.Job.Need.C, .int .i64 x.Job.Lic.A, .int .i64 x.Job.Lic.B, .int .i64 x.Job.Lic.C, .int .i64 x.Job.Wall, .int .i64 x.Job.Level] 54))) (by rfl) _ _ _ (by rfl) w4.heap.size 54 i0 _ 12 104 Try.underlying50 hi hI0 hI1 hI2 rfl (by omega) _ hs.length _ _ 1 1 [x] (hs.length + 1) rfl (by rfl) (by rfl) (by first | exact ho3 | exact ho3.alloc _) (by first | exact sl_box (enc := Hold.enc) w5 x 54 rfl HXO.out | exact SlAt.far (enc := Hold.enc) (sl_box_at (enc := Hold.enc) (w4.alloc (.cells #[] 54)) (w4.heap.size + 1) (by simp) x 54 rfl HXO.out) hg3 (by show some w4.heap.size ≠ some (w4.heap.size + 1); simp) | exact SlAt.far (enc := Hold.enc) ((sl_box (enc := Hold.enc) w4 x 54 rfl HXO.out).ext (Flat.mono Hold.enc Hold.ok) ((Ext.refl _).alloc _)) hg3 (by show some (w4.heap.size + 1) ≠ some w4.heap.size; simp)) Hold.size Hold.one (by unfold maxLen; omega) (by omega) (by first | exact hx3 | exact hx3.alloc _) (by exact hx2.le) (by have := hz3; simp at this ⊢; omega) ?_; intro A4 c4 w6 ho4 hx4 hz4 hg4)
        | (go_at_call 25; (with_reducible refine (HW3.out _ _ _ (HWX.out.trans hx4) (may_sl ho4 HOK.out) (by unfold maxLen; omega) (may_cap ho4)).mono ?_); rintro e w7 ⟨rfl, hb7⟩; have hx5 : Ext (w1.alloc (.cells #[.string x.Name, .int .i64 x.Job.Id, .int .i64 x.Job.Prio, .int .i64 x.Job.Nodes, .int .i64 x.Job.Need.A, .int .i64 x.Job.Need.B, .int .i64 x.Job.Need.C, .int .i64 x.Job.Lic.A, .int .i64 x.Job.Lic.B, .int .i64 x.Job.Lic.C, .int .i64 x.Job.Wall, .int .i64 x.Job.Level] 54)) w7 := Ext.trans hx4 hb7))
      all_goals
        clear hx2 hx3 hx4 HK
        go_wp2
        exact ret_bool rfl rfl rfl rfl (HB1.out.trans hx5)
  · have H12 := Lib.hid (Bool.and_eq_true_iff.1 HMB.out.symm)
    rw [H12.out.1] at HW
    have hWM := HWG.out (hs ++ [x]) (hs.length + 1)
    rw [H12.out.2] at hWM
    have HWM := Lib.hid hWM
    have HEQ := Lib.hid (HBK.out H12.out.2)
    clear hWM HBK HMB
    go_wp2
    go_region_held3 (fun u => Ext (w1.alloc (.cells #[.string x.Name, .int .i64 x.Job.Id, .int .i64 x.Job.Prio, .int .i64 x.Job.Nodes, .int .i64 x.Job.Need.A, .int .i64 x.Job.Need.B, .int .i64 x.Job.Need.C, .int .i64 x.Job.Lic.A, .int .i64 x.Job.Lic.B, .int .i64 x.Job.Lic.C, .int .i64 x.Job.Wall, .int .i64 x.Job.Level] 54)) u ∧ u.cell? ⟨w1.heap.size, 0, none⟩ = some (.string x.Name) ∧ u.cell? ⟨w1.heap.size, 1, none⟩ = some (.int .i64 x.Job.Id) ∧ u.cell? ⟨w1.heap.size, 2, none⟩ = some (.int .i64 x.Job.Prio) ∧ u.cell? ⟨w1.heap.size, 3, none⟩ = some (.int .i64 x.Job.Nodes) ∧ u.cell? ⟨w1.heap.size, 4, none⟩ = some (.int .i64 x.Job.Need.A) ∧ u.cell? ⟨w1.heap.size, 5, none⟩ = some (.int .i64 x.Job.Need.B) ∧ u.cell? ⟨w1.heap.size, 6, none⟩ = some (.int .i64 x.Job.Need.C) ∧ u.cell? ⟨w1.heap.size, 7, none⟩ = some (.int .i64 x.Job.Lic.A) ∧ u.cell? ⟨w1.heap.size, 8, none⟩ = some (.int .i64 x.Job.Lic.B) ∧ u.cell? ⟨w1.heap.size, 9, none⟩ = some (.int .i64 x.Job.Lic.C) ∧ u.cell? ⟨w1.heap.size, 10, none⟩ = some (.int .i64 x.Job.Wall) ∧ u.cell? ⟨w1.heap.size, 11, none⟩ = some (.int .i64 x.Job.Level)) ((refine HK.out _ ?_; first | exact HX3.out.drew | exact HX3.out | assumption | exact HX3.out.drew.alloc _ | exact (HX3.out.drew.alloc _).alloc _ | exact hx3.alloc _)) (first
      | (refine step_append_list (w0 := (w1.alloc (.cells #[.string x.Name, .int .i64 x.Job.Id, .int .i64 x.Job.Prio, .int .i64 x.Job.Nodes, .int .i64 x.Job.Need.A, .int .i64 x.Job.Need.B, .int .i64 x.Job.Need.C, .int .i64 x.Job.Lic.A, .int .i64 x.Job.Lic.B, .int .i64 x.Job.Lic.C, .int .i64 x.Job.Wall, .int .i64 x.Job.Level] 54))) (by rfl) _ _ _ (by rfl) w3.heap.size 54 i0 _ 12 104 Try.underlying50 hi hI0 hI1 hI2 rfl (by omega) _ 0 [] A2 hs.length c2 hs hs.length (by simp) (by rfl) (by rfl) (by first | exact owns_empty w3.drew 54 12 | exact (owns_empty w3.drew 54 12).alloc _ | exact owns_base (owns_empty_at (w3.drew.alloc (.cells #[.string x.Name, .int .i64 x.Job.Id, .int .i64 x.Job.Prio, .int .i64 x.Job.Nodes, .int .i64 x.Job.Need.A, .int .i64 x.Job.Need.B, .int .i64 x.Job.Need.C, .int .i64 x.Job.Lic.A, .int .i64 x.Job.Lic.B, .int .i64 x.Job.Lic.C, .int .i64 x.Job.Wall, .int .i64 x.Job.Level] 54)) (w3.heap.size + 1) (by simp) 54 12) (by simp)) (HS.out _ (HWX.out.trans (by first | exact HX3.out.drew.alloc _ | exact (HX3.out.drew.alloc _).alloc _))) Hold.size Hold.one (by unfold maxLen; omega) (by omega) (by first | exact HX3.out.drew.alloc _ | exact (HX3.out.drew.alloc _).alloc _) (by exact HX3.out.drew.le) (by simp; try omega) ?_; intro A3 c3 w5 ho3 hx3 hz3 hg3; simp only [List.nil_append] at ho3)
      | (refine step_append_list (w0 := (w1.alloc (.cells #[.string x.Name, .int .i64 x.Job.Id, .int .i64 x.Job.Prio, .int .i64 x.Job.Nodes, .int .i64 x.Job.Need.A, .int .i64 x.Job.Need.B, .int .i64 x.Job.Need.C, .int .i64 x.Job.Lic.A, .int .i64 x.Job.Lic.B, .int .i64 x.Job.Lic.C, .int .i64 x.Job.Wall, .int .i64 x.Job.Level] 54))) (by rfl) _ _ _ (by rfl) w3.heap.size 54 i0 _ 12 104 Try.underlying50 hi hI0 hI1 hI2 rfl (by omega) _ hs.length _ _ 1 1 [x] (hs.length + 1) rfl (by rfl) (by rfl) (by first | exact ho3 | exact ho3.alloc _) (by first | exact sl_box (enc := Hold.enc) w5 x 54 rfl HXO.out | exact SlAt.far (enc := Hold.enc) (sl_box_at (enc := Hold.enc) (w3.drew.alloc (.cells #[] 54)) (w3.heap.size + 1) (by simp) x 54 rfl HXO.out) hg3 (by show some w3.heap.size ≠ some (w3.heap.size + 1); simp) | exact SlAt.far (enc := Hold.enc) ((sl_box (enc := Hold.enc) w3.drew x 54 rfl HXO.out).ext (Flat.mono Hold.enc Hold.ok) ((Ext.refl _).alloc _)) hg3 (by show some (w3.heap.size + 1) ≠ some w3.heap.size; simp)) Hold.size Hold.one (by unfold maxLen; omega) (by omega) (by first | exact hx3 | exact hx3.alloc _) (by exact HX3.out.drew.le) (by have := hz3; simp at this ⊢; omega) ?_; intro A4 c4 w6 ho4 hx4 hz4 hg4))
    all_goals
      have HO4 := Lib.hid ho4
      have HX4 := Lib.hid hx4
      have HC4 := Lib.hid (may_cap ho4)
      have HS4 := Lib.hid (may_sl ho4 HOK.out)
      clear ho4 ho3 hx3 hz3 hg3 hx4 hz4 hg4
      obtain ⟨_, k0, k1, k2, k3, k4, k5, k6, k7, k8, k9, k10, k11⟩ := HK.out w6 (HX4.out)
      have hsz := lt_of_cell k0
      have HHO := Lib.hid (HoldOut_c (hs ++ [x]) x.Job.Id A4 (hs.length + 1) c4 w6 HS4.out (by unfold maxLen; omega) HC4.out)
      rw [HEQ.out] at HHO
      go_wp2_with fail
      refine HHO.out.mono ?_
      rintro e w7 ⟨A7, c7, rfl, ho7, hb7⟩
      have HS7 := Lib.hid (OwnIn.of ho7).sl
      have HC7 := Lib.hid (OwnIn.of ho7).cap
      clear ho7
      clear k0 k1 k2 k3 k4 k5 k6 k7 k8 k9 k10 k11 hsz
      obtain ⟨_, k0, k1, k2, k3, k4, k5, k6, k7, k8, k9, k10, k11⟩ := HK.out w7 (HX4.out.trans hb7)
      have hsz := lt_of_cell k0
      have HHB := Lib.hid (HeldBy_c (hs ++ [x]) x.Name A4 (hs.length + 1) c4 w7 (HS4.out.ext (Flat.mono _ _) hb7) (by unfold maxLen; omega) HC4.out)
      generalize heldJ (hs ++ [x]) x.Name = hj at *
      generalize heldN (hs ++ [x]) x.Name = hn at *
      generalize heldV (hs ++ [x]) x.Name = hv at *
      generalize heldB (hs ++ [x]) x.Name = hbb at *
      go_wp2_with fail
      refine HHB.out.mono ?_
      rintro e w8 ⟨rfl, hb8⟩
      clear k0 k1 k2 k3 k4 k5 k6 k7 k8 k9 k10 k11 hsz
      have HX8 := Lib.hid (HX4.out.trans (hb7.trans hb8))
      have HY8 := Lib.hid (HX8.out.alloc (.cells #[.int .i64 hv.A, .int .i64 hv.B, .int .i64 hv.C] 42))
      have HZ8 := Lib.hid ((hb7.trans hb8).alloc (.cells #[.int .i64 hv.A, .int .i64 hv.B, .int .i64 hv.C] 42))
      have HZ7 := Lib.hid (hb8.alloc (.cells #[.int .i64 hv.A, .int .i64 hv.B, .int .i64 hv.C] 42))
      clear hb7 hb8
      go_wp2_with fail
      refine (HW.out _ (HWX.out.trans HY8.out)).mono ?_
      rintro e w9 ⟨rfl, hb9⟩
      go_wp2_with fail
      refine (HWM.out A4 c4 _ (HWX.out.trans (HY8.out.trans hb9)) (HS4.out.ext (Flat.mono _ _) (HZ8.out.trans hb9)) (by unfold maxLen; omega) HC4.out).mono ?_
      rintro e w10 ⟨rfl, hb10⟩
      go_wp2_with fail
      refine (HWG.out hs hs.length A7 c7 _ (HWX.out.trans (HY8.out.trans (hb9.trans hb10))) (HS7.out.ext (Flat.mono _ _) (HZ7.out.trans (hb9.trans hb10))) hhm HC7.out).mono ?_
      rw [H12.out.1]
      rintro e w11 ⟨rfl, hb11⟩
      have HF := Lib.hid (HB1.out.trans (HY8.out.trans (hb9.trans (hb10.trans hb11))))
      rcases (Bool.eq_false_or_eq_true hbb).symm with rfl | rfl
      · go_wp2
        exact ret_bool rfl rfl rfl (by simp) HF.out
      · have hj0 := HPO.out rfl
        go_wp2
        exact ret_bool rfl rfl rfl (by simp) HF.out
end Go.Proofs.Ytbfambeoboiifaa
