/- The law FnQuiet returns true: the walk. -/
import Derived.Test.YtafccgnaifhnkaaDrawWin4
import Derived.Test.YtafccgnaifhnkaaQuietLaw
namespace Go.Proofs.Ytafccgnaifhnkaa
open Go.RowKit
set_option linter.unusedVariables false
set_option maxHeartbeats 8000000 in
set_option maxRecDepth 20000 in
theorem FnQuiet_c (w : World) (A0 : Option Addr) (n0 c0 : Nat) (x0 : List Int) (h0 : SlAt RU8 1 w A0 n0 x0) (hn0 : n0 ≤ maxLen) : Calls Try.prog 6 #[.slice A0 n0 c0] w (Ret w (.bool true)) := by
  unfold maxLen at hn0
  by_cases hbig : 1048576 < n0
  · clear h0
    go_enter Try.func6, Try.ntmps6
    go_wp2
    exact ret_bool rfl rfl rfl rfl (Ext.refl _)
  have HD := Lib.hid (DrawNextQuiet_c x0 A0 n0 c0 w h0 (by omega))
  clear h0
  go_enter Try.func6, Try.ntmps6
  go_wp2_with fail
  refine HD.out.mono ?_
  rintro e w1 ⟨A, c, ps, B, d, ns, D, fc, xs, C, hc, ds, fr, wall, rfl, s1, s2, s3, s4, l1, l2, l3, l4, l5, hf, hw, hb1⟩
  have HN := Lib.hid (fun (u : World) (e : Ext w1 u) => NextQuiet_c ps ns xs ds fr wall A ps.length c B ns.length d D xs.length fc C ds.length hc u (s1.ext (Flat.mono _ _) e) (by unfold maxLen; omega) (s2.ext (Flat.mono _ _) e) (by unfold maxLen; omega) (s3.ext RWindow.mono e) (by unfold maxLen; omega) (s4.ext (Flat.mono _ _) e) (by unfold maxLen; omega) hf hw)
  have HS := Lib.hid (fun (u : World) (e : Ext w1 u) => sNextQuiet_c ps ns xs ds fr wall A ps.length c B ns.length d D xs.length fc C ds.length hc u (s1.ext (Flat.mono _ _) e) (by unfold maxLen; omega) (s2.ext (Flat.mono _ _) e) (by unfold maxLen; omega) (s3.ext RWindow.mono e) (by unfold maxLen; omega) (s4.ext (Flat.mono _ _) e) (by unfold maxLen; omega) hf hw)
  have HQ := Lib.hid (fun (a b : Int) (ha : In64 a) (hb : In64 b) (u : World) (e : Ext w1 u) => Quiet_c ps ns xs ds a b A ps.length c B ns.length d D xs.length fc C ds.length hc u (s1.ext (Flat.mono _ _) e) (by unfold maxLen; omega) (s2.ext (Flat.mono _ _) e) (by unfold maxLen; omega) (s3.ext RWindow.mono e) (by unfold maxLen; omega) (s4.ext (Flat.mono _ _) e) (by unfold maxLen; omega) ha hb)
  have HNEG := Lib.hid (fun h => next_neg (ps := ps) (ns := ns) (xs := xs) (nodes := ds) (fr := fr) (wall := wall) h)
  have HPOS := Lib.hid (fun h => next_pos (ps := ps) (ns := ns) (xs := xs) (nodes := ds) (fr := fr) (wall := wall) h)
  generalize nextQ ps ns xs ds fr wall = R at *
  have HB1 := Lib.hid hb1
  have HE := Lib.hid ((Ext.refl w1).alloc (.cells #[.slice A ps.length c, .slice B ns.length d] 32))
  have HBOX := Lib.hid (fun (u : World) (e : Ext (w1.alloc (.cells #[.slice A ps.length c, .slice B ns.length d] 32)) u) => show u.cell? ⟨w1.heap.size, 0, none⟩ = some (.slice A ps.length c) ∧ u.cell? ⟨w1.heap.size, 1, none⟩ = some (.slice B ns.length d) from ⟨e.cell (dcell_box w1 [.slice A ps.length c, .slice B ns.length d] 32 0 _ rfl), e.cell (dcell_box w1 [.slice A ps.length c, .slice B ns.length d] 32 1 _ rfl)⟩)
  clear s1 s2 s3 s4 hb1
  go_wp2_with fail
  refine (HN.out _ HE.out).mono ?_
  rintro e w2 ⟨rfl, hb2⟩
  obtain ⟨p0, p1⟩ := HBOX.out _ hb2
  have hlp := lt_of_cell p0
  have HE2 := Lib.hid hb2
  clear hb2
  go_wp2_with fail
  refine (HS.out _ (HE.out.trans HE2.out)).mono ?_
  rintro e w3 ⟨rfl, hb3⟩
  obtain ⟨p0, p1⟩ := HBOX.out _ (HE2.out.trans hb3)
  have hlp := lt_of_cell p0
  have HE3 := Lib.hid (HE2.out.trans hb3)
  clear hb3
  by_cases hneg : R < 0
  · have hr := HNEG.out hneg
    subst hr
    go_wp2
    exact ret_bool rfl rfl rfl rfl (HB1.out.trans (HE.out.trans HE3.out))
  obtain ⟨q1, q2, q3, q4, q5, q6, q7⟩ := HPOS.out (by omega)
  have HNONE := Lib.hid q7
  have HHERE := Lib.hid q6
  clear q6 q7 p0 p1 hlp
  go_wp2
  go_loopw [9] (fun xv wr => ∃ x : Int, xv = .int .i64 x ∧ fr ≤ x ∧ x ≤ R ∧ Ext w3 wr) (fun xv _ => (R - intOf xv).toNat)
  case atStart => exact ⟨fr, rfl, Int.le_refl _, q4, Ext.refl _⟩
  case round =>
    obtain ⟨x, rfl, hx1, hx2, hb⟩ := hrel
    obtain ⟨p0, p1⟩ := HBOX.out _ (HE3.out.trans hb)
    have hlp := lt_of_cell p0
    have HBX := Lib.hid hb
    rcases (show (x < R ∧ x < fr + 40) ∨ ¬ x < R ∨ (x < R ∧ ¬ x < fr + 40) by omega) with ⟨h1, h2⟩ | h1 | ⟨h1, h2⟩
    · have HQX := Lib.hid (HQ.out x (x + wall) (by unfold In64; omega) (by unfold In64; omega))
      rw [HNONE.out x hx1 h1] at HQX
      clear hb
      go_wp2_with fail
      refine (HQX.out _ (HE.out.trans (HE3.out.trans HBX.out))).mono ?_
      rintro e w4 ⟨rfl, hb4⟩
      go_wp2
      go_roundw
      case rel => exact ⟨x + 1, by go_num, by omega, by omega, HBX.out.trans hb4⟩
      case measure => simp [intOf]; omega
    all_goals
      have HQX := Lib.hid (HQ.out R (R + wall) (by unfold In64; omega) (by unfold In64; omega))
      rw [HHERE.out] at HQX
      clear hb
      go_wp2_with fail
      refine (HQX.out _ (HE.out.trans (HE3.out.trans HBX.out))).mono ?_
      rintro e w4 ⟨rfl, hb4⟩
      have HB4 := Lib.hid hb4
      clear hb4
      go_wp2
      exact ret_bool rfl rfl rfl rfl (HB1.out.trans (HE.out.trans (HE3.out.trans (HBX.out.trans HB4.out))))
end Go.Proofs.Ytafccgnaifhnkaa
