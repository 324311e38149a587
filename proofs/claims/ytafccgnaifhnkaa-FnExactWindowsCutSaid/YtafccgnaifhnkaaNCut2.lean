/- Contracts: the windows that aren't over, the reference's way. -/
import Derived.Test.YtafccgnaifhnkaaNApp
namespace Go.Proofs.Ytafccgnaifhnkaa
open Go.RowKit
set_option linter.unusedVariables false
set_option maxHeartbeats 8000000 in
set_option maxRecDepth 8000 in
theorem sWindowsCut_n (xs : List Window) (A : Option Addr) (n c : Nat) (at_ : Int) (w : World) (h : SlAt RWindow 3 w A n xs) (hn : n ≤ 1048576) (hle : ∀ x ∈ xs, x.Nodes.length ≤ 1048576) : Calls Try.prog 24 #[.slice A n c, .int .i64 at_] w (RetNR w (cutL xs at_)) := by
  obtain ⟨i0, hi, hz0, hz1, hz2⟩ := info_parts NWindow.info
  obtain ⟨i1, hi1, hI0, hI1, hI2⟩ := info_parts NInt.info
  have HLE := Lib.hid hle
  have HH := Lib.hid h
  clear hle h
  go_enter Try.func24, Try.ntmps24
  go_wp2
  go_loopw [5, 11] (fun v i wr => ∃ (k m c1 : Nat) (A1 : Option Addr) (f : Nat → NItem), k ≤ n ∧ i = .int .i64 k ∧ v = .slice A1 m c1 ∧ m ≤ k ∧ Hid (NR wr w.heap.size wr.heap.size A1 m c1 m f) ∧ Hid (NMatch (cutL (xs.take k) at_) f) ∧ Hid ((cutL (xs.take k) at_).length = m) ∧ Ext w wr) (fun _ i _ => n - (intOf i).toNat)
  case atStart =>
    have ho := owns_empty w 65 3
    exact ⟨0, 0, 0, _, fun _ => ⟨undef, undef, none, 0, 0, []⟩, Nat.zero_le _, rfl, rfl, Nat.le_refl _, Lib.hid ⟨Nat.le_refl _, ⟨_, ho, fun j hj => by omega⟩, fun j hj => by omega, fun i j hi => by omega, fun q e => (ho.lt q e).2, fun j hj => by omega⟩, Lib.hid (fun j x hx => by simp [cutL] at hx), Lib.hid (by simp [cutL]), (Ext.refl _).alloc _⟩
  case round =>
    obtain ⟨k, m, c1, A1, f, hk, rfl, rfl, hmk, HNR, HM, HLEN, hb⟩ := hrel
    by_cases hlt : k < n
    · obtain ⟨b, o, x, cs, rfl, hbw, hx, _, hc, hr⟩ := (HH.out.ext RWindow.mono hb).at_ hlt
      obtain ⟨B1, d1, rfl, hsl, hml, hf, ht⟩ := win_cells hr
      have g0 := hc 0 _ rfl
      have g1 := hc 1 _ rfl
      have g2 := hc 2 _ rfl
      simp only [Nat.add_zero] at g0
      have HX := Lib.hid hx
      have HLX := Lib.hid (HLE.out x (List.mem_of_getElem? hx))
      have HSL := Lib.hid hsl
      have HR := Lib.hid (show x.Nodes.length ≤ maxLen ∧ In64 x.From ∧ In64 x.To from ⟨hml, hf, ht⟩)
      have HCS := Lib.hid (cut_succ (at_ := at_) hx)
      clear hc hr hsl hml hf ht hx
      by_cases hto : at_ < x.To
      · obtain ⟨L, hL, hrow⟩ := HNR.out.row
        have HROW := Lib.hid hrow
        have HO := Lib.hid hL
        have HTO := Lib.hid hto
        clear hL hrow
        go_wp2
        clear g0 g1 g2
        have HWW := Lib.hid ((Ext.refl wr).alloc (.cells #[.int .i64 x.From, .int .i64 x.To, .slice B1 x.Nodes.length d1] 65))
        have HSU := Lib.hid (fun (u : World) (e : Ext (wr.alloc (.cells #[.int .i64 x.From, .int .i64 x.To, .slice B1 x.Nodes.length d1] 65)) u) => HSL.out.ext (Flat.mono _ _) (HWW.out.trans e))
        have HOU := Lib.hid (fun (u : World) (e : Ext (wr.alloc (.cells #[.int .i64 x.From, .int .i64 x.To, .slice B1 x.Nodes.length d1] 65)) u) => owns_ext HO.out (HWW.out.trans e))
        have HK := Lib.hid (fun (u : World) (e : Ext (wr.alloc (.cells #[.int .i64 x.From, .int .i64 x.To, .slice B1 x.Nodes.length d1] 65)) u) => show u.cell? ⟨wr.heap.size, 0, none⟩ = some (.int .i64 x.From) ∧ u.cell? ⟨wr.heap.size, 1, none⟩ = some (.int .i64 x.To) ∧ u.cell? ⟨wr.heap.size, 2, none⟩ = some (.slice B1 x.Nodes.length d1) from ⟨e.cell (law_box wr [.int .i64 x.From, .int .i64 x.To, .slice B1 x.Nodes.length d1] 65 0 _ rfl), e.cell (law_box wr [.int .i64 x.From, .int .i64 x.To, .slice B1 x.Nodes.length d1] 65 1 _ rfl), e.cell (law_box wr [.int .i64 x.From, .int .i64 x.To, .slice B1 x.Nodes.length d1] 65 2 _ rfl)⟩)
        have HBL := Lib.hid hb.le
        have HK4 := Lib.hid (fun (u : World) (e : Ext (wr.alloc (.cells #[.int .i64 x.From, .int .i64 x.To, .slice B1 x.Nodes.length d1] 65)) u) (u' : World) (hg : u.grownBy u' (Value.slice A1 m c1).ownBlock) => show u'.cell? ⟨wr.heap.size, 0, none⟩ = some (.int .i64 x.From) ∧ u'.cell? ⟨wr.heap.size, 1, none⟩ = some (.int .i64 x.To) ∧ u'.cell? ⟨wr.heap.size, 2, none⟩ = some (.slice B1 x.Nodes.length d1) from by
          have hlt : wr.heap.size < u.heap.size := by have := e.le; simp at this; omega
          have hne : some wr.heap.size ≠ (Value.slice A1 m c1).ownBlock := fun e' => by have := (HO.out.lt _ e'.symm).2; omega
          obtain ⟨k0, k1, k2⟩ := HK.out u e
          exact ⟨(hg.cell_far ⟨wr.heap.size, 0, none⟩ hlt hne).trans k0, (hg.cell_far ⟨wr.heap.size, 1, none⟩ hlt hne).trans k1, (hg.cell_far ⟨wr.heap.size, 2, none⟩ hlt hne).trans k2⟩)
        have HLXX := HLX.out
        have HEX := Lib.hid (show Ext w (wr.alloc (.cells #[.int .i64 x.From, .int .i64 x.To, .slice B1 x.Nodes.length d1] 65)) from hb.trans HWW.out)
        clear hb
        go_region_held3 (fun u => u.cell? ⟨wr.heap.size, 0, none⟩ = some (.int .i64 x.From) ∧ u.cell? ⟨wr.heap.size, 1, none⟩ = some (.int .i64 x.To) ∧ u.cell? ⟨wr.heap.size, 2, none⟩ = some (.slice B1 x.Nodes.length d1)) ((first | exact hk4 | (refine HK.out _ ?_; first | exact (Ext.refl _).drew | exact ((Ext.refl _).drew).alloc _ | assumption | exact hx3.alloc _))) (first
          | (refine step_append_list (w0 := (wr.alloc (.cells #[.int .i64 x.From, .int .i64 x.To, .slice B1 x.Nodes.length d1] 65))) (by rfl) _ _ _ (by rfl) (wr.heap.size + 1) 3 i1 _ 1 8 Try.underlying22 hi1 hI0 hI1 hI2 rfl (by omega) _ 0 [] B1 x.Nodes.length d1 x.Nodes x.Nodes.length (by simp) (by rfl) (by rfl) (by exact owns_empty_at ((wr.alloc (.cells #[.int .i64 x.From, .int .i64 x.To, .slice B1 x.Nodes.length d1] 65)).drew) (wr.heap.size + 1) (by simp) 3 1) (HSU.out _ (((Ext.refl _).drew).alloc _)) (fun _ => rfl) NInt.one (by unfold maxLen; omega) (by omega) (((Ext.refl _).drew).alloc _) (by simp) (by simp) ?_; intro A2 c2 w3 ho3 hx3 hz3 hg3; simp only [List.nil_append] at ho3)
          | (refine step_append_list (w0 := w) (enc := nenc) (ok := fun _ => True) (by rfl) _ _ _ (by rfl) w.heap.size 65 i0 _ 3 40 Try.underlying34 hi hz0 hz1 hz2 rfl (by omega) _ m L _ 1 1 [⟨x.From, x.To, A2, x.Nodes.length, c2⟩] (m + 1) rfl (by rfl) (by rfl) (HOU.out _ (hx3.alloc _)) (by exact sl_nbox w3 ⟨x.From, x.To, A2, x.Nodes.length, c2⟩ _) (fun _ => rfl) nenc_one (by unfold maxLen; omega) (by omega) (HEX.out.trans (hx3.alloc _)) (Nat.le_refl _) (by have := HBL.out; have := hx3.le; simp at this ⊢; omega) ?_; intro A4 c4 w4 ho4 hx4 hz4 hg4; have hk4 := HK4.out _ (hx3.alloc _) w4 hg4))
        all_goals
          have HG := Lib.hid (NR.grow (w := w3.alloc (.cells #[.int .i64 x.From, .int .i64 x.To, .slice A2 x.Nodes.length c2] 65)) ⟨.int .i64 x.From, .int .i64 x.To, A2, x.Nodes.length, c2, x.Nodes.flatMap encInt⟩ HNR.out (HWW.out.trans (hx3.alloc _)) HO.out HROW.out ho4 (keep_of_grown (HOU.out _ (hx3.alloc _)) hg4) (owns_base (owns_ext ho3 ((Ext.refl _).alloc _)) (by have := HBL.out; omega)) (fun q e => by have := (ho3.lt q e).1; omega))
          clear ho3 hx3 hg3 hz3 ho4 hz4 hg4 HK hk4
          have HX4 := Lib.hid hx4
          clear hx4
          go_wp2
          go_roundw
          case rel => exact ⟨k + 1, m + 1, c4, A4, _, by omega, by go_num, rfl, by omega, HG.out, Lib.hid (by rw [HCS.out, if_pos HTO.out]; exact HM.out.snoc HLEN.out x _ rfl rfl rfl rfl (sl_ok HSL.out) HR.out.2.1 HR.out.2.2), Lib.hid (by rw [HCS.out, if_pos HTO.out, List.length_append, HLEN.out]; rfl), HX4.out⟩
          case measure => simp [intOf]; omega
      · have HTO := Lib.hid hto
        go_wp2
        go_roundw
        case rel => exact ⟨k + 1, m, c1, A1, f, by omega, by go_num, rfl, by omega, Lib.hid ((HNR.out.ext ((Ext.refl _).alloc _)).cut (by simp) (Nat.le_refl _)), Lib.hid (by rw [HCS.out, if_neg HTO.out]; exact HM.out), Lib.hid (by rw [HCS.out, if_neg HTO.out]; exact HLEN.out), hb.alloc _⟩
        case measure => simp [intOf]; omega
    · have HKN := Lib.hid (show k = n by omega)
      have HE := Lib.hid (show cutL (xs.take k) at_ = cutL xs at_ by rw [List.take_of_length_le (by rw [HH.out.len, HKN.out]; exact Nat.le_refl _)])
      go_wp2
      refine bodyPost_ret (results_tmp rfl _ _ _) rfl ⟨A1, c1, f, ?_, ?_, ?_, hb⟩
      · rw [← HE.out, HLEN.out]; rfl
      · rw [← HE.out, HLEN.out]; exact HNR.out
      · rw [← HE.out]; exact HM.out
end Go.Proofs.Ytafccgnaifhnkaa
