/- The law FnExactTextSpec returns true: the walk. -/
import Derived.Test.YtafccgnaifhnkaaTextR
import Derived.Test.YtafccgnaifhnkaaNest
namespace Go.Proofs.Ytafccgnaifhnkaa
open Go.RowKit
set_option linter.unusedVariables false
theorem heldSpec_c (x : Spec) (A : Option Addr) (c : Nat) (base : Nat) (k : Int) (w : World) (hown : w.ownsRow base 90 3 (.slice A x.Spans.length c) x.Spans.length (marks mkSpan 3 k x.Spans.length)) (hn : x.Spans.length ≤ 1048576) (hk0 : 0 < k) (hk1 : k ≤ 1125899906842624) : Calls Try.prog 32 #[.agg #[.slice A x.Spans.length c, .int .i64 x.Most], .int .i64 k] w (Ret w (.int .i64 (k + 3 * x.Spans.length))) := by
  have hc := Lib.hid (fun (u : World) (e : Ext w u) => heldSpanS_c A x.Spans.length c base k u (owns_ext hown e) hn hk0 hk1)
  go_enter Try.func32, Try.ntmps32
  go_wp2_with fail
  refine (hc.out _ ((Ext.refl _).alloc _)).mono ?_
  rintro e w1 ⟨rfl, hb1⟩
  go_wp2
  exact ret_int rfl rfl rfl rfl (((Ext.refl _).alloc _).trans hb1)
theorem specI_len (s : ByteArray) : (specI s).1.Spans.length ≤ 8 := by
  unfold specI
  split
  · rename_i h
    rcases Bool.eq_false_or_eq_true (specB (spansI s) (mostI s)) with hB | hB
    · exact (specB_parts hB).1
    · rw [specText_bad hB] at h
      exact absurd (by rw [← h.2]; rfl) h.1
  · exact Nat.zero_le _
theorem kept_box {w w' : World} {base lo b n : Nat} {e : TypeId} {sz : Nat} {v : Value} {L M : List Value} (h : w.ownsRow base 53 2 (.slice (some ⟨b, 0, none⟩) 1 1) 1 L) (hv : w.ownsRow lo e sz v n M) (hne : 53 ≠ e) (hg : w.grownBy w' v.ownBlock) : w'.ownsRow base 53 2 (.slice (some ⟨b, 0, none⟩) 1 1) 1 L :=
  h.kept hg (.inr (fun e' => own_apart h hv hne b rfl (e' ▸ rfl)))
set_option maxHeartbeats 4000000 in
set_option maxRecDepth 10000 in
theorem FnExactTextSpec_c (w : World) (s : ByteArray) (hs : s.size ≤ maxLen) : Calls Try.prog 8 #[.string s] w (Ret w (.bool true)) := by
  unfold maxLen at hs
  by_cases hbig : 1048576 < s.size
  · go_enter Try.func8, Try.ntmps8
    go_wp2
    exact ret_bool rfl rfl rfl rfl (Ext.refl _)
  have HI := Lib.hid (fun u => TextSpec_c s u (by omega))
  have HP := Lib.hid (show ∀ u, Calls Try.prog 28 #[.string s] u (RetSpec u (specI s)) from fun u => by rw [← spec_same]; exact sTextSpec_c s u (by omega))
  have hyl := specI_len s
  generalize specI s = r at *
  obtain ⟨x, rb⟩ := r
  simp only [] at hyl
  go_enter Try.func8, Try.ntmps8
  go_wp2_with fail
  refine (HP.out _).mono ?_
  rintro e w1 ⟨A1, c1, rfl, ho1, hk1, hb1⟩
  have HK := Lib.hid hk1
  have o1 := OwnIn.of (OwnAt.flat Span.size hk1 ho1)
  clear ho1 hk1
  go_wp2_with fail
  refine (HI.out _).mono ?_
  rintro e w2 ⟨A2, c2, rfl, ho2, hk2, hb2⟩
  have o2 := OwnIn.of (OwnAt.flat Span.size hk2 ho2)
  have HX3 := Lib.hid (owns_ext (owns_box2 w1 (.slice A1 x.Spans.length c1) (.int .i64 x.Most) 53) hb2)
  have hE12 := ((Ext.refl w1).alloc (.cells #[.slice A1 x.Spans.length c1, .int .i64 x.Most] 53)).trans hb2
  have hE02 := hb1.trans hE12
  obtain ⟨k0, k1, f0, f1, hl3⟩ := box2_cells HX3.out
  clear ho2 hk2 hb2
  have o1' := o1.ext (Flat.mono _ _) (hE12.alloc (.cells #[.slice A2 x.Spans.length c2, .int .i64 x.Most] 53))
  have o2' := o2.ext (Flat.mono _ _) ((Ext.refl w2).alloc (.cells #[.slice A2 x.Spans.length c2, .int .i64 x.Most] 53))
  go_wp2_with fail
  refine (eqSpec_t x A2 c2 A1 c1 _ o2'.sl o1'.sl (by unfold maxLen; omega)).mono ?_
  rintro e w3 ⟨rfl, hb3⟩
  have HX33 := Lib.hid (owns_ext (HX3.out.alloc (.cells #[.slice A2 x.Spans.length c2, .int .i64 x.Most] 53)) hb3)
  have HX53 := Lib.hid (owns_ext (owns_box2 w2 (.slice A2 x.Spans.length c2) (.int .i64 x.Most) 53) hb3)
  have o13 := o1'.ext (Flat.mono _ _) hb3
  have o23 := o2'.ext (Flat.mono _ _) hb3
  have hE23 := ((Ext.refl w2).alloc (.cells #[.slice A2 x.Spans.length c2, .int .i64 x.Most] 53)).trans hb3
  clear k0 k1 f0 f1 hl3 o1 o2 o1' o2' HX3 hb3
  obtain ⟨k0, k1, f0, f1, hl5⟩ := box2_cells HX53.out
  obtain ⟨L, hL⟩ := o23.owns
  go_wp2_with fail
  refine (markSpec_c x A2 c2 _ L 1 _ hL (by omega) (by omega) (by omega)).mono ?_
  rintro e w4 ⟨rfl, hm4, hg4⟩
  have ht4 := turned_of o23 hg4
  have HX34 := Lib.hid (kept_box HX33.out hL (by decide) hg4)
  have HX54 := Lib.hid (kept_box HX53.out hL (by decide) hg4)
  have o14 := o13.keep ht4 (.inl (by simp))
  have hE04 : Ext w w4 := ext_turned (hE02.trans hE23) ht4 (by have := hb1.le; simp; omega)
  have HM4 := Lib.hid hm4
  clear hm4 hg4 ht4 hL o13 o23 HX33 HX53 k0 k1 f0 f1 hl5 hE23
  obtain ⟨k0, k1, f0, f1, hl5⟩ := box2_cells HX54.out
  go_wp2_with fail
  refine (heldSpec_c x A2 c2 _ 1 _ HM4.out (by omega) (by omega) (by omega)).mono ?_
  rintro e w5 ⟨rfl, hb5⟩
  clear k0 k1 f0 f1 hl5
  have hnn : 0 < 1 + 3 * (x.Spans.length : Int) := by omega
  go_wp2_with fail
  refine (HI.out _).mono ?_
  rintro e w6 ⟨A6, c6, rfl, ho6, hk6, hb6⟩
  have o6 := OwnIn.of (OwnAt.flat Span.size hk6 ho6)
  have b56 := hb5.trans hb6
  have HX36 := Lib.hid (owns_ext HX34.out b56)
  have HX56 := Lib.hid (owns_ext HX54.out b56)
  obtain ⟨k0, k1, f0, f1, hl3⟩ := box2_cells HX36.out
  have o1' := (o14.ext (Flat.mono _ _) b56).ext (Flat.mono _ _) ((Ext.refl w6).alloc (.cells #[.slice A6 x.Spans.length c6, .int .i64 x.Most] 53))
  have o6' := o6.ext (Flat.mono _ _) ((Ext.refl w6).alloc (.cells #[.slice A6 x.Spans.length c6, .int .i64 x.Most] 53))
  clear ho6 hk6
  go_wp2_with fail
  refine (eqSpec_t x A6 c6 A1 c1 _ o6'.sl o1'.sl (by unfold maxLen; omega)).mono ?_
  rintro e w7 ⟨rfl, hb7⟩
  have b67 := ((Ext.refl w6).alloc (.cells #[.slice A6 x.Spans.length c6, .int .i64 x.Most] 53)).trans hb7
  clear k0 k1 f0 f1 hl3
  obtain ⟨k0, k1, f0, f1, hl5⟩ := box2_cells (owns_ext HX56.out b67)
  go_wp2_with fail
  refine (heldSpec_c x A2 c2 _ 1 _ (owns_ext HM4.out (b56.trans b67)) (by omega) (by omega) (by omega)).mono ?_
  rintro e w8 ⟨rfl, hb8⟩
  go_wp2
  exact ret_bool rfl rfl rfl rfl (hE04.trans ((b56.trans b67).trans hb8))
end Go.Proofs.Ytafccgnaifhnkaa
