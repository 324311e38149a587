/- Contracts of the draws: profiles, what is taken from one. -/
import Derived.Test.YtbfambeoboiifaaSub
import Derived.Test.YtbfambeoboiifaaDrawVec
import Derived.IntWalk
namespace Go.Proofs.Ytbfambeoboiifaa
open Go.RowKit
set_option linter.unusedVariables false
theorem run_vec_ne (w : World) (a b c a' b' c' : Int) : (binOp .neq 42 (.agg #[.int .i64 a, .int .i64 b, .int .i64 c]) (.agg #[.int .i64 a', .int .i64 b', .int .i64 c'])).run Try.prog w = .ok (.bool (!(a == a' && (b == b' && c == c')))) w := by
  simp [go_sem, Try.underlying42, Try.underlying3]
  by_cases h1 : a = a' <;> by_cases h2 : b = b' <;> by_cases h3 : c = c' <;> simp [h1, h2, h3]
attribute [local go_sem ↓] run_vec_ne run_vec_guard
def RetProfB (w : World) : Ending → World → Prop := fun e w' => ∃ (A : Option Addr) (c : Nat) (pts : List Pt) (b : Bool), e = .returned (.tuple #[.agg #[.slice A pts.length c], .bool b]) ∧ w'.ownsRow w.heap.size 93 4 (.slice A pts.length c) pts.length (pts.flatMap Pt.enc) ∧ (∀ x ∈ pts, x.ok) ∧ pts.length ≤ 200 ∧ (b = true → 1 ≤ pts.length) ∧ Ext w w'
theorem vec_ok {v : Vec} (h : vecR v) : v.ok := by
  obtain ⟨h1, h2, h3⟩ := h
  exact ⟨in64_of (by omega) (by omega), in64_of (by omega) (by omega), in64_of (by omega) (by omega)⟩
theorem Pt.info : (Try.prog.info? 93).map (fun i => (i.zero, i.size, i.bytes)) = some (some (.agg #[.int .i64 0, .int .i64 0, .int .i64 0, .int .i64 0]), 4, 32) := by kernel_rfl
theorem Pt.one (x : Pt) : ∀ u ∈ x.enc, u.oneCell' = true := by
  intro u hu
  simp [Pt.enc] at hu
  rcases hu with rfl | rfl | rfl | rfl <;> rfl
theorem cell_low {base hi b o : Nat} {v : Value} {w w' : World} (ht : Turned base hi w w') (h : w.cell? ⟨b, o, none⟩ = some v) (hb : b < base) : w'.cell? ⟨b, o, none⟩ = some v := by
  rw [World.cell?_of_block (a := ⟨b, o, none⟩) (ht.block b (lt_of_cell h) (.inl hb))]; exact h
theorem frozen_low {base hi b o : Nat} {f : Bool} {w w' : World} (ht : Turned base hi w w') (h : w.frozen? ⟨b, o, none⟩ = f) (hl : b < w.heap.size) (hb : b < base) : w'.frozen? ⟨b, o, none⟩ = f := by
  rw [World.frozen?_of_block (a := ⟨b, o, none⟩) (ht.block b hl (.inl hb))]; exact h
theorem turned_at {g j : Nat} {w w1 : World} {u : Value} (h : Turned g (g + 1) w w1) : Turned g (g + 1) w (w1.setCell ⟨g, j, none⟩ u) :=
  ⟨h.os, h.tape, h.output, by simpa [World.setCell] using h.size, fun b hb hr => (Below.heap_setCell _ _ _ _ (by simp only []; omega)).trans (h.block b hb hr)⟩
theorem sub_ok {a b : Vec} (h : a.ok) : (subV a b).ok := by
  unfold subV
  split
  · rename_i hf
    obtain ⟨h2, h3, h4, h5, h6⟩ := fits_iff.1 hf
    rw [vecB_iff] at h2 h3
    exact ⟨in64_of (n := a.A - b.A) (by omega) (by omega), in64_of (n := a.B - b.B) (by omega) (by omega), in64_of (n := a.C - b.C) (by omega) (by omega)⟩
  · exact ⟨in64_of (n := 0) (by omega) (by omega), in64_of (n := 0) (by omega) (by omega), in64_of (n := 0) (by omega) (by omega)⟩
set_option maxHeartbeats 8000000 in
set_option maxRecDepth 10000 in
theorem l03Change_c (xs : List Pt) (fr to : Int) (v : Vec) (A : Option Addr) (n c : Nat) (w : World) (h : SlAt RPt 4 w A n xs) (hl : n ≤ 200) (hall : ∀ x ∈ xs, ptB x = true) (hf : In64 fr) (ht : In64 to) : Calls Try.prog 108 #[.agg #[.slice A n c], .int .i64 fr, .int .i64 to, .agg #[.int .i64 v.A, .int .i64 v.B, .int .i64 v.C], .bool false] w (RetProfB w) := by
  obtain ⟨i0, hi, hI0, hI1, hI2⟩ := info_parts Pt.info
  have HM := Lib.hid (Flat.mono Pt.enc Pt.ok)
  have HH := Lib.hid h
  have hT := Lib.hid (fun (u : World) (e : Ext w u) => l03Times_c xs fr to A n c u (h.ext HM.out e) hl hf ht)
  have hV := Lib.hid (fun (t : Int) (u : World) (e : Ext w u) => l03At_c xs t A n c u (h.ext HM.out e) (by unfold maxLen; omega))
  have HFB := Lib.hid (fun t => freeAt_in hall t)
  have HLEN := Lib.hid (show (timesL xs fr to).length ≤ n + 2 by have := timesL_len xs fr to; rw [h.len] at this; exact this)
  have HP := Lib.hid (fun (ys : List Pt) (A : Option Addr) (c : Nat) (u : World) (h : SlAt RPt 4 u A ys.length ys) (hl : ys.length ≤ maxLen) => sProfOk_c ys A ys.length c u h hl)
  generalize timesL xs fr to = ts at *
  clear h hall hf ht
  go_enter Try.func108, Try.ntmps108
  go_wp2_with fail
  refine (hT.out _ (by repeat (first | exact Ext.refl _ | assumption | apply Ext.alloc | apply Ext.drewN | apply Ext.drew | (refine Ext.setCell ?_ (by first | (simp; done) | (simp; omega) | omega) _) | (refine Ext.trans ?_ (by assumption))))).mono ?_
  rintro e w2 ⟨A2, c2, rfl, hs2, hlo2, hb2⟩
  have HSL := Lib.hid hs2
  have HLO := Lib.hid (show ∀ k, (Value.slice A2 ts.length c2).ownBlock = some k → w.heap.size + 1 + 1 + 1 < k from fun k hk => by have := hlo2 k hk; simp at this; omega)
  have hlen : ts.length ≤ 202 := by have := HLEN.out; omega
  have hz2 := hb2.le
  simp at hz2
  have x0 := (((((Ext.refl _).alloc _).alloc _).alloc _).trans hb2).cell (cell_box_at w (w.heap.size) (by simp) [.slice A n c] 40 0 _ rfl)
  have xf0 := ((((((Ext.refl _).alloc _).alloc _).alloc _).trans hb2).frozenEq (a := ⟨w.heap.size, 0, none⟩) (by simp)).trans (frozen_box_at w (w.heap.size) (by simp) #[.slice A n c] 40 0)
  have y0 := ((((Ext.refl _).alloc _).alloc _).trans hb2).cell (cell_box_at (w.alloc (.cells #[.slice A n c] 40)) (w.heap.size + 1) (by simp) [.int .i64 v.A, .int .i64 v.B, .int .i64 v.C] 42 0 _ rfl)
  have y1 := ((((Ext.refl _).alloc _).alloc _).trans hb2).cell (cell_box_at (w.alloc (.cells #[.slice A n c] 40)) (w.heap.size + 1) (by simp) [.int .i64 v.A, .int .i64 v.B, .int .i64 v.C] 42 1 _ rfl)
  have y2 := ((((Ext.refl _).alloc _).alloc _).trans hb2).cell (cell_box_at (w.alloc (.cells #[.slice A n c] 40)) (w.heap.size + 1) (by simp) [.int .i64 v.A, .int .i64 v.B, .int .i64 v.C] 42 2 _ rfl)
  have yf0 := (((((Ext.refl _).alloc _).alloc _).trans hb2).frozenEq (a := ⟨w.heap.size + 1, 0, none⟩) (by simp)).trans (frozen_box_at (w.alloc (.cells #[.slice A n c] 40)) (w.heap.size + 1) (by simp) #[.int .i64 v.A, .int .i64 v.B, .int .i64 v.C] 42 0)
  have yf1 := (((((Ext.refl _).alloc _).alloc _).trans hb2).frozenEq (a := ⟨w.heap.size + 1, 1, none⟩) (by simp)).trans (frozen_box_at (w.alloc (.cells #[.slice A n c] 40)) (w.heap.size + 1) (by simp) #[.int .i64 v.A, .int .i64 v.B, .int .i64 v.C] 42 1)
  have yf2 := (((((Ext.refl _).alloc _).alloc _).trans hb2).frozenEq (a := ⟨w.heap.size + 1, 2, none⟩) (by simp)).trans (frozen_box_at (w.alloc (.cells #[.slice A n c] 40)) (w.heap.size + 1) (by simp) #[.int .i64 v.A, .int .i64 v.B, .int .i64 v.C] 42 2)
  have r0 := (((Ext.refl _).alloc _).trans hb2).cell (cell_box_at ((w.alloc (.cells #[.slice A n c] 40)).alloc (.cells #[.int .i64 v.A, .int .i64 v.B, .int .i64 v.C] 42)) (w.heap.size + 1 + 1) (by simp) [.slice none 0 0] 40 0 _ rfl)
  have rf0 := ((((Ext.refl _).alloc _).trans hb2).frozenEq (a := ⟨w.heap.size + 1 + 1, 0, none⟩) (by simp)).trans (frozen_box_at ((w.alloc (.cells #[.slice A n c] 40)).alloc (.cells #[.int .i64 v.A, .int .i64 v.B, .int .i64 v.C] 42)) (w.heap.size + 1 + 1) (by simp) #[.slice none 0 0] 40 0)
  have q0 := (hb2).cell (cell_box_at (((w.alloc (.cells #[.slice A n c] 40)).alloc (.cells #[.int .i64 v.A, .int .i64 v.B, .int .i64 v.C] 42)).alloc (.cells #[.slice none 0 0] 40)) (w.heap.size + 1 + 1 + 1) (by simp) [.slice none 0 0] 40 0 _ rfl)
  have qf0 := ((hb2).frozenEq (a := ⟨w.heap.size + 1 + 1 + 1, 0, none⟩) (by simp)).trans (frozen_box_at (((w.alloc (.cells #[.slice A n c] 40)).alloc (.cells #[.int .i64 v.A, .int .i64 v.B, .int .i64 v.C] 42)).alloc (.cells #[.slice none 0 0] 40)) (w.heap.size + 1 + 1 + 1) (by simp) #[.slice none 0 0] 40 0)
  have hE2 := Lib.hid (show Ext w w2 from (by repeat (first | exact Ext.refl _ | assumption | apply Ext.alloc | apply Ext.drewN | apply Ext.drew | (refine Ext.setCell ?_ (by first | (simp; done) | (simp; omega) | omega) _) | (refine Ext.trans ?_ (by assumption)))))
  have HX := Lib.hid (show w2.cell? ⟨w.heap.size, 0, none⟩ = some (.slice A n c) from x0)
  have HY := Lib.hid (show w2.cell? ⟨w.heap.size + 1, 0, none⟩ = some (.int .i64 v.A) ∧ w2.cell? ⟨w.heap.size + 1, 1, none⟩ = some (.int .i64 v.B) ∧ w2.cell? ⟨w.heap.size + 1, 2, none⟩ = some (.int .i64 v.C) from ⟨y0, y1, y2⟩)
  have HR := Lib.hid (show w2.cell? ⟨w.heap.size + 1 + 1, 0, none⟩ = some (.slice none 0 0) ∧ w2.frozen? ⟨w.heap.size + 1 + 1, 0, none⟩ = false from ⟨r0, rf0⟩)
  clear hs2 hlo2 hT x0 xf0 y0 y1 y2 yf0 yf1 yf2 r0 rf0
  go_wp2
  go_loopw [24] (fun i wr => ∃ (k : Nat) (A1 : Option Addr) (c1 : Nat) (acc : List Pt), k ≤ ts.length ∧ i = .int .i64 k ∧ acc.length ≤ k ∧ Hid (wr.ownsRow w2.heap.size 93 4 (.slice A1 acc.length c1) acc.length (acc.flatMap Pt.enc)) ∧ Hid (∀ y ∈ acc, y.ok) ∧ Hid (Turned (w.heap.size + 1 + 1 + 1) (w.heap.size + 1 + 1 + 1 + 1) w2 wr) ∧ wr.cell? ⟨w.heap.size + 1 + 1 + 1, 0, none⟩ = some (.slice A1 acc.length c1) ∧ wr.frozen? ⟨w.heap.size + 1 + 1 + 1, 0, none⟩ = false) (fun i _ => ts.length - (intOf i).toNat)
  case atStart => exact ⟨0, none, 0, [], Nat.zero_le _, rfl, Nat.le_refl _, Lib.hid (World.ownsRow_nil _ _ _ _), Lib.hid (fun y hy => by cases hy), Lib.hid (Turned.refl _ _ _), q0, qf0⟩
  case round =>
    obtain ⟨k, A1, c1, acc, hk, rfl, hacc, HO, HIN, HT, c0, z0⟩ := hrel
    clear q0 qf0
    have hle := HT.out.le
    have x0 := cellT HT.out HX.out (by omega)
    have y0 := cellT HT.out HY.out.1 (by omega)
    have y1 := cellT HT.out HY.out.2.1 (by omega)
    have y2 := cellT HT.out HY.out.2.2 (by omega)
    have hb := ext_turned hE2.out HT.out (by omega)
    by_cases hlt : k < ts.length
    · obtain ⟨b, o, t, cs, rfl, hbw, hx, _, hc, rfl, htk⟩ := HSL.out.at_ hlt
      have g0 := hc 0 _ rfl
      simp only [Nat.mul_one, Nat.add_zero] at g0
      have g0 := cellT HT.out g0 (by have := HLO.out b rfl; omega)
      have hbr : b < wr.heap.size := by omega
      have HTK := Lib.hid htk
      clear hc hx htk
      go_wp2_with fail
      refine (hV.out t _ hb).mono ?_
      rintro e w3 ⟨rfl, hb3⟩
      have hv3 := vec_ok (HFB.out t)
      generalize freeAt xs t = u at *
      have x0 := hb3.cell x0
      have y0 := hb3.cell y0
      have y1 := hb3.cell y1
      have y2 := hb3.cell y2
      have HC0 := Lib.hid c0
      have HZ0 := Lib.hid z0
      have z0 := (hb3.frozenEq (lt_of_cell c0)).trans z0
      have c0 := hb3.cell c0
      have hc3 : w.heap.size + 1 + 1 + 1 < w3.heap.size := lt_of_cell c0
      have hc1 : w.heap.size + 1 < w3.heap.size := lt_of_cell y0
      rcases (show (fr ≤ t ∧ t < to) ∨ (¬ fr ≤ t) ∨ (fr ≤ t ∧ ¬ t < to) by omega) with ⟨h1, h2⟩ | h1 | ⟨h1, h2⟩
      · have HSUB := Lib.hid (fun a : World => sVecSub_c u v a)
        have HUS := Lib.hid (show (subV u v).ok from sub_ok hv3)
        generalize subV u v = u' at *
        generalize fitsB v u = tf at *
        go_wp2_with fail
        refine (HSUB.out _).mono ?_
        rintro e w5 ⟨rfl, hb5⟩
        have f0 := (hb5).cell (cell_box_at w3 (w3.heap.size) (by simp) [.int .i64 u.A, .int .i64 u.B, .int .i64 u.C] 42 0 _ rfl)
        have f1 := (hb5).cell (cell_box_at w3 (w3.heap.size) (by simp) [.int .i64 u.A, .int .i64 u.B, .int .i64 u.C] 42 1 _ rfl)
        have f2 := (hb5).cell (cell_box_at w3 (w3.heap.size) (by simp) [.int .i64 u.A, .int .i64 u.B, .int .i64 u.C] 42 2 _ rfl)
        have ff0 := ((hb5).frozenEq (a := ⟨w3.heap.size, 0, none⟩) (by simp)).trans (frozen_box_at w3 (w3.heap.size) (by simp) #[.int .i64 u.A, .int .i64 u.B, .int .i64 u.C] 42 0)
        have ff1 := ((hb5).frozenEq (a := ⟨w3.heap.size, 1, none⟩) (by simp)).trans (frozen_box_at w3 (w3.heap.size) (by simp) #[.int .i64 u.A, .int .i64 u.B, .int .i64 u.C] 42 1)
        have ff2 := ((hb5).frozenEq (a := ⟨w3.heap.size, 2, none⟩) (by simp)).trans (frozen_box_at w3 (w3.heap.size) (by simp) #[.int .i64 u.A, .int .i64 u.B, .int .i64 u.C] 42 2)
        have e35 : Ext w3 w5 := ((Ext.refl _).alloc _).trans hb5
        have hw35 := hb5.le
        simp at hw35
        have hl3 : w3.heap.size < w5.heap.size := by omega
        have hz3 := hb3.le
        have HEW := Lib.hid (show Ext wr (((w5.setCell ⟨w3.heap.size, 0, none⟩ (.int .i64 u'.A)).setCell ⟨w3.heap.size, 1, none⟩ (.int .i64 u'.B)).setCell ⟨w3.heap.size, 2, none⟩ (.int .i64 u'.C)) from Ext.setCell (Ext.setCell (Ext.setCell (hb3.trans e35) hz3 _) hz3 _) hz3 _)
        have HUV := Lib.hid HUS.out
        clear x0 y0 y1 y2
        cases tf
        · have r0 := Ext.cell (hb3.trans e35) (cellT HT.out HR.out.1 (by omega))
          have rf0 := (Ext.frozenEq (hb3.trans e35) (show w.heap.size + 1 + 1 < wr.heap.size by omega)).trans (frozenT HT.out HR.out.2 (by omega) (by omega))
          have hl5 : w.heap.size + 1 + 1 < w5.heap.size := lt_of_cell r0
          have hne : ¬ w3.heap.size = w.heap.size + 1 + 1 := by omega
          have hne2 : ¬ w.heap.size + 1 + 1 = w3.heap.size := by omega
          have HXX := Lib.hid (hb.trans HEW.out)
          clear c0 z0
          go_wp2
          exact bodyPost_ret (v := .tuple #[.agg #[.slice none 0 0], .bool false]) (by simp [results, Try.results108, go_sem, *]) rfl ⟨none, 0, [], false, rfl, World.ownsRow_nil _ _ _ _, (fun y hy => by cases hy), by simp, (fun h => by cases h), Ext.setCell HXX.out (by show w.heap.size ≤ w.heap.size + 1 + 1; omega) _⟩
        have z0 := (e35.frozenEq (lt_of_cell c0)).trans z0
        have c0 := e35.cell c0
        have hc5 : w.heap.size + 1 + 1 + 1 < w5.heap.size := lt_of_cell c0
        have hne3 : ¬ w3.heap.size = w.heap.size + 1 + 1 + 1 := by omega
        have hne4 : ¬ w.heap.size + 1 + 1 + 1 = w3.heap.size := by omega
        go_wp2
        have HCC := Lib.hid (fun nq => show ((((w5.setCell ⟨w3.heap.size, 0, none⟩ (.int .i64 u'.A)).setCell ⟨w3.heap.size, 1, none⟩ (.int .i64 u'.B)).setCell ⟨w3.heap.size, 2, none⟩ (.int .i64 u'.C)).drewN nq).cell? ⟨w.heap.size + 1 + 1 + 1, 0, none⟩ = some (.slice A1 acc.length c1) from Ext.cell (HEW.out.drewN nq) HC0.out)
        have HZC := Lib.hid (fun nq => show ((((w5.setCell ⟨w3.heap.size, 0, none⟩ (.int .i64 u'.A)).setCell ⟨w3.heap.size, 1, none⟩ (.int .i64 u'.B)).setCell ⟨w3.heap.size, 2, none⟩ (.int .i64 u'.C)).drewN nq).frozen? ⟨w.heap.size + 1 + 1 + 1, 0, none⟩ = false from (Ext.frozenEq (HEW.out.drewN nq) (lt_of_cell HC0.out)).trans HZ0.out)
        have HLc := Lib.hid (fun nq => show w2.heap.size ≤ ((((w5.setCell ⟨w3.heap.size, 0, none⟩ (.int .i64 u'.A)).setCell ⟨w3.heap.size, 1, none⟩ (.int .i64 u'.B)).setCell ⟨w3.heap.size, 2, none⟩ (.int .i64 u'.C)).drewN nq).heap.size from Nat.le_trans hle (HEW.out.drewN nq).le)
        have HOc := Lib.hid (fun nq => owns_ext HO.out (HEW.out.drewN nq))
        have HTc := Lib.hid (fun nq => HT.out.ext (HEW.out.drewN nq))
        have HOq := Lib.hid (owns_ext HO.out HEW.out)
        have HUOK := Lib.hid (show (Pt.ok ⟨t, u'⟩) from ⟨HTK.out, HUV.out⟩)
        have HSA := Lib.hid (fun (hm : 0 < acc.length) => (rowD_sl (enc := Pt.enc) (ok := Pt.ok) Pt.size HOq.out HIN.out).at_ (show acc.length - 1 < acc.length by omega))
        have hdc : 0 < acc.length → ((acc.length : Int) == 0) = false ∧ IntKind.i64.wrap ((acc.length : Int) - 1) = ((acc.length - 1 : Nat) : Int) := fun hm => ⟨by rw [beq_eq_false_iff_ne]; omega, by rw [IntWalk.i64_in _ (by omega)]; omega⟩
        generalize hm : acc.length = m at *
        have HMM := Lib.hid hm
        clear hm
        by_cases hm : m = 0
        · subst hm
          clear HSA hdc
          go_quiet (fail)
          have cc := HCC.out nq
          have zc := HZC.out nq
          go_wp2_with (at_builtin; go_must (refine wpList_append_one_t (.tmp 72) (.tmp 76) _ w2.heap.size 93 i0 _ 4 32 _ 0 _ (Pt.enc ⟨t, u'⟩) rfl rfl Try.underlying38 hi hI0 hI1 hI2 rfl (by omega) rfl (HOc.out nq) _ rfl (by first | rfl | simp) rfl (Pt.one _) (by unfold maxLen; omega) (by omega) (HLc.out nq) ?_); intro A7 c7 w7 ho7 ht7 hs7 hk7; have r7 := cell_low ht7 cc (by omega); have z7 := frozen_low ht7 zc (lt_of_cell cc) (by omega))
          have hl7 := lt_of_cell r7
          have HO7 := Lib.hid (owns_other (p := ⟨w.heap.size + 1 + 1 + 1, 0, none⟩) ho7 (fun q hq => by have := (ho7.lt q hq).1; simp only []; omega) (.slice A7 (0 + 1) c7))
          have HT7 := Lib.hid (turned_at (j := 0) (u := .slice A7 (0 + 1) c7) (turned_low (HTc.out nq) ht7 (Nat.le_refl _)))
          clear ho7 ht7 hk7
          go_wp2
          go_roundw
          case rel => exact ⟨k + 1, A7, c7, acc ++ [⟨t, u'⟩], by omega, by go_num, by (rw [List.length_append, HMM.out, List.length_singleton]; omega), Lib.hid (by rw [List.flatMap_append, List.length_append, HMM.out]; simpa using HO7.out), Lib.hid (all_snoc HIN.out HUOK.out), HT7, by (rw [List.length_append, HMM.out]; first | done | go_simp | skip), by go_simp⟩
          case measure => simp [intOf]; omega
        · have hm1 : 0 < m := by omega
          have hm2 := hdc hm1
          have hm3 : m - 1 < m := by omega
          obtain ⟨hm4, hm5⟩ := hm2
          obtain ⟨bq, oq, y, csq, e, hbq, hyx, _, hcq, rfl, _⟩ := HSA.out hm1
          subst e
          have d0 := hcq 0 _ rfl
          have d1 := hcq 1 _ rfl
          have d2 := hcq 2 _ rfl
          have d3 := hcq 3 _ rfl
          simp only [Nat.add_zero] at d0
          clear hcq hyx hdc HSA
          go_quiet (fail)
          clear hm4 hm5 d0 d1 d2 d3 hm
          generalize (!(y.Free.A == u'.A) || (!(y.Free.B == u'.B) || !(y.Free.C == u'.C))) = tb
          cases tb
          · skip
            go_wp2
            go_roundw
            case rel => exact ⟨k + 1, _, c1, acc, by omega, by go_num, by rw [HMM.out]; omega, Lib.hid (by rw [HMM.out]; exact HOc.out nq), HIN, Lib.hid (HTc.out nq), by rw [HMM.out]; exact HCC.out nq, HZC.out nq⟩
            case measure => simp [intOf]; omega
          · skip
            have cc := HCC.out nq
            have zc := HZC.out nq
            go_wp2_with (at_builtin; go_must (refine wpList_append_one_t (.tmp 72) (.tmp 76) _ w2.heap.size 93 i0 _ 4 32 _ m _ (Pt.enc ⟨t, u'⟩) rfl rfl Try.underlying38 hi hI0 hI1 hI2 rfl (by omega) rfl (HOc.out nq) _ rfl (by first | rfl | simp) rfl (Pt.one _) (by unfold maxLen; omega) (by omega) (HLc.out nq) ?_); intro A7 c7 w7 ho7 ht7 hs7 hk7; have r7 := cell_low ht7 cc (by omega); have z7 := frozen_low ht7 zc (lt_of_cell cc) (by omega))
            have hl7 := lt_of_cell r7
            have HO7 := Lib.hid (owns_other (p := ⟨w.heap.size + 1 + 1 + 1, 0, none⟩) ho7 (fun q hq => by have := (ho7.lt q hq).1; simp only []; omega) (.slice A7 (m + 1) c7))
            have HT7 := Lib.hid (turned_at (j := 0) (u := .slice A7 (m + 1) c7) (turned_low (HTc.out nq) ht7 (Nat.le_refl _)))
            clear ho7 ht7 hk7
            go_wp2
            go_roundw
            case rel => exact ⟨k + 1, A7, c7, acc ++ [⟨t, u'⟩], by omega, by go_num, by (rw [List.length_append, HMM.out, List.length_singleton]; omega), Lib.hid (by rw [List.flatMap_append, List.length_append, HMM.out]; simpa using HO7.out), Lib.hid (all_snoc HIN.out HUOK.out), HT7, by (rw [List.length_append, HMM.out]; first | done | go_simp | skip), by go_simp⟩
            case measure => simp [intOf]; omega
      all_goals
        have HUV := Lib.hid hv3
        have hz3 := hb3.le
        go_wp2
        have HEW := Lib.hid (hb3.alloc (.cells #[.int .i64 u.A, .int .i64 u.B, .int .i64 u.C] 42))
        have HCC := Lib.hid (fun nq => show ((w3.alloc (.cells #[.int .i64 u.A, .int .i64 u.B, .int .i64 u.C] 42)).drewN nq).cell? ⟨w.heap.size + 1 + 1 + 1, 0, none⟩ = some (.slice A1 acc.length c1) from Ext.cell (HEW.out.drewN nq) HC0.out)
        have HZC := Lib.hid (fun nq => show ((w3.alloc (.cells #[.int .i64 u.A, .int .i64 u.B, .int .i64 u.C] 42)).drewN nq).frozen? ⟨w.heap.size + 1 + 1 + 1, 0, none⟩ = false from (Ext.frozenEq (HEW.out.drewN nq) (lt_of_cell HC0.out)).trans HZ0.out)
        have HLc := Lib.hid (fun nq => show w2.heap.size ≤ ((w3.alloc (.cells #[.int .i64 u.A, .int .i64 u.B, .int .i64 u.C] 42)).drewN nq).heap.size from Nat.le_trans hle (HEW.out.drewN nq).le)
        have HOc := Lib.hid (fun nq => owns_ext HO.out (HEW.out.drewN nq))
        have HTc := Lib.hid (fun nq => HT.out.ext (HEW.out.drewN nq))
        have HOq := Lib.hid (owns_ext HO.out HEW.out)
        have HUOK := Lib.hid (show (Pt.ok ⟨t, u⟩) from ⟨HTK.out, HUV.out⟩)
        have HSA := Lib.hid (fun (hm : 0 < acc.length) => (rowD_sl (enc := Pt.enc) (ok := Pt.ok) Pt.size HOq.out HIN.out).at_ (show acc.length - 1 < acc.length by omega))
        have hdc : 0 < acc.length → ((acc.length : Int) == 0) = false ∧ IntKind.i64.wrap ((acc.length : Int) - 1) = ((acc.length - 1 : Nat) : Int) := fun hm => ⟨by rw [beq_eq_false_iff_ne]; omega, by rw [IntWalk.i64_in _ (by omega)]; omega⟩
        generalize hm : acc.length = m at *
        have HMM := Lib.hid hm
        clear hm
        by_cases hm : m = 0
        · subst hm
          clear HSA hdc
          go_quiet (fail)
          have cc := HCC.out nq
          have zc := HZC.out nq
          go_wp2_with (at_builtin; go_must (refine wpList_append_one_t (.tmp 72) (.tmp 76) _ w2.heap.size 93 i0 _ 4 32 _ 0 _ (Pt.enc ⟨t, u⟩) rfl rfl Try.underlying38 hi hI0 hI1 hI2 rfl (by omega) rfl (HOc.out nq) _ rfl (by first | rfl | simp) rfl (Pt.one _) (by unfold maxLen; omega) (by omega) (HLc.out nq) ?_); intro A7 c7 w7 ho7 ht7 hs7 hk7; have r7 := cell_low ht7 cc (by omega); have z7 := frozen_low ht7 zc (lt_of_cell cc) (by omega))
          have hl7 := lt_of_cell r7
          have HO7 := Lib.hid (owns_other (p := ⟨w.heap.size + 1 + 1 + 1, 0, none⟩) ho7 (fun q hq => by have := (ho7.lt q hq).1; simp only []; omega) (.slice A7 (0 + 1) c7))
          have HT7 := Lib.hid (turned_at (j := 0) (u := .slice A7 (0 + 1) c7) (turned_low (HTc.out nq) ht7 (Nat.le_refl _)))
          clear ho7 ht7 hk7
          go_wp2
          go_roundw
          case rel => exact ⟨k + 1, A7, c7, acc ++ [⟨t, u⟩], by omega, by go_num, by (rw [List.length_append, HMM.out, List.length_singleton]; omega), Lib.hid (by rw [List.flatMap_append, List.length_append, HMM.out]; simpa using HO7.out), Lib.hid (all_snoc HIN.out HUOK.out), HT7, by (rw [List.length_append, HMM.out]; first | done | go_simp | skip), by go_simp⟩
          case measure => simp [intOf]; omega
        · have hm1 : 0 < m := by omega
          have hm2 := hdc hm1
          have hm3 : m - 1 < m := by omega
          obtain ⟨hm4, hm5⟩ := hm2
          obtain ⟨bq, oq, y, csq, e, hbq, hyx, _, hcq, rfl, _⟩ := HSA.out hm1
          subst e
          have d0 := hcq 0 _ rfl
          have d1 := hcq 1 _ rfl
          have d2 := hcq 2 _ rfl
          have d3 := hcq 3 _ rfl
          simp only [Nat.add_zero] at d0
          clear hcq hyx hdc HSA
          go_quiet (fail)
          clear hm4 hm5 d0 d1 d2 d3 hm
          generalize (!(y.Free.A == u.A) || (!(y.Free.B == u.B) || !(y.Free.C == u.C))) = tb
          cases tb
 
          · skip
            go_wp2
            go_roundw
            case rel => exact ⟨k + 1, _, c1, acc, by omega, by go_num, by rw [HMM.out]; omega, Lib.hid (by rw [HMM.out]; exact HOc.out nq), HIN, Lib.hid (HTc.out nq), by rw [HMM.out]; exact HCC.out nq, HZC.out nq⟩
            case measure => simp [intOf]; omega
          · skip
            have cc := HCC.out nq
            have zc := HZC.out nq
            go_wp2_with (at_builtin; go_must (refine wpList_append_one_t (.tmp 72) (.tmp 76) _ w2.heap.size 93 i0 _ 4 32 _ m _ (Pt.enc ⟨t, u⟩) rfl rfl Try.underlying38 hi hI0 hI1 hI2 rfl (by omega) rfl (HOc.out nq) _ rfl (by first | rfl | simp) rfl (Pt.one _) (by unfold maxLen; omega) (by omega) (HLc.out nq) ?_); intro A7 c7 w7 ho7 ht7 hs7 hk7; have r7 := cell_low ht7 cc (by omega); have z7 := frozen_low ht7 zc (lt_of_cell cc) (by omega))
            have hl7 := lt_of_cell r7
            have HO7 := Lib.hid (owns_other (p := ⟨w.heap.size + 1 + 1 + 1, 0, none⟩) ho7 (fun q hq => by have := (ho7.lt q hq).1; simp only []; omega) (.slice A7 (m + 1) c7))
            have HT7 := Lib.hid (turned_at (j := 0) (u := .slice A7 (m + 1) c7) (turned_low (HTc.out nq) ht7 (Nat.le_refl _)))
            clear ho7 ht7 hk7
            go_wp2
            go_roundw
            case rel => exact ⟨k + 1, A7, c7, acc ++ [⟨t, u⟩], by omega, by go_num, by (rw [List.length_append, HMM.out, List.length_singleton]; omega), Lib.hid (by rw [List.flatMap_append, List.length_append, HMM.out]; simpa using HO7.out), Lib.hid (all_snoc HIN.out HUOK.out), HT7, by (rw [List.length_append, HMM.out]; first | done | go_simp | skip), by go_simp⟩
            case measure => simp [intOf]; omega
    · have HKT := Lib.hid (show acc.length ≤ 202 by omega)
      have HSA := Lib.hid (rowD_sl (enc := Pt.enc) (ok := Pt.ok) Pt.size HO.out HIN.out)
      have HPA := Lib.hid (HP.out acc A1 c1 wr HSA.out (by unfold maxLen; omega))
      have HPP := Lib.hid (fun (h : profB acc = true) => (show 1 ≤ acc.length ∧ acc.length ≤ 200 from ⟨(profB_parts h).1, (profB_parts h).2.1⟩))
      generalize profB acc = pb at *
      have HC0 := Lib.hid c0
      have r0' := cellT HT.out HR.out.1 (by omega)
      have rf0' := frozenT HT.out HR.out.2 (by omega) (by omega)
      go_wp2_with fail
      refine HPA.out.mono ?_
      rintro e w9 ⟨rfl, hb9⟩
      have r0 := hb9.cell r0'
      have rf0 := (hb9.frozenEq (lt_of_cell r0')).trans rf0'
      have c0 := hb9.cell HC0.out
      have hl9 : w.heap.size + 1 + 1 < w9.heap.size := lt_of_cell r0
      have hl8 : w.heap.size + 1 + 1 + 1 < w9.heap.size := lt_of_cell c0
      have HXX := Lib.hid (hb.trans hb9)
      have HON := Lib.hid (fun (a : Value) => owns_other (p := ⟨w.heap.size + 1 + 1, 0, none⟩) (owns_base (owns_ext HO.out hb9) (show w.heap.size ≤ w2.heap.size by omega)) (fun q hq => by have := (HO.out.lt q hq).1; simp only []; omega) a)
      clear r0' rf0' x0 y0 y1 y2 z0
      cases pb
      · go_wp2
        exact bodyPost_ret (v := .tuple #[.agg #[.slice none 0 0], .bool false]) (by simp [results, Try.results108, go_sem, *]) rfl ⟨none, 0, [], false, rfl, World.ownsRow_nil _ _ _ _, (fun y hy => by cases hy), by simp, (fun h => by cases h), Ext.setCell HXX.out (by show w.heap.size ≤ w.heap.size + 1 + 1; omega) _⟩
      · have HP2 := Lib.hid (HPP.out rfl)
        go_wp2
        exact bodyPost_ret (v := .tuple #[.agg #[.slice A1 acc.length c1], .bool true]) (by simp [results, Try.results108, go_sem, *]) rfl ⟨A1, c1, acc, true, rfl, HON.out _, HIN.out, HP2.out.2, fun _ => HP2.out.1, Ext.setCell HXX.out (by show w.heap.size ≤ w.heap.size + 1 + 1; omega) _⟩
end Go.Proofs.Ytbfambeoboiifaa
