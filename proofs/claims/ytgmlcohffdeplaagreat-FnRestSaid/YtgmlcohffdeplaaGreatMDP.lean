/- Merged by mergelean.py: DP, DP2, DRoomL. -/
import Derived.Test.YtgmlcohffdeplaaGreatMChg
import Derived.Test.YtgmlcohffdeplaaGreatMDraw
import Derived.Deep.RegionHeld3
import Derived.IntWalk
import Derived.Deep.RegionLaw
import Derived.Test.YtgmlcohffdeplaaGreatMRes
/-! DP -/
namespace Go.Proofs.YtgmlcohffdeplaaGreat
open Go.RowKit
set_option linter.unusedVariables false
theorem Pt.info : (Tryz.prog.info? 107).map (fun i => (i.zero, i.size, i.bytes)) = some (some (.agg #[.int .i64 0, .int .i64 0, .int .i64 0, .int .i64 0]), 4, 32) := by kernel_rfl
theorem Pt.one (x : Pt) : ∀ u ∈ x.enc, u.oneCell' = true := by
  intro u hu
  simp [Pt.enc] at hu
  rcases hu with rfl | rfl | rfl | rfl <;> rfl
def RetProfB (w : World) (m : Nat) : Ending → World → Prop := fun e w' => ∃ (A : Option Addr) (c : Nat) (pts : List Pt) (b : Bool), e = .returned (.tuple #[.agg #[.slice A pts.length c], .bool b]) ∧ w'.ownsRow w.heap.size 107 4 (.slice A pts.length c) pts.length (pts.flatMap Pt.enc) ∧ (∀ x ∈ pts, x.ok) ∧ pts.length ≤ m ∧ (b = true → 1 ≤ pts.length) ∧ Ext w w'
def RetProfT (w : World) : Ending → World → Prop := fun e w' => ∃ (A : Option Addr) (c : Nat) (pts : List Pt), e = .returned (.tuple #[.agg #[.slice A pts.length c], .bool true]) ∧ w'.ownsRow w.heap.size 107 4 (.slice A pts.length c) pts.length (pts.flatMap Pt.enc) ∧ (∀ x ∈ pts, x.ok) ∧ pts.length ≤ 1 ∧ 1 ≤ pts.length ∧ Ext w w'
theorem takeQ_len {p o : List Pt} {fr te : Int} {v : Vec} (h : takeQ p fr te v = some o) : o.length ≤ p.length + 2 := by
  unfold takeQ at h
  split at h
  · unfold takeP takeG at h
    split at h
    · cases h
    · rename_i o' ho
      split at h
      · injection h with h; subst h
        have h1 := chg_len _ _ _ ho
        have h2 := timesL_len p fr te
        simp only [List.length_nil] at h1
        omega
      · cases h
  · cases h
theorem dTake_c (xs : List Pt) (fr te : Int) (v : Vec) (A : Option Addr) (n c : Nat) (w : World) (h : SlAt RPt 4 w A n xs) (hl : n ≤ 1000) : Calls Tryz.prog 135 #[.agg #[.slice A n c], .int .i64 fr, .int .i64 te, .agg #[.int .i64 v.A, .int .i64 v.B, .int .i64 v.C]] w (RetProfB w (n + 2)) := by
  refine (sProfTake_c xs fr te v A n c w h (by unfold maxLen; omega)).mono ?_
  rintro e w1 ⟨A1, c1, l, rfl, hl1, ho, hk, hb⟩
  have hxl := h.len
  refine ⟨A1, c1, l, (takeQ xs fr te v).isSome, rfl, ho, hk, ?_, fun hi => ?_, hb⟩
  · rcases hl1 with h1 | ⟨_, rfl⟩
    · have := takeQ_len h1; omega
    · simp
  · rcases hl1 with h1 | ⟨h1, rfl⟩
    · exact (profB_parts (takeQ_valid h1)).1
    · rw [h1] at hi; cases hi
theorem dNew_c (w : World) : Calls Tryz.prog 110 #[.agg #[.int .i64 8, .int .i64 16, .int .i64 2]] w (RetProfT w) := by
  have h := sProfNew_c ⟨8, 16, 2⟩ w
  rw [show vecB ⟨8, 16, 2⟩ = true by decide, if_pos rfl] at h
  refine h.mono ?_
  rintro e w1 ⟨A1, c1, l, rfl, hl1, ho, hk, hb⟩
  rcases hl1 with h1 | ⟨h1, _⟩
  · injection h1 with h1; subst h1
    exact ⟨A1, c1, _, rfl, ho, hk, by simp, by simp, hb⟩
  · cases h1
def RetProfD (w : World) (g : Nat) : Ending → World → Prop := fun e w' => ∃ (A : Option Addr) (c : Nat) (pts : List Pt), e = .returned (.agg #[.slice A pts.length c]) ∧ w'.ownsRow w.heap.size 107 4 (.slice A pts.length c) pts.length (pts.flatMap Pt.enc) ∧ (∀ x ∈ pts, x.ok) ∧ pts.length ≤ 13 ∧ 1 ≤ pts.length ∧ Turned g (g + 1) w w' ∧ Cur w' g
set_option maxHeartbeats 8000000 in
set_option maxRecDepth 10000 in
theorem l03Draw_c (g : Nat) (w : World) (hc : Cur w g) : Calls Tryz.prog 116 #[.pointer (some ⟨g, 0, none⟩)] w (RetProfD w g) := by
  have hgw := hc.lt
  have HB := Lib.hid (fun (n : Int) (hn : In64 n) (u : World) (hu : Cur u g) => l01Below_c g n u hu hn)
  have H9 : Hid (∀ n : Int, -1000000 ≤ n → n ≤ 1000000 → In64 n) := Lib.hid (fun n h1 h2 => by unfold In64; omega)
  have HCi := Lib.hid hc
  clear hc
  go_enter Tryz.func116, Tryz.ntmps116
  go_wp2_with fail
  refine (dNew_c _).mono ?_
  rintro e w1 ⟨A1, c1, p1, rfl, ho1, hk1, hl1, hp1, hb1⟩
  have hs1 := hb1.le
  simp at hs1
  have HO1 := Lib.hid (owns_base ho1 (show w.heap.size + 1 ≤ (w.alloc (.cells #[.slice none 0 0] 42)).heap.size by simp))
  have HB1 := Lib.hid (((Ext.refl w).alloc (.cells #[.slice none 0 0] 42)).trans hb1)
  have HR1 := Lib.hid (hb1.cell (dcell_box w [.slice none 0 0] 42 0 _ rfl))
  have HF1 := Lib.hid ((hb1.frozenEq (a := ⟨w.heap.size, 0, none⟩) (by simp)).trans (dfrozen_box w [.slice none 0 0] 42 0))
  have HT0 := Lib.hid ((HB1.out.alloc (.cells #[.slice A1 p1.length c1] 42)).turned g (g + 1))
  have HC0 := Lib.hid (HCi.out.ext (HB1.out.alloc (.cells #[.slice A1 p1.length c1] 42)))
  clear ho1 hb1
  go_wp2_with fail
  refine (HB.out 6 (H9.out _ (by omega) (by omega)) _ HC0.out).mono ?_
  rintro e w2 ⟨v2, rfl, ⟨hv2a, hv2b⟩, ht2, hc2⟩
  have HT2 := Lib.hid (HT0.out.trans ht2)
  have HC2 := Lib.hid hc2
  have HX2 := Lib.hid (cellT ht2 (dcell_box w1 [.slice A1 p1.length c1] 42 0 _ rfl) (by omega))
  have HZ2 := Lib.hid (frozenT ht2 (dfrozen_box w1 [.slice A1 p1.length c1] 42 0) (by simp) (by omega))
  have HO2 := Lib.hid (ownsT (owns_ext HO1.out ((Ext.refl _).alloc (.cells #[.slice A1 p1.length c1] 42))) ht2 (by omega))
  have HR2 := Lib.hid (cellT ht2 (((Ext.refl _).alloc _).cell HR1.out) (by omega))
  have HF2 := Lib.hid (frozenT ht2 ((((Ext.refl _).alloc (.cells #[.slice A1 p1.length c1] 42)).frozenEq (lt_of_cell HR1.out)).trans HF1.out) (by simp; omega) (by omega))
  clear ht2 hc2
  go_wp2
  go_loopw [5] (fun nv wr => ∃ (v : Int) (A2 : Option Addr) (c2 : Nat) (pts : List Pt), 0 ≤ v ∧ v ≤ 6 ∧ nv = .int .i64 v ∧ (pts.length : Int) + 2 * v ≤ 13 ∧ 1 ≤ pts.length ∧ Hid (wr.ownsRow (w.heap.size + 1) 107 4 (.slice A2 pts.length c2) pts.length (pts.flatMap Pt.enc)) ∧ Hid (∀ y ∈ pts, y.ok) ∧ Hid (Turned g (g + 1) w wr) ∧ Hid (Cur wr g) ∧ Hid (wr.cell? ⟨w1.heap.size, 0, none⟩ = some (.slice A2 pts.length c2)) ∧ Hid (wr.frozen? ⟨w1.heap.size, 0, none⟩ = false) ∧ Hid (wr.cell? ⟨w.heap.size, 0, none⟩ = some (.slice none 0 0)) ∧ Hid (wr.frozen? ⟨w.heap.size, 0, none⟩ = false)) (fun nv _ => (intOf nv).toNat)
  case atStart => exact ⟨v2, A1, c1, p1, hv2a, by omega, rfl, by omega, hp1, HO2, Lib.hid hk1, HT2, HC2, HX2, HZ2, HR2, HF2⟩
  case round =>
    obtain ⟨v, A2, c2, pts, hv0, hv6, rfl, hpl, hp1', HO0, HIN, HT0', HC0', HX0, HZ0, HR0, HF0⟩ := hrel
    clear hl1 hk1
    by_cases hlt : 0 < v
    · have x0 := HX0.out
      have hlx := lt_of_cell x0
      go_wp2_with fail
      refine (HB.out 60 (H9.out _ (by omega) (by omega)) _ HC0'.out).mono ?_
      rintro e w3 ⟨v3, rfl, ⟨hv3a, hv3b⟩, ht3, hc3⟩
      have HT3 := Lib.hid (HT0'.out.trans ht3)
      have HC3 := Lib.hid hc3
      have HXP := Lib.hid (cellT ht3 HX0.out (by omega))
      have HFP := Lib.hid (frozenT ht3 HZ0.out hlx (by omega))
      have HO3 := Lib.hid (ownsT HO0.out ht3 (by omega))
      have HR3 := Lib.hid (cellT ht3 HR0.out (by omega))
      have HF3 := Lib.hid (frozenT ht3 HF0.out (lt_of_cell HR0.out) (by omega))
      have x3 := HXP.out
      clear ht3 hc3 x0 hlx
      go_wp2
      have HSL := Lib.hid (fun (u : World) (e : Turned g (g + 1) w3 u) => rowD_sl (enc := Pt.enc) (ok := Pt.ok) Pt.size (ownsT HO3.out e (by omega)) HIN.out)
      have hs3 : w1.heap.size < w3.heap.size := lt_of_cell x3
      go_region_held3 (fun u => u.cell? ⟨w1.heap.size, 0, none⟩ = some (.slice A2 pts.length c2)) ((first | exact x8 | exact x7 | exact x6 | exact x5 | exact x4 | exact x3 | exact Ext.cell ((Ext.refl _).drew) x3 | exact Ext.cell ((Ext.refl _).alloc _) x8 | exact Ext.cell ((Ext.refl _).alloc _) x7 | exact Ext.cell ((Ext.refl _).alloc _) x6 | exact Ext.cell ((Ext.refl _).alloc _) x5 | exact Ext.cell ((Ext.refl _).alloc _) x4 | exact Ext.cell (((Ext.refl _).drew).alloc _) x3 | (rw [World.cell?_setCell_other] <;> first | exact x8 | exact Ext.cell ((Ext.refl _).alloc _) x8 | (intro e; injection e with e; omega)))) (first | (go_at_call 89; (with_reducible refine (HB.out 40 (H9.out _ (by omega) (by omega)) _ (HC3.out.ext (by repeat (first | exact Ext.refl _ | apply Ext.alloc | apply Ext.drew | apply Ext.drewN)))).mono ?_); rintro e w4 ⟨v4, rfl, ⟨hv4a, hv4b⟩, ht4, hc4⟩; have HQ4 := Lib.hid ((Ext.turned (w := w3) (by repeat (first | exact Ext.refl _ | apply Ext.alloc | apply Ext.drew | apply Ext.drewN)) g (g + 1)).trans ht4); have HC4 := Lib.hid hc4; have x4 := cellT HQ4.out HXP.out (by omega); have hs4 := Nat.le_trans hs3 HQ4.out.le; (first | (have kb := cellT ht4 kb (by omega); have kf := frozenT ht4 kf hkl (by omega); have hkl := Nat.lt_of_lt_of_le hkl ht4.le) | (have kb : w4.cell? ⟨w3.heap.size, 0, none⟩ = some (.slice none 0 0) := cellT ht4 (dcell_box w3.drew [.slice none 0 0] 42 0 _ rfl) (by have := hs3; simp; omega); have kf : w4.frozen? ⟨w3.heap.size, 0, none⟩ = false := frozenT ht4 (dfrozen_box w3.drew [.slice none 0 0] 42 0) (by simp) (by have := hs3; simp; omega); have hkl : w3.heap.size < w4.heap.size := lt_of_cell kb) | (have kb := cellT ht4 (dcell_box w3 [.slice none 0 0] 42 0 _ rfl) (by have := hs3; simp; omega); have kf := frozenT ht4 (dfrozen_box w3 [.slice none 0 0] 42 0) (by simp) (by have := hs3; simp; omega); have hkl := lt_of_cell kb) | skip); clear ht4 hc4) | (go_at_call 89; (with_reducible refine (HB.out 4 (H9.out _ (by omega) (by omega)) _ (HC4.out.ext (by repeat (first | exact Ext.refl _ | apply Ext.alloc | apply Ext.drew | apply Ext.drewN)))).mono ?_); rintro e w5 ⟨v5, rfl, ⟨hv5a, hv5b⟩, ht5, hc5⟩; have HQ5 := Lib.hid ((HQ4.out.ext (by repeat (first | exact Ext.refl _ | apply Ext.alloc | apply Ext.drew | apply Ext.drewN))).trans ht5); have HC5 := Lib.hid hc5; have x5 := cellT HQ5.out HXP.out (by omega); have hs5 := Nat.le_trans hs3 HQ5.out.le; (first | (have kb := cellT ht5 kb (by omega); have kf := frozenT ht5 kf hkl (by omega); have hkl := Nat.lt_of_lt_of_le hkl ht5.le) | (have kb := cellT ht5 (dcell_box w4 [.slice none 0 0] 42 0 _ rfl) (by have := hs4; simp; omega); have kf := frozenT ht5 (dfrozen_box w4 [.slice none 0 0] 42 0) (by simp) (by have := hs4; simp; omega); have hkl := lt_of_cell kb) | skip); clear ht5 hc5) | (go_at_call 89; (with_reducible refine (HB.out 6 (H9.out _ (by omega) (by omega)) _ (HC5.out.ext (by repeat (first | exact Ext.refl _ | apply Ext.alloc | apply Ext.drew | apply Ext.drewN)))).mono ?_); rintro e w6 ⟨v6, rfl, ⟨hv6a, hv6b⟩, ht6, hc6⟩; have HQ6 := Lib.hid ((HQ5.out.ext (by repeat (first | exact Ext.refl _ | apply Ext.alloc | apply Ext.drew | apply Ext.drewN))).trans ht6); have HC6 := Lib.hid hc6; have x6 := cellT HQ6.out HXP.out (by omega); have hs6 := Nat.le_trans hs3 HQ6.out.le; (first | (have kb := cellT ht6 kb (by omega); have kf := frozenT ht6 kf hkl (by omega); have hkl := Nat.lt_of_lt_of_le hkl ht6.le) | (have kb := cellT ht6 (dcell_box w5 [.slice none 0 0] 42 0 _ rfl) (by have := hs5; simp; omega); have kf := frozenT ht6 (dfrozen_box w5 [.slice none 0 0] 42 0) (by simp) (by have := hs5; simp; omega); have hkl := lt_of_cell kb) | skip); clear ht6 hc6) | (go_at_call 89; (with_reducible refine (HB.out 2 (H9.out _ (by omega) (by omega)) _ (HC6.out.ext (by repeat (first | exact Ext.refl _ | apply Ext.alloc | apply Ext.drew | apply Ext.drewN)))).mono ?_); rintro e w7 ⟨v7, rfl, ⟨hv7a, hv7b⟩, ht7, hc7⟩; have HQ7 := Lib.hid ((HQ6.out.ext (by repeat (first | exact Ext.refl _ | apply Ext.alloc | apply Ext.drew | apply Ext.drewN))).trans ht7); have HC7 := Lib.hid hc7; have x7 := cellT HQ7.out HXP.out (by omega); have hs7 := Nat.le_trans hs3 HQ7.out.le; (first | (have kb := cellT ht7 kb (by omega); have kf := frozenT ht7 kf hkl (by omega); have hkl := Nat.lt_of_lt_of_le hkl ht7.le) | (have kb := cellT ht7 (dcell_box w6 [.slice none 0 0] 42 0 _ rfl) (by have := hs6; simp; omega); have kf := frozenT ht7 (dfrozen_box w6 [.slice none 0 0] 42 0) (by simp) (by have := hs6; simp; omega); have hkl := lt_of_cell kb) | skip); clear ht7 hc7) | (go_at_call 135; (with_reducible refine (dTake_c pts _ _ ⟨v5, v6, v7⟩ A2 _ c2 _ (SlAt.ext (Flat.mono _ _) (HSL.out _ HQ7.out) (by repeat (first | exact Ext.refl _ | apply Ext.alloc | apply Ext.drew | apply Ext.drewN))) (by omega)).mono ?_); rintro e w8 ⟨A8, c8, p8, b8, rfl, ho8, hk8, hl8, hp8, hb8⟩; have HB8 := Lib.hid (Ext.trans (w := w7) (by repeat (first | exact Ext.refl _ | apply Ext.alloc | apply Ext.drew | apply Ext.drewN)) hb8); have z8 := (HB8.out.frozenEq (lt_of_cell x7)).trans (frozenT HQ7.out HFP.out (lt_of_cell HXP.out) (by omega)); have x8 := HB8.out.cell x7; have HO8 := Lib.hid ho8; (first | (have kf := (hb8.frozenEq hkl).trans kf; have kb := hb8.cell kb; have hkl := lt_of_cell kb) | (have kb := hb8.cell (dcell_box w7 [.slice none 0 0] 42 0 _ rfl); have kf := (hb8.frozenEq (by simp)).trans (dfrozen_box w7 [.slice none 0 0] 42 0); have hkl := lt_of_cell kb) | skip); clear ho8 hb8))
      all_goals
        have HT8 := Lib.hid ((HT3.out.trans HQ7.out).ext HB8.out)
        have HC8 := Lib.hid (HC7.out.ext HB8.out)
        have r8 := HB8.out.cell (cellT HQ7.out HR3.out (by omega))
        have rf8 := (HB8.out.frozenEq (lt_of_cell (cellT HQ7.out HR3.out (by omega)))).trans (frozenT HQ7.out HF3.out (lt_of_cell HR3.out) (by omega))
        have hlr := lt_of_cell r8
        have hlp := lt_of_cell x8
        have hs8 := HB8.out.le
        have n3 : ¬ w1.heap.size = w3.heap.size ∧ ¬ w1.heap.size = w4.heap.size ∧ ¬ w1.heap.size = w5.heap.size ∧ ¬ w1.heap.size = w6.heap.size ∧ ¬ w1.heap.size = w7.heap.size ∧ ¬ w1.heap.size = w8.heap.size := by omega
        have n4 : ¬ w3.heap.size = w1.heap.size ∧ ¬ w4.heap.size = w1.heap.size ∧ ¬ w5.heap.size = w1.heap.size ∧ ¬ w6.heap.size = w1.heap.size ∧ ¬ w7.heap.size = w1.heap.size ∧ ¬ w8.heap.size = w1.heap.size := by omega
        have n5 : ¬ w.heap.size = w3.heap.size ∧ ¬ w.heap.size = w4.heap.size ∧ ¬ w.heap.size = w5.heap.size ∧ ¬ w.heap.size = w6.heap.size ∧ ¬ w.heap.size = w7.heap.size ∧ ¬ w.heap.size = w8.heap.size ∧ ¬ w.heap.size = w1.heap.size := by omega
        have n6 : ¬ w3.heap.size = w.heap.size ∧ ¬ w4.heap.size = w.heap.size ∧ ¬ w5.heap.size = w.heap.size ∧ ¬ w6.heap.size = w.heap.size ∧ ¬ w7.heap.size = w.heap.size ∧ ¬ w8.heap.size = w.heap.size ∧ ¬ w1.heap.size = w.heap.size := by omega
        have hz1 : w1.heap.size < w8.heap.size := by omega
        have hz0 : w.heap.size < w8.heap.size := by omega
        have HRBL := HO8
        have HRB := Lib.hid (owns_base HO8.out (show w.heap.size + 1 ≤ _ by first | omega | (simp; omega)))
        have HRA := Lib.hid (owns_ext (ownsT HO3.out HQ7.out (by omega)) HB8.out)
        have HRAL := Lib.hid (ownsT HO3.out (Turned.refl g (g + 1) w3) (by omega))
        have hq4 := HQ4.out.le
        have hq5 := HQ5.out.le
        have hq6 := HQ6.out.le
        have hq7 := HQ7.out.le
        clear x3 x4 x5 x6 x7 hs4 hs5 hs6 hs7
        cases b8
        · go_wp2
          go_roundw
          case rel => exact ⟨v - 1, A2, c2, pts, by omega, by omega, by go_num, by omega, hp1', Lib.hid (by repeat (first | with_reducible exact HRA.out | (with_reducible refine owns_other ?_ (fun q hq => by have h1 := (HRAL.out.lt q hq).1; have h2 := (HRAL.out.lt q hq).2; (try simp at h1); simp only []; omega) _) | (with_reducible refine owns_ext ?_ ((Ext.refl _).alloc _)))), HIN, Lib.hid (by repeat (first | with_reducible exact HT8.out | (with_reducible refine turned_own ?_ (by omega)) | (with_reducible refine Turned.ext ?_ ((Ext.refl _).alloc _)))), Lib.hid (by repeat (first | with_reducible exact HC8.out | (with_reducible refine Cur.put ?_ (by omega)) | (with_reducible refine Cur.ext ?_ ((Ext.refl _).alloc _)))), Lib.hid (by go_simp), Lib.hid (by go_simp), Lib.hid (by go_simp), Lib.hid (by go_simp)⟩
          case measure => simp [intOf]; omega
        · go_wp2
          go_roundw
          case rel => exact ⟨v - 1, A8, c8, p8, by omega, by omega, by go_num, by omega, (hp8 rfl), Lib.hid (by repeat (first | with_reducible exact HRB.out | (with_reducible refine owns_other ?_ (fun q hq => by have h1 := (HRBL.out.lt q hq).1; have h2 := (HRBL.out.lt q hq).2; (try simp at h1); simp only []; omega) _) | (with_reducible refine owns_ext ?_ ((Ext.refl _).alloc _)))), Lib.hid hk8, Lib.hid (by repeat (first | with_reducible exact HT8.out | (with_reducible refine turned_own ?_ (by omega)) | (with_reducible refine Turned.ext ?_ ((Ext.refl _).alloc _)))), Lib.hid (by repeat (first | with_reducible exact HC8.out | (with_reducible refine Cur.put ?_ (by omega)) | (with_reducible refine Cur.ext ?_ ((Ext.refl _).alloc _)))), Lib.hid (by go_simp), Lib.hid (by go_simp), Lib.hid (by go_simp), Lib.hid (by go_simp)⟩
          case measure => simp [intOf]; omega
    · have hv : v = 0 := by omega
      subst hv
      have x0 := HX0.out
      have z0 := HZ0.out
      have r0 := HR0.out
      have rf0 := HF0.out
      have hlx := lt_of_cell x0
      have hlr := lt_of_cell r0
      have n1 : ¬ w1.heap.size = w.heap.size := by omega
      have n2 : ¬ w.heap.size = w1.heap.size := by omega
      go_wp2
      exact bodyPost_ret (v := .agg #[.slice A2 pts.length c2]) (by simp [results, Tryz.results116, go_sem, *]) rfl ⟨A2, c2, pts, rfl, owns_other (p := ⟨w.heap.size, 0, none⟩) (owns_base HO0.out (by omega)) (fun q hq => by have := (HO0.out.lt q hq).1; simp only []; omega) _, HIN.out, by omega, hp1', turned_own HT0'.out (Nat.le_refl _), HC0'.out.put hgw⟩
end Go.Proofs.YtgmlcohffdeplaaGreat
/-! DP2 -/
namespace Go.Proofs.YtgmlcohffdeplaaGreat
open Go.RowKit
set_option linter.unusedVariables false
theorem own_type_ne {w : World} {base n b : Nat} {e e' : TypeId} {sz : Nat} {v : Value} {L : List Value} {cs : Array Value} (h : w.ownsRow base e sz v n L) (hb : w.heap[b]? = some (Obj.cells cs e')) (hne : e ≠ e') : ∀ q, v.ownBlock = some q → q ≠ b := by
  intro q hq hqb
  subst hqb
  rcases h.2 with ⟨rfl, _⟩ | ⟨g, cap, cur, rfl, _, hh, _⟩
  · cases hq
  · have e1 : g = q := Option.some.inj hq
    subst e1
    rw [hh] at hb
    injection hb with hb
    injection hb with _ h2
    exact hne h2
def RetProfA (w : World) (g : Nat) : Ending → World → Prop := fun e w' => ∃ (A : Option Addr) (c : Nat) (pts : List Pt), e = .returned (.agg #[.slice A pts.length c]) ∧ w'.ownsRow w.heap.size 107 4 (.slice A pts.length c) pts.length (pts.flatMap Pt.enc) ∧ (∀ x ∈ pts, x.ok) ∧ pts.length ≤ 14 ∧ Turned g (g + 1) w w' ∧ Cur w' g
set_option maxHeartbeats 8000000 in
set_option maxRecDepth 10000 in
theorem l03Any_c (g : Nat) (w : World) (hc : Cur w g) : Calls Tryz.prog 91 #[.pointer (some ⟨g, 0, none⟩)] w (RetProfA w g) := by
  obtain ⟨i0, hi, hI0, hI1, hI2⟩ := info_parts Pt.info
  have hgw := hc.lt
  have HB := Lib.hid (fun (n : Int) (hn : In64 n) (u : World) (hu : Cur u g) => l01Below_c g n u hu hn)
  have HRW := Lib.hid (fun (u : World) (hu : Cur u g) => l01Raw_c g u hu)
  have HAY := Lib.hid (fun (u : World) (hu : Cur u g) => l01Any_c g u hu)
  have H9 : Hid (∀ n : Int, -1000000 ≤ n → n ≤ 1000000 → In64 n) := Lib.hid (fun n h1 h2 => by unfold In64; omega)
  have HDR := Lib.hid (l03Draw_c g _ (hc.ext ((Ext.refl w).alloc (.cells #[.slice none 0 0] 42))))
  clear hc
  go_enter Tryz.func91, Tryz.ntmps91
  go_wp2_with fail
  refine HDR.out.mono ?_
  rintro e w1 ⟨A1, c1, p1, rfl, ho1, hk1, hl1, hp1, ht1, hc1⟩
  have hs1 := ht1.le
  simp at hs1
  have HO1 := Lib.hid (owns_base ho1 (show w.heap.size + 1 ≤ (w.alloc (.cells #[.slice none 0 0] 42)).heap.size by simp))
  have HR1 := Lib.hid (cellT ht1 (dcell_box w [.slice none 0 0] 42 0 _ rfl) (by omega))
  have HF1 := Lib.hid (frozenT ht1 (dfrozen_box w [.slice none 0 0] 42 0) (by simp) (by omega))
  have HT1 := Lib.hid ((((Ext.refl w).alloc (.cells #[.slice none 0 0] 42)).turned g (g + 1)).trans ht1)
  have HC1 := Lib.hid hc1
  have HK1 := Lib.hid hk1
  clear ho1 ht1 hc1 hk1 HDR
  go_wp2_with fail
  refine (HB.out 12 (H9.out _ (by omega) (by omega)) _ (HC1.out.ext ((Ext.refl _).alloc _))).mono ?_
  rintro e w2 ⟨v2, rfl, ⟨hv2a, hv2b⟩, ht2, hc2⟩
  have HT2 := Lib.hid ((HT1.out.ext ((Ext.refl _).alloc (.cells #[.slice A1 p1.length c1] 42))).trans ht2)
  have HC2 := Lib.hid hc2
  have HX2 := Lib.hid (cellT ht2 (dcell_box w1 [.slice A1 p1.length c1] 42 0 _ rfl) (by omega))
  have HB2 := Lib.hid (heapT ht2 (heap_alloc_new w1 (.cells #[.slice A1 p1.length c1] 42)) (by omega))
  have HZ2 := Lib.hid (frozenT ht2 (dfrozen_box w1 [.slice A1 p1.length c1] 42 0) (by simp) (by omega))
  have HO2 := Lib.hid (ownsT (owns_ext HO1.out ((Ext.refl _).alloc (.cells #[.slice A1 p1.length c1] 42))) ht2 (by omega))
  have HR2 := Lib.hid (cellT ht2 (((Ext.refl _).alloc _).cell HR1.out) (by omega))
  have HF2 := Lib.hid (frozenT ht2 ((((Ext.refl _).alloc (.cells #[.slice A1 p1.length c1] 42)).frozenEq (lt_of_cell HR1.out)).trans HF1.out) (by simp; omega) (by omega))
  have HQ1 := Lib.hid (show ∀ q, (Value.slice A1 p1.length c1).ownBlock = some q → w.heap.size + 1 ≤ q ∧ q < w1.heap.size from fun q hq => HO1.out.lt q hq)
  clear ht2 hc2
  have x2 := HX2.out
  have z2 := HZ2.out
  have r2 := HR2.out
  have rf2 := HF2.out
  have hlx := lt_of_cell x2
  have hlr := lt_of_cell r2
  have n1 : ¬ w1.heap.size = w.heap.size := by omega
  have n2 : ¬ w.heap.size = w1.heap.size := by omega
  obtain ⟨b, rfl, hbl, hbh⟩ := down_form HO1.out (by omega)
  have hbw1 : b < w1.heap.size := by omega
  by_cases hk0 : v2 = 0
  · subst hk0
    go_wp2
    have hs2 : w1.heap.size < w2.heap.size := hlx
    clear r2 rf2 z2
    go_region_held3 (fun u => u.cell? ⟨w1.heap.size, 0, none⟩ = some (.slice (some ⟨b, 0, none⟩) p1.length c1)) ((first | exact x4 | exact x3 | exact x2 | exact Ext.cell ((Ext.refl _).drew) x2 | (rw [World.cell?_setCell_other] <;> first | exact x4 | (intro e; injection e with e; omega)))) (first | (go_at_call 89; (with_reducible refine (HB.out p1.length (H9.out _ (by omega) (by omega)) _ (HC2.out.ext (by repeat (first | exact Ext.refl _ | apply Ext.alloc | apply Ext.drew | apply Ext.drewN)))).mono ?_); rintro e w3 ⟨v3, rfl, ⟨hv3a, hv3b⟩, ht3, hc3⟩; have HQ3 := Lib.hid ((Ext.turned (w := w2) (by repeat (first | exact Ext.refl _ | apply Ext.alloc | apply Ext.drew | apply Ext.drewN)) g (g + 1)).trans ht3); have HC3 := Lib.hid hc3; have x3 := cellT HQ3.out HX2.out (by omega); obtain ⟨j, rfl⟩ := Int.eq_ofNat_of_zero_le hv3a; have hj : j < p1.length := (by omega); clear ht3 hc3) | (go_at_call 93; (with_reducible refine (HRW.out _ HC3.out).mono ?_); rintro e w4 ⟨v4, rfl, hv4, ht4, hc4⟩; have HQ4 := Lib.hid (HQ3.out.trans ht4); have HC4 := Lib.hid hc4; have x4 := cellT HQ4.out HX2.out (by omega); have HV4 := Lib.hid hv4; have HO4 := Lib.hid (ownsT HO2.out HQ4.out (by omega)); obtain ⟨y0, hy0⟩ := owns_cell HO4.out (j := j * 4) (by omega); have yf0 := HO4.out.frozenAt (j * 4); clear ht4 hc4 hv4))
    all_goals
      have x5 := x4
      have z5 := frozenT HQ4.out HZ2.out hs2 (by omega)
      have r5 := cellT HQ4.out HR2.out (by omega)
      have rf5 := frozenT HQ4.out HF2.out hlr (by omega)
      have hl5 := lt_of_cell x5
      have hl6 := lt_of_cell r5
      have n3 : ¬ b = w1.heap.size ∧ ¬ w1.heap.size = b ∧ ¬ b = w.heap.size ∧ ¬ w.heap.size = b := by omega
      obtain ⟨xx, hxx⟩ : ∃ xx, p1[j]? = some xx := ⟨_, List.getElem?_eq_getElem hj⟩
      have HW := Lib.hid (owns_put (j := 0) (x' := ⟨v4, xx.Free⟩) Pt.size (by omega) hxx (u := .int .i64 v4) rfl HO4.out)
      have HKK := Lib.hid (all_set (k := j) HK1.out (show Pt.ok ⟨v4, xx.Free⟩ from ⟨HV4.out, (HK1.out xx (List.mem_of_getElem? hxx)).2⟩))
      have HT5 := Lib.hid (HT2.out.trans HQ4.out)
      clear x3 x4 hxx
      go_wp2
      exact bodyPost_ret (v := .agg #[.slice (some ⟨b, 0, none⟩) p1.length c1]) (by simp [results, Tryz.results91, go_sem, *]) rfl ⟨_, c1, p1.set j ⟨v4, xx.Free⟩, by rw [List.length_set], owns_other (p := ⟨w.heap.size, 0, none⟩) (owns_base HW.out (by omega)) (fun q hq => by have := (HW.out.lt q hq).1; simp only []; omega) _, HKK.out, by rw [List.length_set]; omega, turned_own (turned_own HT5.out (by omega)) (Nat.le_refl _), (HC4.out.put (by omega)).put hgw⟩
  by_cases hk1 : v2 = 1
  · subst hk1
    go_wp2
    have hs2 : w1.heap.size < w2.heap.size := hlx
    clear r2 rf2 z2 hk0
    go_region_held3 (fun u => u.cell? ⟨w1.heap.size, 0, none⟩ = some (.slice (some ⟨b, 0, none⟩) p1.length c1)) ((first | exact x4 | exact x3 | exact x2 | exact Ext.cell ((Ext.refl _).drew) x2 | (repeat (first | exact x4 | (rw [World.cell?_setCell_other] <;> try (intro e; injection e with e; omega)))))) (first | (go_at_call 89; (with_reducible refine (HB.out p1.length (H9.out _ (by omega) (by omega)) _ (HC2.out.ext (by repeat (first | exact Ext.refl _ | apply Ext.alloc | apply Ext.drew | apply Ext.drewN)))).mono ?_); rintro e w3 ⟨v3, rfl, ⟨hv3a, hv3b⟩, ht3, hc3⟩; have HQ3 := Lib.hid ((Ext.turned (w := w2) (by repeat (first | exact Ext.refl _ | apply Ext.alloc | apply Ext.drew | apply Ext.drewN)) g (g + 1)).trans ht3); have HC3 := Lib.hid hc3; have x3 := cellT HQ3.out HX2.out (by omega); obtain ⟨j, rfl⟩ := Int.eq_ofNat_of_zero_le hv3a; have hj : j < p1.length := (by omega); clear ht3 hc3) | (go_at_call 115; (with_reducible refine (HAY.out _ HC3.out).mono ?_); rintro e w4 ⟨v4, rfl, hv4, ht4, hc4⟩; have HQ4 := Lib.hid (HQ3.out.trans ht4); have HC4 := Lib.hid hc4; have x4 := cellT HQ4.out HX2.out (by omega); have HV4 := Lib.hid hv4; have HO4 := Lib.hid (ownsT HO2.out HQ4.out (by omega)); obtain ⟨y1, hy1⟩ := owns_cell HO4.out (j := j * 4 + 1) (by omega); obtain ⟨y2, hy2⟩ := owns_cell HO4.out (j := j * 4 + 2) (by omega); obtain ⟨y3, hy3⟩ := owns_cell HO4.out (j := j * 4 + 3) (by omega); have yf1 := HO4.out.frozenAt (j * 4 + 1); have yf2 := HO4.out.frozenAt (j * 4 + 2); have yf3 := HO4.out.frozenAt (j * 4 + 3); clear ht4 hc4 hv4))
    all_goals
      have x5 := x4
      have z5 := frozenT HQ4.out HZ2.out hs2 (by omega)
      have r5 := cellT HQ4.out HR2.out (by omega)
      have rf5 := frozenT HQ4.out HF2.out hlr (by omega)
      have hl5 := lt_of_cell x5
      have hl6 := lt_of_cell r5
      have n3 : ¬ b = w1.heap.size ∧ ¬ w1.heap.size = b ∧ ¬ b = w.heap.size ∧ ¬ w.heap.size = b := by omega
      obtain ⟨xx, hxx⟩ : ∃ xx, p1[j]? = some xx := ⟨_, List.getElem?_eq_getElem hj⟩
      have hx1 : (p1.set j ⟨xx.At, ⟨v4.A, xx.Free.B, xx.Free.C⟩⟩)[j]? = some ⟨xx.At, ⟨v4.A, xx.Free.B, xx.Free.C⟩⟩ := by rw [List.getElem?_set_self (by omega)]
      have hx2 : ((p1.set j ⟨xx.At, ⟨v4.A, xx.Free.B, xx.Free.C⟩⟩).set j ⟨xx.At, ⟨v4.A, v4.B, xx.Free.C⟩⟩)[j]? = some ⟨xx.At, ⟨v4.A, v4.B, xx.Free.C⟩⟩ := by rw [List.getElem?_set_self (by rw [List.length_set]; omega)]
      have HW1 := Lib.hid (owns_put (j := 1) (x' := ⟨xx.At, ⟨v4.A, xx.Free.B, xx.Free.C⟩⟩) Pt.size (by omega) hxx (u := .int .i64 v4.A) rfl HO4.out)
      have HW2 := Lib.hid (owns_put (j := 2) (x' := ⟨xx.At, ⟨v4.A, v4.B, xx.Free.C⟩⟩) Pt.size (by omega) hx1 (u := .int .i64 v4.B) rfl HW1.out)
      have HW := Lib.hid (owns_put (j := 3) (x' := ⟨xx.At, ⟨v4.A, v4.B, v4.C⟩⟩) Pt.size (by omega) hx2 (u := .int .i64 v4.C) rfl HW2.out)
      have hxo := HK1.out xx (List.mem_of_getElem? hxx)
      have HKK := Lib.hid (all_set (k := j) (all_set (k := j) (all_set (k := j) HK1.out (show Pt.ok ⟨xx.At, ⟨v4.A, xx.Free.B, xx.Free.C⟩⟩ from ⟨hxo.1, HV4.out.1, hxo.2.2.1, hxo.2.2.2⟩)) (show Pt.ok ⟨xx.At, ⟨v4.A, v4.B, xx.Free.C⟩⟩ from ⟨hxo.1, HV4.out.1, HV4.out.2.1, hxo.2.2.2⟩)) (show Pt.ok ⟨xx.At, ⟨v4.A, v4.B, v4.C⟩⟩ from ⟨hxo.1, HV4.out.1, HV4.out.2.1, HV4.out.2.2⟩))
      have HT5 := Lib.hid (HT2.out.trans HQ4.out)
      clear x3 x4 hxx hx1 hx2 hxo
      go_wp2
      exact bodyPost_ret (v := .agg #[.slice (some ⟨b, 0, none⟩) p1.length c1]) (by simp [results, Tryz.results91, go_sem, *]) rfl ⟨_, c1, ((p1.set j ⟨xx.At, ⟨v4.A, xx.Free.B, xx.Free.C⟩⟩).set j ⟨xx.At, ⟨v4.A, v4.B, xx.Free.C⟩⟩).set j ⟨xx.At, ⟨v4.A, v4.B, v4.C⟩⟩, by rw [List.length_set, List.length_set, List.length_set], owns_other (p := ⟨w.heap.size, 0, none⟩) (owns_base HW.out (by omega)) (fun q hq => by have := (HW.out.lt q hq).1; simp only []; omega) _, HKK.out, by rw [List.length_set, List.length_set, List.length_set]; omega, turned_own (turned_own (turned_own (turned_own HT5.out (by omega)) (by omega)) (by omega)) (Nat.le_refl _), (((HC4.out.put (by omega)).put (by omega)).put (by omega)).put hgw⟩
  by_cases hk2 : v2 = 2
  · subst hk2
    go_wp2
    have hs2 : w1.heap.size < w2.heap.size := hlx
    obtain ⟨b', o', y, cs, e, hbw, hyx, _, hcq, rfl, hyok⟩ := (rowD_sl (enc := Pt.enc) (ok := Pt.ok) Pt.size HO2.out HK1.out).at_ (show p1.length - 1 < p1.length by omega)
    simp only [Option.some.injEq, Addr.mk.injEq, and_true] at e
    obtain ⟨rfl, rfl⟩ := e
    have d0 := hcq 0 _ rfl
    have d1 := hcq 1 _ rfl
    have d2 := hcq 2 _ rfl
    have d3 := hcq 3 _ rfl
    simp only [Nat.add_zero] at d0
    simp only [Nat.zero_add] at d0 d1 d2 d3
    have HYK := Lib.hid hyok
    have hbw2 : b < w2.heap.size := by omega
    have hm5 : IntKind.i64.wrap ((p1.length : Int) - 1) = ((p1.length - 1 : Nat) : Int) := by rw [IntWalk.i64_in _ (by omega)]; omega
    have hm3 : p1.length - 1 < p1.length := by omega
    have HOE := Lib.hid (owns_ext HO2.out (((Ext.refl w2).drew).alloc (.cells #[.int .i64 y.At, .int .i64 y.Free.A, .int .i64 y.Free.B, .int .i64 y.Free.C] 107)))
    have HFAR := Lib.hid (fun (w4 : World) (hg : (w2.drew.alloc (.cells #[.int .i64 y.At, .int .i64 y.Free.A, .int .i64 y.Free.B, .int .i64 y.Free.C] 107)).grownBy w4 (Value.slice (some ⟨b, 0, none⟩) p1.length c1).ownBlock) (q : Nat) (u : Value) (hq : w2.cell? ⟨q, 0, none⟩ = some u) (hne : ¬ q = b) => show w4.cell? ⟨q, 0, none⟩ = some u from by
      rw [hg.cell_far ⟨q, 0, none⟩ (by have := lt_of_cell hq; simp at this ⊢; omega) (by intro e; have e2 : q = b := by simpa [Value.ownBlock] using e
                                                                                         exact hne e2)]
      exact Ext.cell (((Ext.refl _).drew).alloc _) hq)
    have HFZ := Lib.hid (fun (w4 : World) (hg : (w2.drew.alloc (.cells #[.int .i64 y.At, .int .i64 y.Free.A, .int .i64 y.Free.B, .int .i64 y.Free.C] 107)).grownBy w4 (Value.slice (some ⟨b, 0, none⟩) p1.length c1).ownBlock) (q : Nat) (hl : q < w2.heap.size) (hq : w2.frozen? ⟨q, 0, none⟩ = false) (hne : ¬ q = b) => show w4.frozen? ⟨q, 0, none⟩ = false from by
      rw [World.frozen?_of_block (a := ⟨q, 0, none⟩) (hg.block q (by simp; omega) (by intro e; have e2 : q = b := by simpa [Value.ownBlock] using e
                                                                                      exact hne e2))]
      exact (Ext.frozenEq (a := ⟨q, 0, none⟩) (((Ext.refl w2).drew).alloc _) hl).trans hq)
    have HBF := Lib.hid (fun (w4 : World) (hg : (w2.drew.alloc (.cells #[.int .i64 y.At, .int .i64 y.Free.A, .int .i64 y.Free.B, .int .i64 y.Free.C] 107)).grownBy w4 (Value.slice (some ⟨b, 0, none⟩) p1.length c1).ownBlock) (hne : ¬ w1.heap.size = b) => show w4.heap[w1.heap.size]? = some (.cells #[.slice (some ⟨b, 0, none⟩) p1.length c1] 42) from by
      rw [hg.block w1.heap.size (by simp; omega) (by intro e; have e2 : w1.heap.size = b := by simpa [Value.ownBlock] using e
                                                     exact hne e2)]
      exact heapE (((Ext.refl w2).drew).alloc _) HB2.out)
    have hnb : ¬ w1.heap.size = b := by omega
    have hnb2 : ¬ w.heap.size = b := by omega
    clear r2 rf2 z2 hk0 hk1 hcq hyx hyok
    go_region_law (first | (refine step_append_list_t (enc := Pt.enc) (ok := Pt.ok) (by rfl) _ _ _ (by rfl) (w.heap.size + 1) 107 i0 _ 4 32 Tryz.underlying40 hi hI0 hI1 hI2 rfl (by omega) _ p1.length _ _ 1 1 [y] (p1.length + 1) rfl (by rfl) (by rfl) (HOE.out) (by exact sl_one_t w2.drew y 107 (Pt.size y) HYK.out) Pt.size Pt.one (by unfold maxLen; omega) (by omega) (by simp; omega) ?_; intro A4 c4 w4 ho4 hz4 hg4; have x4 := HFAR.out w4 hg4 _ _ x2 hnb; have z4 := HFZ.out w4 hg4 _ hlx HZ2.out hnb; have hl4 := lt_of_cell x4))
    all_goals
      have r4 := HFAR.out w4 hg4 _ _ HR2.out hnb2
      have rf4 := HFZ.out w4 hg4 _ hlr HF2.out hnb2
      have hl5 := lt_of_cell r4
      have HO4 := Lib.hid ho4
      have HTG := Lib.hid (grown_turned_own HOE.out hg4)
      have HT4 := Lib.hid (turned_low (HT2.out.ext (((Ext.refl _).drew).alloc _)) HTG.out (by omega))
      have HC4 := Lib.hid ((HC2.out.ext (((Ext.refl _).drew).alloc _)).keep HTG.out (by omega))
      have HKK := Lib.hid (all_snoc HK1.out HYK.out)
      have HW := Lib.hid (show (w4.setCell ⟨w1.heap.size, 0, none⟩ (.slice A4 (p1.length + 1) c4)).ownsRow (w.heap.size + 1) 107 4 (.slice A4 (p1 ++ [y]).length c4) (p1 ++ [y]).length ((p1 ++ [y]).flatMap Pt.enc) from by
        rw [List.flatMap_append, List.length_append]
        exact owns_other (by simpa using HO4.out) (fun q hq => own_type_ne HO4.out (HBF.out w4 hg4 hnb) (by decide) q hq) _)
      clear ho4 hg4 hz4 x2 d0 d1 d2 d3 hm5
      go_wp2
      exact bodyPost_ret (v := .agg #[.slice A4 (p1.length + 1) c4]) (by simp [results, Tryz.results91, go_sem, *]) rfl ⟨A4, c4, p1 ++ [y], by rw [List.length_append]; rfl, owns_other (p := ⟨w.heap.size, 0, none⟩) (owns_base HW.out (by omega)) (fun q hq => by have := (HW.out.lt q hq).1; simp only []; omega) _, HKK.out, by rw [List.length_append]; simp; omega, turned_own (turned_own HT4.out (by omega)) (Nat.le_refl _), (HC4.out.put (by omega)).put hgw⟩
  by_cases hk3 : v2 = 3
  · subst hk3
    go_wp2
    exact bodyPost_ret (v := .agg #[.slice none 0 0]) (by simp [results, Tryz.results91, go_sem, *]) rfl ⟨none, 0, [], rfl, World.ownsRow_nil _ _ _ _, (fun y hy => by cases hy), by simp, turned_own (turned_own HT2.out (by omega)) (Nat.le_refl _), (HC2.out.put (by omega)).put hgw⟩
  · go_wp2
    exact bodyPost_ret (v := .agg #[.slice (some ⟨b, 0, none⟩) p1.length c1]) (by simp [results, Tryz.results91, go_sem, *]) rfl ⟨_, c1, p1, rfl, owns_other (p := ⟨w.heap.size, 0, none⟩) (owns_base HO2.out (by omega)) (fun q hq => by have := (HO2.out.lt q hq).1; simp only []; omega) _, HK1.out, by omega, turned_own HT2.out (Nat.le_refl _), HC2.out.put hgw⟩
end Go.Proofs.YtgmlcohffdeplaaGreat
/-! DRoomL -/
namespace Go.Proofs.YtgmlcohffdeplaaGreat
open Go.RowKit
set_option linter.unusedVariables false
section
variable {w w' : World} {lo lo' lo1 hi b g p : Nat} {e : TypeId} {sz c n : Nat} {A : Option Addr} {L : List Value} {u : Value} {ps : List Int} {ns : List Node} {up : List Bool} {r : List (List Pt) × List Pt} {pl : List (List Pt)} {lic : List Pt} {A1 : Option Addr} {c1 : Nat} {A2 : Option Addr} {c2 : Nat} {A3 : Option Addr} {c3 : Nat} {A4 : Option Addr} {c4 : Nat} {A5 : Option Addr} {c5 : Nat}
theorem own0.turn (h : own0 w lo e sz A c n L) (ht : Turned lo1 hi w w') (hd : hi ≤ lo) : own0 w' lo e sz A c n L := h.imp id (fun h => ownsT h ht hd)
theorem PO.turn {ps : List (List Pt)} (h : PO w lo A n c ps) (ht : Turned lo1 hi w w') (hd : hi ≤ lo) : PO w' lo A n c ps := by
  obtain ⟨h1, L, h2, h3⟩ := h
  refine ⟨h1, L, ownsT h2 ht hd, fun k p hk => ?_⟩
  obtain ⟨A', c', e, ho, hy⟩ := h3 k p hk
  exact ⟨A', c', e, ownsT ho ht hd, hy⟩
theorem PO.beside {ps : List (List Pt)} {A' : Option Addr} {v : Value} {m k c' : Nat} {L0 L' : List Value} (h : PO w lo A n c ps) (hr : AppR w w' lo' e sz v A' k c' L') (h2 : w.ownsRow lo' e sz v m L0) (hne : 42 ≠ e) (hne2 : 107 ≠ e) : PO w' lo A n c ps := by
  obtain ⟨h1, L, h3, h4⟩ := h
  refine ⟨h1, L, hr.other h3 (g_apart h3 h2 hne), fun k p hk => ?_⟩
  obtain ⟨A', c', e, ho, hy⟩ := h4 k p hk
  exact ⟨A', c', e, hr.other ho (g_apart ho h2 hne2), hy⟩
theorem RoomS.turn (h : RoomS w lo ps ns up r A1 c1 A2 c2 A3 c3 A4 c4 A5 c5) (ht : Turned lo1 hi w w') (hd : hi ≤ lo) : RoomS w' lo ps ns up r A1 c1 A2 c2 A3 c3 A4 c4 A5 c5 :=
  ⟨h.par.turn ht hd, h.nod.turn ht hd, h.ups.turn ht hd, h.pro.turn ht hd, ownsT h.lic ht hd, h.ok1, h.ok2, h.ok3⟩
/-- A room whose list of nodes that are up is owned. -/
def RoomU (w : World) (lo : Nat) (ps : List Int) (ns : List Node) (up : List Bool) (r : List (List Pt) × List Pt) (A1 : Option Addr) (c1 : Nat) (A2 : Option Addr) (c2 : Nat) (A3 : Option Addr) (c3 : Nat) (A4 : Option Addr) (c4 : Nat) (A5 : Option Addr) (c5 : Nat) : Prop := RoomS w lo ps ns up r A1 c1 A2 c2 A3 c3 A4 c4 A5 c5 ∧ w.ownsRow lo 4 1 (.slice A3 up.length c3) up.length (up.flatMap encB)
theorem RoomU.ext (h : RoomU w lo ps ns up r A1 c1 A2 c2 A3 c3 A4 c4 A5 c5) (hb : Ext w w') : RoomU w' lo ps ns up r A1 c1 A2 c2 A3 c3 A4 c4 A5 c5 := ⟨h.1.ext hb, owns_ext h.2 hb⟩
theorem RoomU.base (h : RoomU w lo ps ns up r A1 c1 A2 c2 A3 c3 A4 c4 A5 c5) (hb : lo' ≤ lo) : RoomU w lo' ps ns up r A1 c1 A2 c2 A3 c3 A4 c4 A5 c5 := ⟨h.1.base hb, owns_base h.2 hb⟩
theorem RoomU.turn (h : RoomU w lo ps ns up r A1 c1 A2 c2 A3 c3 A4 c4 A5 c5) (ht : Turned lo1 hi w w') (hd : hi ≤ lo) : RoomU w' lo ps ns up r A1 c1 A2 c2 A3 c3 A4 c4 A5 c5 := ⟨h.1.turn ht hd, ownsT h.2 ht hd⟩
theorem RoomU.low (h : RoomU w lo ps ns up r A1 c1 A2 c2 A3 c3 A4 c4 A5 c5) (hb : b < lo) : RoomU (w.setCell ⟨b, p, none⟩ u) lo ps ns up r A1 c1 A2 c2 A3 c3 A4 c4 A5 c5 := ⟨h.1.low hb, own_set h.2 hb⟩
theorem RoomU.far {L0 : List Value} (h : RoomU w lo ps ns up r A1 c1 A2 c2 A3 c3 A4 c4 A5 c5) (hbox : w.ownsRow lo' 44 5 (.slice (some ⟨g, 0, none⟩) 1 1) 1 L0) : RoomU (w.setCell ⟨g, p, none⟩ u) lo ps ns up r A1 c1 A2 c2 A3 c3 A4 c4 A5 c5 :=
  ⟨h.1.far hbox, g_far h.2 (fun e => g_apart h.2 hbox (by decide) _ e rfl)⟩
theorem RoomU.push {A' : Option Addr} {c' m : Nat} {q : List Pt} {B1 : Option Addr} {d1 : Nat} {L L' : List Value} (h : RoomU w lo ps ns up (pl, lic) A1 c1 A2 c2 A3 c3 A4 c4 A5 c5) (hm : pl.length = m) (h2 : w.ownsRow lo 42 1 (.slice A4 m c4) m L) (h3 : ∀ (k : Nat) (p : List Pt), pl[k]? = some p → ∃ A' c', L[k]? = some (.slice A' p.length c') ∧ w.ownsRow lo 107 4 (.slice A' p.length c') p.length (p.flatMap Pt.enc) ∧ ∀ y ∈ p, y.ok)
    (hr : AppR w w' lo 42 1 (.slice A4 m c4) A' (m + 1) c' L') (e : L' = L ++ [.slice B1 q.length d1]) (ho : w.ownsRow lo 107 4 (.slice B1 q.length d1) q.length (q.flatMap Pt.enc)) (hy : ∀ y ∈ q, y.ok) : RoomU w' lo ps ns up (pl ++ [q], lic) A1 c1 A2 c2 A3 c3 A' c' A5 c5 :=
  ⟨h.1.push hm h2 h3 hr e ho hy, hr.other h.2 (g_apart h.2 h2 (by decide))⟩
theorem RoomU.pushU {A' : Option Addr} {c' : Nat} {x : Bool} {k : Nat} (h : RoomU w lo ps ns up (pl, lic) A1 c1 A2 c2 A3 c3 A4 c4 A5 c5) (hk : up.length = k) (hr : AppR w w' lo 4 1 (.slice A3 k c3) A' (k + 1) c' (up.flatMap encB ++ [x].flatMap encB)) : RoomU w' lo ps ns (up ++ [x]) (pl, lic) A1 c1 A2 c2 A' c' A4 c4 A5 c5 := by
  subst hk
  have h2 := h.2
  have hrow := hr.row
  have e1 : w'.ownsRow lo 4 1 (.slice A' (up ++ [x]).length c') (up ++ [x]).length ((up ++ [x]).flatMap encB) := by
    rw [List.flatMap_append, List.length_append]; exact hrow
  exact ⟨⟨h.1.par.other hr h2 (by decide), h.1.nod.other hr h2 (by decide), .inr e1, h.1.pro.beside hr h2 (by decide) (by decide), hr.other h.1.lic (g_apart h.1.lic h2 (by decide)), h.1.ok1, h.1.ok2, h.1.ok3⟩, e1⟩
theorem RoomU.fill {u0 u1 u2 u3 u4 : Value} (h : RoomU w lo ps ns up r A1 c1 A2 c2 A3 c3 A4 c4 A5 c5) (hbox : w.ownsRow lo' 44 5 (.slice (some ⟨g, 0, none⟩) 1 1) 1 [u0, u1, u2, u3, u4]) (a0 a1 a2 a3 a4 : Value) :
    RoomU (((((w.setCell ⟨g, 0, none⟩ a0).setCell ⟨g, 1, none⟩ a1).setCell ⟨g, 2, none⟩ a2).setCell ⟨g, 3, none⟩ a3).setCell ⟨g, 4, none⟩ a4) lo ps ns up r A1 c1 A2 c2 A3 c3 A4 c4 A5 c5 ∧ (((((w.setCell ⟨g, 0, none⟩ a0).setCell ⟨g, 1, none⟩ a1).setCell ⟨g, 2, none⟩ a2).setCell ⟨g, 3, none⟩ a3).setCell ⟨g, 4, none⟩ a4).ownsRow lo' 44 5 (.slice (some ⟨g, 0, none⟩) 1 1) 1 [a0, a1, a2, a3, a4] := by
  have b1 := (hbox.stored 0 a0).1
  have b2 := (b1.stored 1 a1).1
  have b3 := (b2.stored 2 a2).1
  have b4 := (b3.stored 3 a3).1
  have b5 := (b4.stored 4 a4).1
  exact ⟨((((h.far hbox).far b1).far b2).far b3).far b4, b5⟩
theorem RoomU.lics {l : List Pt} {A6 : Option Addr} {c6 : Nat} (h : RoomU w lo ps ns up (pl, lic) A1 c1 A2 c2 A3 c3 A4 c4 A5 c5) (ho : w.ownsRow lo 107 4 (.slice A6 l.length c6) l.length (l.flatMap Pt.enc)) (hy : ∀ y ∈ l, y.ok) : RoomU w lo ps ns up (pl, l) A1 c1 A2 c2 A3 c3 A4 c4 A6 c6 := ⟨h.1.lics ho hy, h.2⟩
theorem RoomU.setp {i : Nat} {q : List Pt} {A' : Option Addr} {c' : Nat} (h : RoomU w lo ps ns up (pl, lic) A1 c1 A2 c2 A3 c3 (some ⟨g, 0, none⟩) c4 A5 c5) (hi : i < pl.length) (ho : w.ownsRow lo 107 4 (.slice A' q.length c') q.length (q.flatMap Pt.enc)) (hy : ∀ y ∈ q, y.ok) :
    RoomU (w.setCell ⟨g, i, none⟩ (.slice A' q.length c')) lo ps ns up (pl.set i q, lic) A1 c1 A2 c2 A3 c3 (some ⟨g, 0, none⟩) c4 A5 c5 := by
  obtain ⟨_, L, hL, _⟩ := h.1.pro
  exact ⟨h.1.setp hi ho hy, g_far h.2 (fun e => g_apart h.2 hL (by decide) _ e rfl)⟩
theorem RoomU.topo {ps2 : List Int} {ns2 : List Node} {B1 : Option Addr} {d1 : Nat} {B2 : Option Addr} {d2 : Nat} (h : RoomU w lo ps ns up r A1 c1 A2 c2 A3 c3 A4 c4 A5 c5) (h1 : w.ownsRow lo 3 1 (.slice B1 ps2.length d1) ps2.length (ps2.flatMap encInt)) (h2 : w.ownsRow lo 130 4 (.slice B2 ns2.length d2) ns2.length (ns2.flatMap Node.enc)) (k1 : ∀ x ∈ ps2, In64 x) (k2 : ∀ x ∈ ns2, x.ok) : RoomU w lo ps2 ns2 up r B1 d1 B2 d2 A3 c3 A4 c4 A5 c5 :=
  ⟨⟨.inr h1, .inr h2, h.1.ups, h.1.pro, h.1.lic, k1, k2, h.1.ok3⟩, h.2⟩
theorem RoomU.empty (w : World) (lo : Nat) : RoomU w lo [] [] [] ([], []) none 0 none 0 none 0 none 0 none 0 :=
  ⟨⟨.inl rfl, .inl rfl, .inl rfl, PO.nil _ _, World.ownsRow_nil _ _ _ _, (fun x hx => by cases hx), (fun x hx => by cases hx), (fun x hx => by cases hx)⟩, World.ownsRow_nil _ _ _ _⟩
end
theorem takeAll_len {fr te : Int} {v : Vec} {K : Nat} : ∀ (nodes : List Int) (ps qs : List (List Pt)), nodes.Nodup → (∀ n ∈ nodes, 0 ≤ n) → (∀ p ∈ ps, p.length ≤ K + 2) → (∀ n ∈ nodes, ∀ p, ps[n.toNat]? = some p → p.length ≤ K) → takeAll fr te v nodes ps = some qs → qs.length = ps.length ∧ ∀ p ∈ qs, p.length ≤ K + 2 := by
  intro nodes
  induction nodes with
  | nil => intro ps qs _ _ h _ e; injection e with e; subst e; exact ⟨rfl, h⟩
  | cons n r ih =>
    intro ps qs hnd h0 h hk e
    obtain ⟨hn1, hn2⟩ := List.nodup_cons.1 hnd
    rw [takeAll] at e
    split at e
    · cases e
    · rename_i o ho
      have hol : o.length ≤ K + 2 := by
        have h1 := takeQ_len ho
        rw [List.getD_eq_getElem?_getD] at h1
        cases hp : ps[n.toNat]? with
        | none => rw [hp] at h1; simp at h1; omega
        | some p =>
          have h2 := hk n (List.mem_cons_self ..) p hp
          rw [hp] at h1; simp at h1; omega
      have h3 := ih (ps.set n.toNat o) qs hn2 (fun m hm => h0 m (List.mem_cons_of_mem _ hm)) (fun p hp => by
        rcases List.mem_or_eq_of_mem_set hp with hp | rfl
        · exact h p hp
        · exact hol) (fun m hm p hp => by
        have h4 := h0 m (List.mem_cons_of_mem _ hm)
        have h5 := h0 n (List.mem_cons_self ..)
        rw [List.getElem?_set_ne (by intro e; apply hn1; rw [show n = m by omega]; exact hm)] at hp
        exact hk m (List.mem_cons_of_mem _ hm) p hp) e
      rw [List.length_set] at h3
      exact h3
theorem dist_nodup' : ∀ (l B : List Int), distGo B l = true → (∀ x ∈ B, x ∉ l) ∧ l.Nodup := by
  intro l
  induction l with
  | nil => intro B _; exact ⟨(fun _ _ h => by cases h), List.nodup_nil⟩
  | cons a r ih =>
    intro B h
    rw [distGo, Bool.and_eq_true] at h
    obtain ⟨h1, h2⟩ := h
    obtain ⟨h3, h4⟩ := ih _ h2
    have ha : a ∉ B := by simpa using h1
    refine ⟨fun x hx hm => ?_, List.nodup_cons.2 ⟨h3 a (by simp), h4⟩⟩
    rcases List.mem_cons.1 hm with rfl | hm
    · exact ha hx
    · exact h3 x (by simp [hx]) hm
theorem moveM_len {fr te : Int} {j : Job} {nodes : List Int} {pl : List (List Pt)} {lic : List Pt} {o : List (List Pt) × List Pt} {K m : Nat} (hj : jobNodesB m j nodes = true) (h1 : ∀ p ∈ pl, p.length ≤ K) (h2 : lic.length ≤ K) (h : moveM fr te j nodes (pl, lic) = some o) : o.1.length = pl.length ∧ (∀ p ∈ o.1, p.length ≤ K + 2) ∧ o.2.length ≤ K + 2 := by
  unfold moveM at h
  split at h
  · cases h
  · rename_i qs hqs
    split at h
    · cases h
    · rename_i l hl
      injection h with h; subst h
      unfold jobNodesB at hj
      rw [Bool.and_eq_true, Bool.and_eq_true] at hj
      have h3 := takeAll_len nodes pl qs (dist_nodup' _ _ hj.1.1).2 (fun n hn => (nodesIn_at hj.1.2 hn).1) (fun p hp => by have := h1 p hp; omega) (fun n _ p hp => h1 p (List.mem_of_getElem? hp)) hqs
      have h4 := takeQ_len hl
      exact ⟨h3.1, h3.2, by simp only [] at h4 ⊢; omega⟩
theorem jobNodes_pos {m : Nat} {j : Job} {nodes : List Int} (h1 : jobB j = true) (h2 : jobNodesB m j nodes = true) : 1 ≤ m := by
  unfold jobNodesB at h2
  rw [Bool.and_eq_true, Bool.and_eq_true, decide_eq_true_iff] at h2
  have h3 : 1 ≤ j.Nodes := by
    unfold jobB at h1
    simp only [Bool.and_eq_true, decide_eq_true_iff] at h1
    omega
  cases nodes with
  | nil => have := h2.2; simp at this; omega
  | cons n r =>
    have := nodesIn_at h2.1.2 (List.mem_cons_self ..)
    omega
end Go.Proofs.YtgmlcohffdeplaaGreat
