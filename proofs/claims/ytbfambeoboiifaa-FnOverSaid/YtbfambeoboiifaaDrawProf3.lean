/- Contracts of the draws: profiles are drawn. -/
import Derived.Test.YtbfambeoboiifaaDrawProf2
import Derived.Deep.RegionHeld3
namespace Go.Proofs.Ytbfambeoboiifaa
open Go.RowKit
set_option linter.unusedVariables false
def RetProfD (w : World) (g : Nat) : Ending → World → Prop := fun e w' => ∃ (A : Option Addr) (c : Nat) (pts : List Pt), e = .returned (.agg #[.slice A pts.length c]) ∧ w'.ownsRow w.heap.size 93 4 (.slice A pts.length c) pts.length (pts.flatMap Pt.enc) ∧ (∀ x ∈ pts, x.ok) ∧ pts.length ≤ 200 ∧ 1 ≤ pts.length ∧ Turned g (g + 1) w w' ∧ Cur w' g
set_option maxHeartbeats 8000000 in
set_option maxRecDepth 10000 in
theorem l03Draw_c (g : Nat) (w : World) (hc : Cur w g) : Calls Try.prog 77 #[.pointer (some ⟨g, 0, none⟩)] w (RetProfD w g) := by
  have hgw := hc.lt
  have HB := Lib.hid (fun (n : Int) (hn : In64 n) (u : World) (hu : Cur u g) => l01Below_c g n u hu hn)
  have H9 : Hid (∀ n : Int, -1000000 ≤ n → n ≤ 1000000 → In64 n) := Lib.hid (fun n h1 h2 => by unfold In64; omega)
  have HCi := Lib.hid hc
  clear hc
  go_enter Try.func77, Try.ntmps77
  go_wp2_with fail
  refine (ProfNew_c _).mono ?_
  rintro e w1 ⟨A1, c1, p1, rfl, ho1, hk1, hl1, hp1, hb1⟩
  have hs1 := hb1.le
  simp at hs1
  have HO1 := Lib.hid (owns_base ho1 (show w.heap.size + 1 ≤ (w.alloc (.cells #[.slice none 0 0] 40)).heap.size by simp))
  have HB1 := Lib.hid (((Ext.refl w).alloc (.cells #[.slice none 0 0] 40)).trans hb1)
  have HR1 := Lib.hid (hb1.cell (dcell_box w [.slice none 0 0] 40 0 _ rfl))
  have HF1 := Lib.hid ((hb1.frozenEq (a := ⟨w.heap.size, 0, none⟩) (by simp)).trans (dfrozen_box w [.slice none 0 0] 40 0))
  have HT0 := Lib.hid ((HB1.out.alloc (.cells #[.slice A1 p1.length c1] 40)).turned g (g + 1))
  have HC0 := Lib.hid (HCi.out.ext (HB1.out.alloc (.cells #[.slice A1 p1.length c1] 40)))
  clear ho1 hb1
  go_wp2_with fail
  refine (HB.out 6 (H9.out _ (by omega) (by omega)) _ HC0.out).mono ?_
  rintro e w2 ⟨v2, rfl, ⟨hv2a, hv2b⟩, ht2, hc2⟩
  have HT2 := Lib.hid (HT0.out.trans ht2)
  have HC2 := Lib.hid hc2
  have HX2 := Lib.hid (cellT ht2 (dcell_box w1 [.slice A1 p1.length c1] 40 0 _ rfl) (by omega))
  have HZ2 := Lib.hid (frozenT ht2 (dfrozen_box w1 [.slice A1 p1.length c1] 40 0) (by simp) (by omega))
  have HO2 := Lib.hid (ownsT (owns_ext HO1.out ((Ext.refl _).alloc (.cells #[.slice A1 p1.length c1] 40))) ht2 (by omega))
  have HR2 := Lib.hid (cellT ht2 (((Ext.refl _).alloc _).cell HR1.out) (by omega))
  have HF2 := Lib.hid (frozenT ht2 ((((Ext.refl _).alloc (.cells #[.slice A1 p1.length c1] 40)).frozenEq (lt_of_cell HR1.out)).trans HF1.out) (by simp; omega) (by omega))
  clear ht2 hc2
  go_wp2
  go_loopw [5] (fun nv wr => ∃ (v : Int) (A2 : Option Addr) (c2 : Nat) (pts : List Pt), 0 ≤ v ∧ v ≤ 6 ∧ nv = .int .i64 v ∧ pts.length ≤ 200 ∧ 1 ≤ pts.length ∧ Hid (wr.ownsRow (w.heap.size + 1) 93 4 (.slice A2 pts.length c2) pts.length (pts.flatMap Pt.enc)) ∧ Hid (∀ y ∈ pts, y.ok) ∧ Hid (Turned g (g + 1) w wr) ∧ Hid (Cur wr g) ∧ Hid (wr.cell? ⟨w1.heap.size, 0, none⟩ = some (.slice A2 pts.length c2)) ∧ Hid (wr.frozen? ⟨w1.heap.size, 0, none⟩ = false) ∧ Hid (wr.cell? ⟨w.heap.size, 0, none⟩ = some (.slice none 0 0)) ∧ Hid (wr.frozen? ⟨w.heap.size, 0, none⟩ = false)) (fun nv _ => (intOf nv).toNat)
  case atStart => exact ⟨v2, A1, c1, p1, hv2a, by omega, rfl, hl1, hp1, HO2, Lib.hid hk1, HT2, HC2, HX2, HZ2, HR2, HF2⟩
  case round =>
    obtain ⟨v, A2, c2, pts, hv0, hv6, rfl, hpl, hp1', HO0, HIN, HT0', HC0', HX0, HZ0, HR0, HF0⟩ := hrel
    clear hl1 hk1
    by_cases hlt : 0 < v
    · have x0 := HX0.out
      have hlx := lt_of_cell x0
      go_wp2_with fail
      refine (HB.out 60 (H9.out _ (by omega) (by omega)) _ HC0'.out).mono ?_
      rintro e w3 ⟨v3, rfl, ⟨hv3a, hv3b⟩, ht3, hc3⟩
      have HT3 := Lib.hid (HT0'.out.trans ht3)
      have HC3 := Lib.hid hc3
      have HXP := Lib.hid (cellT ht3 HX0.out (by omega))
      have HFP := Lib.hid (frozenT ht3 HZ0.out hlx (by omega))
      have HO3 := Lib.hid (ownsT HO0.out ht3 (by omega))
      have HR3 := Lib.hid (cellT ht3 HR0.out (by omega))
      have HF3 := Lib.hid (frozenT ht3 HF0.out (lt_of_cell HR0.out) (by omega))
      have x3 := HXP.out
      clear ht3 hc3 x0 hlx
      go_wp2
      have HSL := Lib.hid (fun (u : World) (e : Turned g (g + 1) w3 u) => rowD_sl (enc := Pt.enc) (ok := Pt.ok) Pt.size (ownsT HO3.out e (by omega)) HIN.out)
      have hs3 : w1.heap.size < w3.heap.size := lt_of_cell x3
      go_region_held3 (fun u => u.cell? ⟨w1.heap.size, 0, none⟩ = some (.slice A2 pts.length c2)) ((first | exact x8 | exact x7 | exact x6 | exact x5 | exact x4 | exact x3 | exact Ext.cell ((Ext.refl _).drew) x3 | exact Ext.cell ((Ext.refl _).alloc _) x8 | exact Ext.cell ((Ext.refl _).alloc _) x7 | exact Ext.cell ((Ext.refl _).alloc _) x6 | exact Ext.cell ((Ext.refl _).alloc _) x5 | exact Ext.cell ((Ext.refl _).alloc _) x4 | exact Ext.cell (((Ext.refl _).drew).alloc _) x3 | (rw [World.cell?_setCell_other] <;> first | exact x8 | exact Ext.cell ((Ext.refl _).alloc _) x8 | (intro e; injection e with e; omega)))) (first | (go_at_call 37; (with_reducible refine (HB.out 40 (H9.out _ (by omega) (by omega)) _ (HC3.out.ext (by repeat (first | exact Ext.refl _ | apply Ext.alloc | apply Ext.drew | apply Ext.drewN)))).mono ?_); rintro e w4 ⟨v4, rfl, ⟨hv4a, hv4b⟩, ht4, hc4⟩; have HQ4 := Lib.hid ((Ext.turned (w := w3) (by repeat (first | exact Ext.refl _ | apply Ext.alloc | apply Ext.drew | apply Ext.drewN)) g (g + 1)).trans ht4); have HC4 := Lib.hid hc4; have x4 := cellT HQ4.out HXP.out (by omega); have hs4 := Nat.le_trans hs3 HQ4.out.le; (first | (have kb := cellT ht4 kb (by omega); have kf := frozenT ht4 kf hkl (by omega); have hkl := Nat.lt_of_lt_of_le hkl ht4.le) | (have kb : w4.cell? ⟨w3.heap.size, 0, none⟩ = some (.slice none 0 0) := cellT ht4 (dcell_box w3.drew [.slice none 0 0] 40 0 _ rfl) (by have := hs3; simp; omega); have kf : w4.frozen? ⟨w3.heap.size, 0, none⟩ = false := frozenT ht4 (dfrozen_box w3.drew [.slice none 0 0] 40 0) (by simp) (by have := hs3; simp; omega); have hkl : w3.heap.size < w4.heap.size := lt_of_cell kb) | (have kb := cellT ht4 (dcell_box w3 [.slice none 0 0] 40 0 _ rfl) (by have := hs3; simp; omega); have kf := frozenT ht4 (dfrozen_box w3 [.slice none 0 0] 40 0) (by simp) (by have := hs3; simp; omega); have hkl := lt_of_cell kb) | skip); clear ht4 hc4) | (go_at_call 37; (with_reducible refine (HB.out 4 (H9.out _ (by omega) (by omega)) _ (HC4.out.ext (by repeat (first | exact Ext.refl _ | apply Ext.alloc | apply Ext.drew | apply Ext.drewN)))).mono ?_); rintro e w5 ⟨v5, rfl, ⟨hv5a, hv5b⟩, ht5, hc5⟩; have HQ5 := Lib.hid ((HQ4.out.ext (by repeat (first | exact Ext.refl _ | apply Ext.alloc | apply Ext.drew | apply Ext.drewN))).trans ht5); have HC5 := Lib.hid hc5; have x5 := cellT HQ5.out HXP.out (by omega); have hs5 := Nat.le_trans hs3 HQ5.out.le; (first | (have kb := cellT ht5 kb (by omega); have kf := frozenT ht5 kf hkl (by omega); have hkl := Nat.lt_of_lt_of_le hkl ht5.le) | (have kb := cellT ht5 (dcell_box w4 [.slice none 0 0] 40 0 _ rfl) (by have := hs4; simp; omega); have kf := frozenT ht5 (dfrozen_box w4 [.slice none 0 0] 40 0) (by simp) (by have := hs4; simp; omega); have hkl := lt_of_cell kb) | skip); clear ht5 hc5) | (go_at_call 37; (with_reducible refine (HB.out 6 (H9.out _ (by omega) (by omega)) _ (HC5.out.ext (by repeat (first | exact Ext.refl _ | apply Ext.alloc | apply Ext.drew | apply Ext.drewN)))).mono ?_); rintro e w6 ⟨v6, rfl, ⟨hv6a, hv6b⟩, ht6, hc6⟩; have HQ6 := Lib.hid ((HQ5.out.ext (by repeat (first | exact Ext.refl _ | apply Ext.alloc | apply Ext.drew | apply Ext.drewN))).trans ht6); have HC6 := Lib.hid hc6; have x6 := cellT HQ6.out HXP.out (by omega); have hs6 := Nat.le_trans hs3 HQ6.out.le; (first | (have kb := cellT ht6 kb (by omega); have kf := frozenT ht6 kf hkl (by omega); have hkl := Nat.lt_of_lt_of_le hkl ht6.le) | (have kb := cellT ht6 (dcell_box w5 [.slice none 0 0] 40 0 _ rfl) (by have := hs5; simp; omega); have kf := frozenT ht6 (dfrozen_box w5 [.slice none 0 0] 40 0) (by simp) (by have := hs5; simp; omega); have hkl := lt_of_cell kb) | skip); clear ht6 hc6) | (go_at_call 37; (with_reducible refine (HB.out 2 (H9.out _ (by omega) (by omega)) _ (HC6.out.ext (by repeat (first | exact Ext.refl _ | apply Ext.alloc | apply Ext.drew | apply Ext.drewN)))).mono ?_); rintro e w7 ⟨v7, rfl, ⟨hv7a, hv7b⟩, ht7, hc7⟩; have HQ7 := Lib.hid ((HQ6.out.ext (by repeat (first | exact Ext.refl _ | apply Ext.alloc | apply Ext.drew | apply Ext.drewN))).trans ht7); have HC7 := Lib.hid hc7; have x7 := cellT HQ7.out HXP.out (by omega); have hs7 := Nat.le_trans hs3 HQ7.out.le; (first | (have kb := cellT ht7 kb (by omega); have kf := frozenT ht7 kf hkl (by omega); have hkl := Nat.lt_of_lt_of_le hkl ht7.le) | (have kb := cellT ht7 (dcell_box w6 [.slice none 0 0] 40 0 _ rfl) (by have := hs6; simp; omega); have kf := frozenT ht7 (dfrozen_box w6 [.slice none 0 0] 40 0) (by simp) (by have := hs6; simp; omega); have hkl := lt_of_cell kb) | skip); clear ht7 hc7) | (go_at_call 98; (with_reducible refine (ProfTake_c pts _ _ ⟨v5, v6, v7⟩ A2 _ c2 _ (SlAt.ext (Flat.mono _ _) (HSL.out _ HQ7.out) (by repeat (first | exact Ext.refl _ | apply Ext.alloc | apply Ext.drew | apply Ext.drewN))) hpl).mono ?_); rintro e w8 ⟨A8, c8, p8, b8, rfl, ho8, hk8, hl8, hp8, hb8⟩; have HB8 := Lib.hid (Ext.trans (w := w7) (by repeat (first | exact Ext.refl _ | apply Ext.alloc | apply Ext.drew | apply Ext.drewN)) hb8); have z8 := (HB8.out.frozenEq (lt_of_cell x7)).trans (frozenT HQ7.out HFP.out (lt_of_cell HXP.out) (by omega)); have x8 := HB8.out.cell x7; have HO8 := Lib.hid ho8; (first | (have kf := (hb8.frozenEq hkl).trans kf; have kb := hb8.cell kb; have hkl := lt_of_cell kb) | (have kb := hb8.cell (dcell_box w7 [.slice none 0 0] 40 0 _ rfl); have kf := (hb8.frozenEq (by simp)).trans (dfrozen_box w7 [.slice none 0 0] 40 0); have hkl := lt_of_cell kb) | skip); clear ho8 hb8))
      all_goals
        have HT8 := Lib.hid ((HT3.out.trans HQ7.out).ext HB8.out)
        have HC8 := Lib.hid (HC7.out.ext HB8.out)
        have r8 := HB8.out.cell (cellT HQ7.out HR3.out (by omega))
        have rf8 := (HB8.out.frozenEq (lt_of_cell (cellT HQ7.out HR3.out (by omega)))).trans (frozenT HQ7.out HF3.out (lt_of_cell HR3.out) (by omega))
        have hlr := lt_of_cell r8
        have hlp := lt_of_cell x8
        have hs8 := HB8.out.le
        have n3 : ¬ w1.heap.size = w3.heap.size ∧ ¬ w1.heap.size = w4.heap.size ∧ ¬ w1.heap.size = w5.heap.size ∧ ¬ w1.heap.size = w6.heap.size ∧ ¬ w1.heap.size = w7.heap.size ∧ ¬ w1.heap.size = w8.heap.size := by omega
        have n4 : ¬ w3.heap.size = w1.heap.size ∧ ¬ w4.heap.size = w1.heap.size ∧ ¬ w5.heap.size = w1.heap.size ∧ ¬ w6.heap.size = w1.heap.size ∧ ¬ w7.heap.size = w1.heap.size ∧ ¬ w8.heap.size = w1.heap.size := by omega
        have n5 : ¬ w.heap.size = w3.heap.size ∧ ¬ w.heap.size = w4.heap.size ∧ ¬ w.heap.size = w5.heap.size ∧ ¬ w.heap.size = w6.heap.size ∧ ¬ w.heap.size = w7.heap.size ∧ ¬ w.heap.size = w8.heap.size ∧ ¬ w.heap.size = w1.heap.size := by omega
        have n6 : ¬ w3.heap.size = w.heap.size ∧ ¬ w4.heap.size = w.heap.size ∧ ¬ w5.heap.size = w.heap.size ∧ ¬ w6.heap.size = w.heap.size ∧ ¬ w7.heap.size = w.heap.size ∧ ¬ w8.heap.size = w.heap.size ∧ ¬ w1.heap.size = w.heap.size := by omega
        have hz1 : w1.heap.size < w8.heap.size := by omega
        have hz0 : w.heap.size < w8.heap.size := by omega
        have HRBL := HO8
        have HRB := Lib.hid (owns_base HO8.out (show w.heap.size + 1 ≤ _ by first | omega | (simp; omega)))
        have HRA := Lib.hid (owns_ext (ownsT HO3.out HQ7.out (by omega)) HB8.out)
        have HRAL := Lib.hid (ownsT HO3.out (Turned.refl g (g + 1) w3) (by omega))
        have hq4 := HQ4.out.le
        have hq5 := HQ5.out.le
        have hq6 := HQ6.out.le
        have hq7 := HQ7.out.le
        clear x3 x4 x5 x6 x7 hs4 hs5 hs6 hs7
        cases b8
        · go_wp2
          go_roundw
          case rel => exact ⟨v - 1, A2, c2, pts, by omega, by omega, by go_num, hpl, hp1', Lib.hid (by repeat (first | with_reducible exact HRA.out | (with_reducible refine owns_other ?_ (fun q hq => by have h1 := (HRAL.out.lt q hq).1; have h2 := (HRAL.out.lt q hq).2; (try simp at h1); simp only []; omega) _) | (with_reducible refine owns_ext ?_ ((Ext.refl _).alloc _)))), HIN, Lib.hid (by repeat (first | with_reducible exact HT8.out | (with_reducible refine turned_own ?_ (by omega)) | (with_reducible refine Turned.ext ?_ ((Ext.refl _).alloc _)))), Lib.hid (by repeat (first | with_reducible exact HC8.out | (with_reducible refine Cur.put ?_ (by omega)) | (with_reducible refine Cur.ext ?_ ((Ext.refl _).alloc _)))), Lib.hid (by go_simp), Lib.hid (by go_simp), Lib.hid (by go_simp), Lib.hid (by go_simp)⟩
          case measure => simp [intOf]; omega
        · go_wp2
          go_roundw
          case rel => exact ⟨v - 1, A8, c8, p8, by omega, by omega, by go_num, hl8, (hp8 rfl), Lib.hid (by repeat (first | with_reducible exact HRB.out | (with_reducible refine owns_other ?_ (fun q hq => by have h1 := (HRBL.out.lt q hq).1; have h2 := (HRBL.out.lt q hq).2; (try simp at h1); simp only []; omega) _) | (with_reducible refine owns_ext ?_ ((Ext.refl _).alloc _)))), Lib.hid hk8, Lib.hid (by repeat (first | with_reducible exact HT8.out | (with_reducible refine turned_own ?_ (by omega)) | (with_reducible refine Turned.ext ?_ ((Ext.refl _).alloc _)))), Lib.hid (by repeat (first | with_reducible exact HC8.out | (with_reducible refine Cur.put ?_ (by omega)) | (with_reducible refine Cur.ext ?_ ((Ext.refl _).alloc _)))), Lib.hid (by go_simp), Lib.hid (by go_simp), Lib.hid (by go_simp), Lib.hid (by go_simp)⟩
          case measure => simp [intOf]; omega
    · have hv : v = 0 := by omega
      subst hv
      have x0 := HX0.out
      have z0 := HZ0.out
      have r0 := HR0.out
      have rf0 := HF0.out
      have hlx := lt_of_cell x0
      have hlr := lt_of_cell r0
      have n1 : ¬ w1.heap.size = w.heap.size := by omega
      have n2 : ¬ w.heap.size = w1.heap.size := by omega
      go_wp2
      exact bodyPost_ret (v := .agg #[.slice A2 pts.length c2]) (by simp [results, Try.results77, go_sem, *]) rfl ⟨A2, c2, pts, rfl, owns_other (p := ⟨w.heap.size, 0, none⟩) (owns_base HO0.out (by omega)) (fun q hq => by have := (HO0.out.lt q hq).1; simp only []; omega) _, HIN.out, hpl, hp1', turned_own HT0'.out (Nat.le_refl _), HC0'.out.put hgw⟩
end Go.Proofs.Ytbfambeoboiifaa
