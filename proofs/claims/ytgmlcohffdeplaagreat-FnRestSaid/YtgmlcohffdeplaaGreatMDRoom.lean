/- Merged by mergelean.py: DRoom, DRoomA, DRest. -/
import Derived.Test.YtgmlcohffdeplaaGreatMDP
import Derived.Test.YtgmlcohffdeplaaGreatMElig
import Derived.Test.YtgmlcohffdeplaaGreatMDraw
import Derived.Test.YtgmlcohffdeplaaGreatMTopo
import Derived.Deep.RegionLaw
import Derived.Test.YtgmlcohffdeplaaGreatMWinD
/-! DRoom -/
namespace Go.Proofs.YtgmlcohffdeplaaGreat
open Go.RowKit
set_option linter.unusedVariables false
theorem pNew_c (v : Vec) (w : World) : Calls Tryz.prog 110 #[.agg #[.int .i64 v.A, .int .i64 v.B, .int .i64 v.C]] w (RetProfB w 1) := by
  refine (sProfNew_c v w).mono ?_
  rintro e w1 ⟨A1, c1, l, rfl, hl1, ho, hk, hb⟩
  refine ⟨A1, c1, l, _, rfl, ho, hk, ?_, fun hi => ?_, hb⟩
  · rcases hl1 with h1 | ⟨_, rfl⟩
    · split at h1
      · injection h1 with h1; subst h1; simp
      · cases h1
    · simp
  · rcases hl1 with h1 | ⟨h1, rfl⟩
    · split at h1
      · injection h1 with h1; subst h1; simp
      · cases h1
    · rw [h1] at hi; cases hi
/-- A drawn room. -/
def RetRoomD (K : Nat) (w : World) (g : Nat) : Ending → World → Prop := fun e w' => ∃ (A1 : Option Addr) (c1 : Nat) (A2 : Option Addr) (c2 : Nat) (A3 : Option Addr) (c3 : Nat) (A4 : Option Addr) (c4 : Nat) (A5 : Option Addr) (c5 : Nat) (ps : List Int) (ns : List Node) (up : List Bool) (pl : List (List Pt)) (lic : List Pt), e = .returned (.agg #[.slice A1 ps.length c1, .slice A2 ns.length c2, .slice A3 up.length c3, .slice A4 pl.length c4, .slice A5 lic.length c5]) ∧ RoomU w' w.heap.size ps ns up (pl, lic) A1 c1 A2 c2 A3 c3 A4 c4 A5 c5 ∧ (ps.length ≤ 18 ∧ ns.length ≤ 10 ∧ up.length ≤ 11 ∧ pl.length ≤ 10) ∧ (∀ p ∈ pl, p.length ≤ K) ∧ lic.length ≤ K ∧ Turned g (g + 1) w w' ∧ Cur w' g
set_option maxHeartbeats 16000000 in
set_option maxRecDepth 10000 in
theorem l04Room_c (g : Nat) (w : World) (hc : Cur w g) : Calls Tryz.prog 88 #[.pointer (some ⟨g, 0, none⟩)] w (RetRoomD 9 w g) := by
  obtain ⟨i1, hi1, hJ0, hJ1, hJ2⟩ := info_parts CProf.info
  obtain ⟨i2, hi2, hK0, hK1, hK2⟩ := info_parts CBool.info
  have hgw := hc.lt
  have HB := Lib.hid (fun (n : Int) (hn : In64 n) (u : World) (hu : Cur u g) => l01Below_c g n u hu hn)
  have H9 : Hid (∀ n : Int, -1000000 ≤ n → n ≤ 1000000 → In64 n) := Lib.hid (fun n h1 h2 => by unfold In64; omega)
  have HC0 := Lib.hid (hc.ext ((Ext.refl w).alloc (.cells #[.slice none 0 0, .slice none 0 0, .slice none 0 0, .slice none 0 0, .slice none 0 0] 44)))
  clear hc
  go_enter Tryz.func88, Tryz.ntmps88
  go_wp2_with fail
  refine (l02Draw_c g _ HC0.out).mono ?_
  rintro e w1 ⟨A1, c1, ps, A2, c2, ns, rfl, ho1, hk1, ho2, hk2, hps1, hps, hns, ht1, hc1⟩
  have HT1 := Lib.hid ((Ext.turned ((Ext.refl w).alloc (.cells #[.slice none 0 0, .slice none 0 0, .slice none 0 0, .slice none 0 0, .slice none 0 0] 44)) g (g + 1)).trans ht1)
  have HZ1 := Lib.hid (ownsT (owns_base (gbox w [.slice none 0 0, .slice none 0 0, .slice none 0 0, .slice none 0 0, .slice none 0 0] 44 5 rfl) (show g + 1 ≤ w.heap.size by omega)) ht1 (Nat.le_refl _))
  obtain ⟨lo, hlo⟩ : ∃ lo, lo = w.heap.size + 1 := ⟨_, rfl⟩
  have hs1 : lo ≤ w1.heap.size := by have := ht1.le; simp at this; omega
  have HO1 := Lib.hid (show w1.ownsRow lo 3 1 (.slice A1 ps.length c1) ps.length (ps.flatMap encInt) from owns_base ho1 (by simp; omega))
  have HO2 := Lib.hid (show w1.ownsRow lo 130 4 (.slice A2 ns.length c2) ns.length (ns.flatMap Node.enc) from owns_base ho2 (by simp; omega))
  have HK1 := Lib.hid hk1
  have HK2 := Lib.hid hk2
  have HC1 := Lib.hid hc1
  clear ho1 ho2 hk1 hk2 ht1 hc1 HC0
  obtain ⟨bx, hbx⟩ : ∃ bx, bx = w1.heap.size + 1 := ⟨_, rfl⟩
  obtain ⟨W2, hW2⟩ : ∃ u, u = (w1.alloc (.cells #[.slice A1 ps.length c1, .slice A2 ns.length c2] 38)).alloc (.cells #[.slice A1 ps.length c1, .slice A2 ns.length c2, .slice none 0 0, .slice none 0 0, .slice none 0 0] 44) := ⟨_, rfl⟩
  have EX2 : Ext w1 W2 := by rw [hW2]; exact ((Ext.refl _).alloc _).alloc _
  have HBX2 := Lib.hid (show W2.ownsRow lo 44 5 (.slice (some ⟨bx, 0, none⟩) 1 1) 1 [.slice A1 ps.length c1, .slice A2 ns.length c2, .slice none 0 0, .slice none 0 0, .slice none 0 0] from by
    rw [hW2, hbx]
    have h := gbox (w1.alloc (.cells #[.slice A1 ps.length c1, .slice A2 ns.length c2] 38)) [.slice A1 ps.length c1, .slice A2 ns.length c2, .slice none 0 0, .slice none 0 0, .slice none 0 0] 44 5 rfl
    rw [show (w1.alloc (.cells #[.slice A1 ps.length c1, .slice A2 ns.length c2] 38)).heap.size = w1.heap.size + 1 by simp] at h
    exact owns_base h (by omega))
  have HRO2 := Lib.hid (show RoomU W2 lo ps ns [] ([], []) A1 c1 A2 c2 none 0 none 0 none 0 from (RoomU.empty W2 lo).topo (owns_ext HO1.out EX2) (owns_ext HO2.out EX2) HK1.out HK2.out)
  have HT2 := Lib.hid (HT1.out.ext EX2)
  have HC2 := Lib.hid (HC1.out.ext EX2)
  have HZ2 := Lib.hid (owns_ext HZ1.out EX2)
  have HNS := Lib.hid ((HRO2.out.1.nod).sl Node.size HK2.out)
  have hbx1 : lo ≤ bx := by omega
  have hzb : w.heap.size ≠ bx := by omega
  go_wp2
  rw [← hW2, ← hbx]
  have hnl : ns.length ≤ 10 := hns
  have HNL := Lib.hid (rfl : ns.length = ns.length)
  clear hW2 hbx EX2 HT1 HC1 HZ1 HO1 HO2 HK1
  generalize hnn : ns.length = nn at *
  have HNN := Lib.hid hnn
  clear hnn HNL hns
  go_loopw [21] (fun iv wr => ∃ (k : Nat) (B3 : Option Addr) (d3 : Nat) (B4 : Option Addr) (d4 : Nat) (up : List Bool) (pl : List (List Pt)), k ≤ nn ∧ iv = .int .i64 k ∧ Hid (RoomU wr lo ps ns up (pl, []) A1 c1 A2 c2 B3 d3 B4 d4 none 0) ∧ Hid (up.length = k ∧ pl.length = k ∧ ∀ p ∈ pl, p.length ≤ 1) ∧ Hid (wr.ownsRow lo 44 5 (.slice (some ⟨bx, 0, none⟩) 1 1) 1 [.slice A1 ps.length c1, .slice A2 nn c2, .slice B3 k d3, .slice B4 k d4, .slice none 0 0]) ∧ Hid (Turned g (g + 1) w wr) ∧ Hid (Cur wr g) ∧ Hid (wr.ownsRow (g + 1) 44 5 (.slice (some ⟨w.heap.size, 0, none⟩) 1 1) 1 [.slice none 0 0, .slice none 0 0, .slice none 0 0, .slice none 0 0, .slice none 0 0])) (fun iv _ => nn - (intOf iv).toNat)
  case atStart => exact ⟨0, none, 0, none, 0, [], [], Nat.zero_le _, rfl, HRO2, Lib.hid ⟨rfl, rfl, fun p hp => by cases hp⟩, HBX2, HT2, HC2, HZ2⟩
  case round =>
    clear HRO2 HBX2 HT2 HC2 HZ2 HNS
    obtain ⟨k, B3, d3, B4, d4, up, pl, hk, rfl, HRO, HUL, HBX, HT, HC, HZ⟩ := hrel
    by_cases hlt : k < nn
    · have HSN := Lib.hid (show SlAt RNode 4 wr A2 nn ns from by have h := (HRO.out.1.nod).sl Node.size HK2.out; rw [HNN.out] at h; exact h)
      obtain ⟨bo, oo, x, cs, hD, hbw, hx, _, hc, rfl, _⟩ := HSN.out.at_ hlt
      subst hD
      have y0 := hc 0 _ rfl
      have y1 := hc 1 _ rfl
      have y2 := hc 2 _ rfl
      have y3 := hc 3 _ rfl
      simp only [Nat.add_zero] at y0
      clear hc hx HSN
      have hbl := (HBX.out.lt bx rfl)
      obtain ⟨hpl1, L, hL, hLi⟩ := HRO.out.1.pro
      have HLL := Lib.hid (show wr.ownsRow lo 42 1 (.slice B4 k d4) k L by have h := hL; simp only [HUL.out.2.1] at h; exact h)
      have HLI := Lib.hid hLi
      clear hpl1 hL hLi
      go_wp2_with fail
      refine (pNew_c x.Cap _).mono ?_
      rintro e w4 ⟨Ap, cp, pts, b4, rfl, ho4, hk4, hl4, _, hb4⟩
      have HE4 := Lib.hid (show Ext wr w4 from ((Ext.refl _).alloc _).trans hb4)
      have hle4 := HE4.out.le
      have HO4 := Lib.hid (owns_base ho4 (show lo ≤ _ from by simp; omega))
      have HKP := Lib.hid hk4
      clear ho4 hb4 hk4 y0 y1 y2 y3 hbw
      have x4 := HE4.out.cell (gcells5 HBX.out).2.2.2.1
      have hx4 : bx < w4.heap.size := lt_of_cell x4
      generalize hpt : pts.length = npt at *
      have HPT := Lib.hid hpt
      clear hpt
      go_wp2_with (at_builtin; go_must (refine wpList_append_r (enc := encS) (ok := fun _ => True) (.tmp 32) (.tmp 34) _ lo 42 i1 _ 1 24 (.slice B4 k d4) k _ (some ⟨w4.heap.size + 1, 0, none⟩) 1 1 [(Ap, npt, cp)] rfl rfl Tryz.underlying39 hi1 hJ0 hJ1 hJ2 rfl (by omega) rfl (owns_ext HLL.out (HE4.out.alloc _ |>.alloc _)) rfl (by exact sl_one_at (enc := encS) _ _ (by simp) (Ap, npt, cp) 42 rfl trivial) (fun _ => rfl) encS_one (by unfold maxLen; omega) (by omega) (by simp; omega) ?_); intro A9 c9 w5 hr5; (have HR5 := Lib.hid hr5); (have HB5 := Lib.hid (hr5.other (owns_ext HBX.out (HE4.out.alloc (.cells #[.slice Ap npt cp] 42) |>.alloc (.cells (encS (Ap, npt, cp)).toArray 42))) (g_apart HBX.out HLL.out (by decide)))); (have x5 := (gcells5 HB5.out).2.2.2.1); (have xf5 := HB5.out.frozenAt 3); (have hl5 := (HB5.out.lt bx rfl).2); clear hr5)
      have HR5a := Lib.hid (show RoomU w5 lo ps ns up (pl ++ [pts], []) A1 c1 (some ⟨bo, oo, none⟩) c2 B3 d3 A9 c9 none 0 from (HRO.out.ext (HE4.out.alloc (.cells #[.slice Ap npt cp] 42) |>.alloc (.cells (encS (Ap, npt, cp)).toArray 42))).push HUL.out.2.1 (owns_ext HLL.out (HE4.out.alloc _ |>.alloc _)) (fun j p hj => by obtain ⟨Ap, cp, e1, e2, e3⟩ := HLI.out j p hj; exact ⟨Ap, cp, e1, owns_ext e2 (HE4.out.alloc _ |>.alloc _), e3⟩) HR5.out (B1 := Ap) (d1 := cp) (by rw [HPT.out]; simp [encS]) (by have h := owns_ext HO4.out ((Ext.refl w4).alloc (.cells #[.slice Ap npt cp] 42) |>.alloc (.cells (encS (Ap, npt, cp)).toArray 42)); rw [← HPT.out] at h ⊢; exact h) HKP.out)
      have HT5 := Lib.hid (turned_low (HT.out.ext (HE4.out.alloc (.cells #[.slice Ap npt cp] 42) |>.alloc (.cells (encS (Ap, npt, cp)).toArray 42))) (HR5.out.turned (lo := lo) (fun q hq => (HLL.out.lt q hq).1)) (by omega))
      have HC5 := Lib.hid ((HC.out.ext (HE4.out.alloc (.cells #[.slice Ap npt cp] 42) |>.alloc (.cells (encS (Ap, npt, cp)).toArray 42))).keep (HR5.out.turned (lo := lo) (fun q hq => (HLL.out.lt q hq).1)) (by omega))
      have HZ5 := Lib.hid (HR5.out.other (owns_ext HZ.out (HE4.out.alloc (.cells #[.slice Ap npt cp] 42) |>.alloc (.cells (encS (Ap, npt, cp)).toArray 42))) (g_apart HZ.out HLL.out (by decide)))
      have HW6 := Lib.hid (show RoomU (w5.setCell ⟨bx, 3, none⟩ (.slice A9 (k + 1) c9)) lo ps ns up (pl ++ [pts], []) A1 c1 (some ⟨bo, oo, none⟩) c2 B3 d3 A9 c9 none 0 from HR5a.out.far HB5.out)
      have HB6 := Lib.hid (show (w5.setCell ⟨bx, 3, none⟩ (.slice A9 (k + 1) c9)).ownsRow lo 44 5 (.slice (some ⟨bx, 0, none⟩) 1 1) 1 [.slice A1 ps.length c1, .slice (some ⟨bo, oo, none⟩) nn c2, .slice B3 k d3, .slice A9 (k + 1) c9, .slice none 0 0] from (HB5.out.stored 3 _).1)
      have HT6 := Lib.hid (show Turned g (g + 1) w (w5.setCell ⟨bx, 3, none⟩ (.slice A9 (k + 1) c9)) from turned_own HT5.out (by omega))
      have HC6 := Lib.hid (show Cur (w5.setCell ⟨bx, 3, none⟩ (.slice A9 (k + 1) c9)) g from HC5.out.put (by omega))
      have HZ6 := Lib.hid (show (w5.setCell ⟨bx, 3, none⟩ (.slice A9 (k + 1) c9)).ownsRow (g + 1) 44 5 (.slice (some ⟨w.heap.size, 0, none⟩) 1 1) 1 [.slice none 0 0, .slice none 0 0, .slice none 0 0, .slice none 0 0, .slice none 0 0] from g_far HZ5.out (fun e => hzb (Option.some.inj e)))
      clear HR5 HR5a HT5 HC5 HZ5 HB5 HO4 HKP HE4 HRO HBX HT HC HZ HLL HLI x4 hx4
      go_upto_region 8 with fail
      have HPL6 := Lib.hid (show up.length = k ∧ (pl ++ [pts]).length = k + 1 ∧ ∀ p ∈ pl ++ [pts], p.length ≤ 1 from ⟨HUL.out.1, by rw [List.length_append, HUL.out.2.1]; rfl, fun p hp => by
        rcases List.mem_append.1 hp with hp | hp
        · exact HUL.out.2.2 p hp
        · rw [List.mem_singleton.1 hp, HPT.out]; exact hl4⟩)
      clear HUL HPT x5 xf5 hl5
      generalize (pl ++ [pts]) = pl6 at *
      generalize (w5.setCell ⟨bx, 3, none⟩ (.slice A9 (k + 1) c9)) = w6 at *
      have z2 := (gcells5 HB6.out).2.2.1
      have hz2 : bx < w6.heap.size := lt_of_cell z2
      have hbg : bx ≠ g := by omega
      go_region_law (first
        | (go_simp; go_at_call 89; (with_reducible refine (HB.out 8 (H9.out _ (by omega) (by omega)) _ (HC6.out.ext ((Ext.refl _).drew))).mono ?_); rintro e w7 ⟨v7, rfl, ⟨hv7a, hv7b⟩, ht7, hc7⟩; have HT7 := Lib.hid ((Ext.turned ((Ext.refl w6).drew) g (g + 1)).trans ht7); have HC7 := Lib.hid hc7; have x7 := cellT HT7.out z2 hbg; have hx7 : bx < w7.heap.size := lt_of_cell x7; have HR7 := Lib.hid (HW6.out.turn HT7.out (by omega)); clear ht7 hc7)
        | (refine step_append_r (enc := encB) (ok := fun _ => True) (by rfl) _ _ _ (by rfl) lo 4 i2 _ 1 1 Tryz.underlying26 hi2 hK0 hK1 hK2 rfl (by omega) (.slice B3 k d3) k (up.flatMap encB) _ 1 1 [decide (0 < v7)] (k + 1) rfl (by rfl) (by rfl) (by have h := owns_ext HR7.out.2 ((Ext.refl _).alloc (.cells (encB (decide (0 < v7))).toArray 4)); rw [HPL6.out.1] at h; exact h) (by exact sl_one_r (enc := encB) w7 (decide (0 < v7)) 4 rfl trivial) (fun _ => rfl) encB_one (by unfold maxLen; omega) (by omega) (by simp; omega) ?_; intro A10 c10 w8 hr8; have HR8 := Lib.hid hr8; have HB8 := Lib.hid (hr8.other (owns_ext (ownsT HB6.out HT7.out (by omega)) ((Ext.refl w7).alloc (.cells (encB (decide (0 < v7))).toArray 4))) (g_apart (ownsT HB6.out HT7.out (by omega)) HR7.out.2 (by decide) |> fun h => by rw [HPL6.out.1] at h; exact h)); have x8 := (gcells5 HB8.out).2.2.1; have xf8 := HB8.out.frozenAt 2; have hl8 := (HB8.out.lt bx rfl).2; clear hr8))
      all_goals
        have HU8 := Lib.hid ((HR7.out.ext ((Ext.refl w7).alloc (.cells (encB (decide (0 < v7))).toArray 4))).pushU HPL6.out.1 HR8.out)
        have HT8 := Lib.hid (turned_low ((HT6.out.trans HT7.out).ext ((Ext.refl w7).alloc (.cells (encB (decide (0 < v7))).toArray 4))) (HR8.out.turned (lo := lo) (fun q hq => by have h := HR7.out.2; rw [HPL6.out.1] at h; exact (h.lt q hq).1)) (by omega))
        have HC8 := Lib.hid ((HC7.out.ext ((Ext.refl w7).alloc (.cells (encB (decide (0 < v7))).toArray 4))).keep (HR8.out.turned (lo := lo) (fun q hq => by have h := HR7.out.2; rw [HPL6.out.1] at h; exact (h.lt q hq).1)) (by omega))
        have HZ8 := Lib.hid (HR8.out.other (owns_ext (ownsT HZ6.out HT7.out (Nat.le_refl _)) ((Ext.refl w7).alloc (.cells (encB (decide (0 < v7))).toArray 4))) (g_apart (ownsT HZ6.out HT7.out (Nat.le_refl _)) HR7.out.2 (by decide) |> fun h => by rw [HPL6.out.1] at h; exact h))
        have HL8 := Lib.hid (show (up ++ [decide (0 < v7)]).length = k + 1 ∧ pl6.length = k + 1 ∧ ∀ p ∈ pl6, p.length ≤ 1 from ⟨by rw [List.length_append, HPL6.out.1]; rfl, HPL6.out.2⟩)
        clear x7 HR8 HR7 HC7 HT7 HT6 HC6 HZ6 HW6 HB6 z2 hz2
        generalize (up ++ [decide (0 < v7)]) = up8 at *
        go_wp2
        go_roundw
        case rel => exact ⟨k + 1, A10, c10, A9, c9, up8, pl6, by omega, by go_num, Lib.hid (HU8.out.far HB8.out), HL8, Lib.hid (HB8.out.stored 2 _).1, Lib.hid (turned_own HT8.out (by omega)), Lib.hid (HC8.out.put (by omega)), Lib.hid (g_far HZ8.out (fun e => hzb (Option.some.inj e)))⟩
        case measure => simp [intOf]; omega
    · obtain rfl : k = nn := by omega
      obtain ⟨hu0, hl0, hp0⟩ := HUL.out
      go_wp2_with fail
      refine (pNew_c ⟨4, 2, 1⟩ _).mono ?_
      rintro e w4 ⟨Ap, cp, pts, b4, rfl, ho4, hk4, hl4, _, hb4⟩
      have HB4 := Lib.hid (owns_ext HBX.out hb4)
      have HR4 := Lib.hid ((HRO.out.ext hb4).lics (owns_base ho4 (show lo ≤ wr.heap.size by have := (HBX.out.lt bx rfl).2; omega)) hk4)
      have HT4 := Lib.hid (HT.out.ext hb4)
      have HC4 := Lib.hid (HC.out.ext hb4)
      have HZ4 := Lib.hid (owns_ext HZ.out hb4)
      have HR5 := Lib.hid (HR4.out.far HB4.out (p := 4) (u := .slice Ap pts.length cp))
      have HB5 := Lib.hid (show (w4.setCell ⟨bx, 4, none⟩ (.slice Ap pts.length cp)).ownsRow lo 44 5 (.slice (some ⟨bx, 0, none⟩) 1 1) 1 [.slice A1 ps.length c1, .slice A2 k c2, .slice B3 k d3, .slice B4 k d4, .slice Ap pts.length cp] from (HB4.out.stored 4 _).1)
      have HT5 := Lib.hid (show Turned g (g + 1) w (w4.setCell ⟨bx, 4, none⟩ (.slice Ap pts.length cp)) from turned_own HT4.out (by omega))
      have HC5 := Lib.hid (show Cur (w4.setCell ⟨bx, 4, none⟩ (.slice Ap pts.length cp)) g from HC4.out.put (by omega))
      have HZ5 := Lib.hid (g_far (p := 4) (u := .slice Ap pts.length cp) HZ4.out (fun e => hzb (Option.some.inj e)))
      obtain ⟨x0, x1, x2, x3, x4, xf0, xf1, xf2, xf3, xf4, xl⟩ := gcells5 HB4.out
      rw [← HNN.out] at hnl
      have HSZ := Lib.hid (show (ps.length ≤ 18 ∧ ns.length ≤ 10 ∧ up.length ≤ 10 ∧ pl.length ≤ 10) ∧ (∀ p ∈ pl, p.length ≤ 1) ∧ pts.length ≤ 1 from ⟨⟨hps, hnl, by rw [hu0, ← HNN.out]; exact hnl, by rw [hl0, ← HNN.out]; exact hnl⟩, hp0, hl4⟩)
      have HB5b := Lib.hid (show (w4.setCell ⟨bx, 4, none⟩ (.slice Ap pts.length cp)).ownsRow lo 44 5 (.slice (some ⟨bx, 0, none⟩) 1 1) 1 [.slice A1 ps.length c1, .slice A2 ns.length c2, .slice B3 up.length d3, .slice B4 pl.length d4, .slice Ap pts.length cp] from by rw [HNN.out, hu0, hl0]; exact HB5.out)
      clear HB5 HRO HBX HT HC HZ ho4 hk4 hb4 HR4 HT4 HC4 HZ4 HUL hu0 hl0 hp0 hi1 hJ0 hJ1 hJ2 hi2 hK0 hK1 hK2
      clear i1 i2
      go_wp2_with fail
      refine (HB.out 5 (H9.out _ (by omega) (by omega)) _ HC5.out).mono ?_
      rintro e w6 ⟨v6, rfl, ⟨hv6a, hv6b⟩, ht6, hc6⟩
      have HR6 := Lib.hid (HR5.out.turn ht6 (by omega))
      have HB6 := Lib.hid (ownsT HB5b.out ht6 (by omega))
      have HT6 := Lib.hid (HT5.out.trans ht6)
      have HC6 := Lib.hid hc6
      have HZ6 := Lib.hid (ownsT HZ5.out ht6 (Nat.le_refl _))
      have HS6 := Lib.hid (show (ps.length ≤ 18 ∧ ns.length ≤ 10 ∧ up.length ≤ 10 ∧ pl.length ≤ 10) ∧ (∀ p ∈ pl, (p.length : Int) + 2 * v6 ≤ 9) ∧ (pts.length : Int) + 2 * v6 ≤ 9 from ⟨HSZ.out.1, fun p hp => by have := HSZ.out.2.1 p hp; omega, by have := HSZ.out.2.2; omega⟩)
      clear ht6 hc6 HR5 HB5b HT5 HC5 HZ5 HSZ x0 x1 x2 x3 x4 xf0 xf1 xf2 xf3 xf4 xl
      go_wp2
      go_loopw [9] (fun nv wr => ∃ (v : Int) (ps2 : List Int) (ns2 : List Node) (up2 : List Bool) (pl2 : List (List Pt)) (lic2 : List Pt) (B1 : Option Addr) (d1 : Nat) (B2 : Option Addr) (d2 : Nat) (B3 : Option Addr) (d3 : Nat) (B4 : Option Addr) (d4 : Nat) (B5 : Option Addr) (d5 : Nat), 0 ≤ v ∧ v ≤ 4 ∧ nv = .int .i64 v ∧ Hid (RoomU wr lo ps2 ns2 up2 (pl2, lic2) B1 d1 B2 d2 B3 d3 B4 d4 B5 d5) ∧ Hid ((ps2.length ≤ 18 ∧ ns2.length ≤ 10 ∧ up2.length ≤ 10 ∧ pl2.length ≤ 10) ∧ (∀ p ∈ pl2, (p.length : Int) + 2 * v ≤ 9) ∧ (lic2.length : Int) + 2 * v ≤ 9) ∧ Hid (wr.ownsRow lo 44 5 (.slice (some ⟨bx, 0, none⟩) 1 1) 1 [.slice B1 ps2.length d1, .slice B2 ns2.length d2, .slice B3 up2.length d3, .slice B4 pl2.length d4, .slice B5 lic2.length d5]) ∧ Hid (Turned g (g + 1) w wr) ∧ Hid (Cur wr g) ∧ Hid (wr.ownsRow (g + 1) 44 5 (.slice (some ⟨w.heap.size, 0, none⟩) 1 1) 1 [.slice none 0 0, .slice none 0 0, .slice none 0 0, .slice none 0 0, .slice none 0 0])) (fun nv _ => (intOf nv).toNat)
      case atStart => exact ⟨v6, ps, ns, up, pl, pts, A1, c1, _, c2, B3, d3, B4, d4, Ap, cp, hv6a, by omega, rfl, HR6, HS6, HB6, HT6, HC6, HZ6⟩
      case round =>
        clear HR6 HS6 HB6 HT6 HC6 HZ6 hv6a hv6b hnl hl4 HK2 HNN
        obtain ⟨v, ps2, ns2, up2, pl2, lic2, B1, d1, B2, d2, B3, d3, B4, d4, B5, d5, hv0, hv4, rfl, HRO, HSZ, HBX, HT, HC, HZ⟩ := hrel
        by_cases hlt : 0 < v
        · go_wp2_with fail
          refine (l04Job_c g _ HC.out).mono ?_
          rintro e wj ⟨j, rfl, hjk, htj, hcj⟩
          have HTJ := Lib.hid (htj.ext ((Ext.refl _).alloc (.cells #[.int .i64 j.Id, .int .i64 j.Prio, .int .i64 j.Nodes, .int .i64 j.Need.A, .int .i64 j.Need.B, .int .i64 j.Need.C, .int .i64 j.Lic.A, .int .i64 j.Lic.B, .int .i64 j.Lic.C, .int .i64 j.Wall, .int .i64 j.Level] 146)))
          have HCJ := Lib.hid (hcj.ext ((Ext.refl _).alloc (.cells #[.int .i64 j.Id, .int .i64 j.Prio, .int .i64 j.Nodes, .int .i64 j.Need.A, .int .i64 j.Need.B, .int .i64 j.Need.C, .int .i64 j.Lic.A, .int .i64 j.Lic.B, .int .i64 j.Lic.C, .int .i64 j.Wall, .int .i64 j.Level] 146)))
          have hwj : lo ≤ wj.heap.size := by have h1 := (HBX.out.lt bx rfl).2; have h2 := htj.le; omega
          have hbj : bx < wj.heap.size := by have h1 := (HBX.out.lt bx rfl).2; have h2 := htj.le; omega
          have HJB := Lib.hid (show ∀ u, Turned g (g + 1) (wj.alloc (.cells #[.int .i64 j.Id, .int .i64 j.Prio, .int .i64 j.Nodes, .int .i64 j.Need.A, .int .i64 j.Need.B, .int .i64 j.Need.C, .int .i64 j.Lic.A, .int .i64 j.Lic.B, .int .i64 j.Lic.C, .int .i64 j.Wall, .int .i64 j.Level] 146)) u → (u.cell? ⟨bx, 0, none⟩ = some (.slice B1 ps2.length d1) ∧ u.cell? ⟨bx, 1, none⟩ = some (.slice B2 ns2.length d2) ∧ u.cell? ⟨bx, 2, none⟩ = some (.slice B3 up2.length d3) ∧ u.cell? ⟨bx, 3, none⟩ = some (.slice B4 pl2.length d4) ∧ u.cell? ⟨bx, 4, none⟩ = some (.slice B5 lic2.length d5)) ∧ u.cell? ⟨wj.heap.size, 0, none⟩ = some (.int .i64 j.Id) ∧ u.cell? ⟨wj.heap.size, 1, none⟩ = some (.int .i64 j.Prio) ∧ u.cell? ⟨wj.heap.size, 2, none⟩ = some (.int .i64 j.Nodes) ∧ u.cell? ⟨wj.heap.size, 3, none⟩ = some (.int .i64 j.Need.A) ∧ u.cell? ⟨wj.heap.size, 4, none⟩ = some (.int .i64 j.Need.B) ∧ u.cell? ⟨wj.heap.size, 5, none⟩ = some (.int .i64 j.Need.C) ∧ u.cell? ⟨wj.heap.size, 6, none⟩ = some (.int .i64 j.Lic.A) ∧ u.cell? ⟨wj.heap.size, 7, none⟩ = some (.int .i64 j.Lic.B) ∧ u.cell? ⟨wj.heap.size, 8, none⟩ = some (.int .i64 j.Lic.C) ∧ u.cell? ⟨wj.heap.size, 9, none⟩ = some (.int .i64 j.Wall) ∧ u.cell? ⟨wj.heap.size, 10, none⟩ = some (.int .i64 j.Level) from fun u e => by
            have hg : wj.heap.size ≠ g := by omega
            have hg2 : bx ≠ g := by omega
            obtain ⟨x0, x1, x2, x3, x4, _⟩ := gcells5 (ownsT (ownsT HBX.out HTJ.out (by omega)) e (by omega))
            exact ⟨⟨x0, x1, x2, x3, x4⟩, cellT e (dcell_box wj [.int .i64 j.Id, .int .i64 j.Prio, .int .i64 j.Nodes, .int .i64 j.Need.A, .int .i64 j.Need.B, .int .i64 j.Need.C, .int .i64 j.Lic.A, .int .i64 j.Lic.B, .int .i64 j.Lic.C, .int .i64 j.Wall, .int .i64 j.Level] 146 0 _ rfl) hg, cellT e (dcell_box wj [.int .i64 j.Id, .int .i64 j.Prio, .int .i64 j.Nodes, .int .i64 j.Need.A, .int .i64 j.Need.B, .int .i64 j.Need.C, .int .i64 j.Lic.A, .int .i64 j.Lic.B, .int .i64 j.Lic.C, .int .i64 j.Wall, .int .i64 j.Level] 146 1 _ rfl) hg, cellT e (dcell_box wj [.int .i64 j.Id, .int .i64 j.Prio, .int .i64 j.Nodes, .int .i64 j.Need.A, .int .i64 j.Need.B, .int .i64 j.Need.C, .int .i64 j.Lic.A, .int .i64 j.Lic.B, .int .i64 j.Lic.C, .int .i64 j.Wall, .int .i64 j.Level] 146 2 _ rfl) hg, cellT e (dcell_box wj [.int .i64 j.Id, .int .i64 j.Prio, .int .i64 j.Nodes, .int .i64 j.Need.A, .int .i64 j.Need.B, .int .i64 j.Need.C, .int .i64 j.Lic.A, .int .i64 j.Lic.B, .int .i64 j.Lic.C, .int .i64 j.Wall, .int .i64 j.Level] 146 3 _ rfl) hg, cellT e (dcell_box wj [.int .i64 j.Id, .int .i64 j.Prio, .int .i64 j.Nodes, .int .i64 j.Need.A, .int .i64 j.Need.B, .int .i64 j.Need.C, .int .i64 j.Lic.A, .int .i64 j.Lic.B, .int .i64 j.Lic.C, .int .i64 j.Wall, .int .i64 j.Level] 146 4 _ rfl) hg, cellT e (dcell_box wj [.int .i64 j.Id, .int .i64 j.Prio, .int .i64 j.Nodes, .int .i64 j.Need.A, .int .i64 j.Need.B, .int .i64 j.Need.C, .int .i64 j.Lic.A, .int .i64 j.Lic.B, .int .i64 j.Lic.C, .int .i64 j.Wall, .int .i64 j.Level] 146 5 _ rfl) hg, cellT e (dcell_box wj [.int .i64 j.Id, .int .i64 j.Prio, .int .i64 j.Nodes, .int .i64 j.Need.A, .int .i64 j.Need.B, .int .i64 j.Need.C, .int .i64 j.Lic.A, .int .i64 j.Lic.B, .int .i64 j.Lic.C, .int .i64 j.Wall, .int .i64 j.Level] 146 6 _ rfl) hg, cellT e (dcell_box wj [.int .i64 j.Id, .int .i64 j.Prio, .int .i64 j.Nodes, .int .i64 j.Need.A, .int .i64 j.Need.B, .int .i64 j.Need.C, .int .i64 j.Lic.A, .int .i64 j.Lic.B, .int .i64 j.Lic.C, .int .i64 j.Wall, .int .i64 j.Level] 146 7 _ rfl) hg, cellT e (dcell_box wj [.int .i64 j.Id, .int .i64 j.Prio, .int .i64 j.Nodes, .int .i64 j.Need.A, .int .i64 j.Need.B, .int .i64 j.Need.C, .int .i64 j.Lic.A, .int .i64 j.Lic.B, .int .i64 j.Lic.C, .int .i64 j.Wall, .int .i64 j.Level] 146 8 _ rfl) hg, cellT e (dcell_box wj [.int .i64 j.Id, .int .i64 j.Prio, .int .i64 j.Nodes, .int .i64 j.Need.A, .int .i64 j.Need.B, .int .i64 j.Need.C, .int .i64 j.Lic.A, .int .i64 j.Lic.B, .int .i64 j.Lic.C, .int .i64 j.Wall, .int .i64 j.Level] 146 9 _ rfl) hg, cellT e (dcell_box wj [.int .i64 j.Id, .int .i64 j.Prio, .int .i64 j.Nodes, .int .i64 j.Need.A, .int .i64 j.Need.B, .int .i64 j.Need.C, .int .i64 j.Lic.A, .int .i64 j.Lic.B, .int .i64 j.Lic.C, .int .i64 j.Wall, .int .i64 j.Level] 146 10 _ rfl) hg⟩)
          clear htj hcj hjk
          go_upto_region 15 with fail
          have HSM := Lib.hid (show roomSm ps2 ns2 up2 pl2 lic2 from by
            obtain ⟨⟨h1, h2, h3, h4⟩, h5, h6⟩ := HSZ.out
            exact ⟨⟨by omega, by omega, by omega⟩, by omega, by omega, fun p hp => by have := h5 p hp; omega⟩)
          have HEA := Lib.hid (fun (t : Int) (ht : In64 t) (u : World) (e : Turned g (g + 1) (wj.alloc (.cells #[.int .i64 j.Id, .int .i64 j.Prio, .int .i64 j.Nodes, .int .i64 j.Need.A, .int .i64 j.Need.B, .int .i64 j.Need.C, .int .i64 j.Lic.A, .int .i64 j.Lic.B, .int .i64 j.Lic.C, .int .i64 j.Wall, .int .i64 j.Level] 146)) u) => show Calls Tryz.prog 112 #[.agg #[.slice B1 ps2.length d1, .slice B2 ns2.length d2, .slice B3 up2.length d3, .slice B4 pl2.length d4, .slice B5 lic2.length d5], .agg #[.int .i64 j.Id, .int .i64 j.Prio, .int .i64 j.Nodes, .int .i64 j.Need.A, .int .i64 j.Need.B, .int .i64 j.Need.C, .int .i64 j.Lic.A, .int .i64 j.Lic.B, .int .i64 j.Lic.C, .int .i64 j.Wall, .int .i64 j.Level], .int .i64 t] u (RetEarl u (roomB ps2 ns2 up2 pl2 lic2)) from Earliest_c ps2 ns2 up2 pl2 lic2 j t _ u ((HRO.out.turn (HTJ.out.trans e) (by omega)).1.at_) HSM.out ht)
          have hbjw : bx < (wj.alloc (.cells #[.int .i64 j.Id, .int .i64 j.Prio, .int .i64 j.Nodes, .int .i64 j.Need.A, .int .i64 j.Need.B, .int .i64 j.Need.C, .int .i64 j.Lic.A, .int .i64 j.Lic.B, .int .i64 j.Lic.C, .int .i64 j.Wall, .int .i64 j.Level] 146)).heap.size := by simp; omega
          generalize hwk : wj.alloc (.cells #[.int .i64 j.Id, .int .i64 j.Prio, .int .i64 j.Nodes, .int .i64 j.Need.A, .int .i64 j.Need.B, .int .i64 j.Need.C, .int .i64 j.Lic.A, .int .i64 j.Lic.B, .int .i64 j.Lic.C, .int .i64 j.Wall, .int .i64 j.Level] 146) = wk at *
          have hjk2 : wj.heap.size < wk.heap.size := by rw [← hwk]; simp
          clear hwk
          go_cut [11, 12, 13] from 54 to 77 (fun s11 s12 s13 wx => ∃ (t : Int) (A7 : Option Addr) (n7 c7 : Nat) (ok : Bool), s11 = .int .i64 t ∧ s12 = .slice A7 n7 c7 ∧ s13 = .bool ok ∧ In64 t ∧ n7 ≤ 1048576 ∧ n7 ≤ c7 ∧ Hid (∃ xs, SlAt RInt 1 wx A7 n7 xs) ∧ Hid (ok = true → roomB ps2 ns2 up2 pl2 lic2 = true) ∧ Hid (Turned g (g + 1) wk wx) ∧ Hid (Cur wx g))
          case first =>
            go_region_held3 (fun u => (u.cell? ⟨bx, 0, none⟩ = some (.slice B1 ps2.length d1) ∧ u.cell? ⟨bx, 1, none⟩ = some (.slice B2 ns2.length d2) ∧ u.cell? ⟨bx, 2, none⟩ = some (.slice B3 up2.length d3) ∧ u.cell? ⟨bx, 3, none⟩ = some (.slice B4 pl2.length d4) ∧ u.cell? ⟨bx, 4, none⟩ = some (.slice B5 lic2.length d5)) ∧ u.cell? ⟨wj.heap.size, 0, none⟩ = some (.int .i64 j.Id) ∧ u.cell? ⟨wj.heap.size, 1, none⟩ = some (.int .i64 j.Prio) ∧ u.cell? ⟨wj.heap.size, 2, none⟩ = some (.int .i64 j.Nodes) ∧ u.cell? ⟨wj.heap.size, 3, none⟩ = some (.int .i64 j.Need.A) ∧ u.cell? ⟨wj.heap.size, 4, none⟩ = some (.int .i64 j.Need.B) ∧ u.cell? ⟨wj.heap.size, 5, none⟩ = some (.int .i64 j.Need.C) ∧ u.cell? ⟨wj.heap.size, 6, none⟩ = some (.int .i64 j.Lic.A) ∧ u.cell? ⟨wj.heap.size, 7, none⟩ = some (.int .i64 j.Lic.B) ∧ u.cell? ⟨wj.heap.size, 8, none⟩ = some (.int .i64 j.Lic.C) ∧ u.cell? ⟨wj.heap.size, 9, none⟩ = some (.int .i64 j.Wall) ∧ u.cell? ⟨wj.heap.size, 10, none⟩ = some (.int .i64 j.Level)) ((refine HJB.out _ ?_; first | exact ((Ext.refl wk).drew).turned g (g + 1) | exact HT6.out | exact HT7.out)) (first
              | (go_at_call 89; (with_reducible refine (HB.out 20 (H9.out _ (by omega) (by omega)) _ (HCJ.out.ext ((Ext.refl _).drew))).mono ?_); rintro e w6 ⟨v6, rfl, ⟨hv6a, hv6b⟩, ht6, hc6⟩; have HT6 := Lib.hid ((Ext.turned ((Ext.refl wk).drew) g (g + 1)).trans ht6); have HC6 := Lib.hid hc6; clear ht6 hc6)
              | (go_at_call 112; (with_reducible refine (HEA.out v6 (H9.out _ (by omega) (by omega)) _ HT6.out).mono ?_); rintro e w7 ⟨ok7, t7, A7, n7, c7, xs7, rfl, ht7, hs7, hn7, hc7, hr7, hb7⟩; have HT7 := Lib.hid (HT6.out.ext hb7); have HC7 := Lib.hid (HC6.out.ext hb7); have HS7 := Lib.hid hs7; have HR7 := Lib.hid hr7; clear hs7 hb7 hr7))
            all_goals
              go_wp2_with fail
              go_meet
              exact ⟨t7, A7, n7, c7, ok7, rfl, rfl, rfl, ht7, hn7, hc7, Lib.hid ⟨xs7, HS7.out⟩, HR7, HT7, HC7⟩
          case rest =>
            obtain ⟨t, A7, n7, c7, ok, rfl, rfl, rfl, ht7, hn7, hc7, HS7, HR7, HT7, HC7⟩ := hcut
            have HU7 := Lib.hid (HRO.out.turn (HTJ.out.trans HT7.out) (by omega))
            have HB7 := Lib.hid (ownsT HBX.out (HTJ.out.trans HT7.out) (by omega))
            have HTA := Lib.hid (HT.out.trans (HTJ.out.trans HT7.out))
            have HZ7 := Lib.hid (ownsT HZ.out (HTJ.out.trans HT7.out) (Nat.le_refl _))
            have hwv : IntKind.i64.wrap (v - 1) = v - 1 := IntWalk.i64_in _ ⟨by omega, by omega⟩
            obtain ⟨⟨x0, x1, x2, x3, x4⟩, j0, j1, j2, j3, j4, j5, j6, j7, j8, j9, j10⟩ := HJB.out wc HT7.out
            have hxl : bx < wc.heap.size := lt_of_cell x0
            have hjl : wj.heap.size < wc.heap.size := lt_of_cell j0
            clear HJB HEA HRO HBX HT HC HZ HTJ HCJ
            rcases ok with _ | _
            · clear x0 x1 x2 x3 x4 j0 j1 j2 j3 j4 j5 j6 j7 j8 j9 j10
              go_wp2
              go_roundw
              case rel => exact ⟨v - 1, ps2, ns2, up2, pl2, lic2, B1, d1, B2, d2, B3, d3, B4, d4, B5, d5, by omega, by omega, by go_num, HU7, Lib.hid ⟨HSZ.out.1, fun p hp => by have := HSZ.out.2.1 p hp; omega, by have := HSZ.out.2.2; omega⟩, HB7, HTA, HC7, HZ7⟩
              case measure => simp [intOf]; omega
            · obtain ⟨xs7, hs7⟩ := HS7.out
              obtain ⟨htb, hul, hrm⟩ := roomB_parts (HR7.out rfl)
              have HRV := Lib.hid (show Calls Tryz.prog 113 #[.agg #[.slice B1 ps2.length d1, .slice B2 ns2.length d2, .slice B3 up2.length d3, .slice B4 pl2.length d4, .slice B5 lic2.length d5], .agg #[.int .i64 j.Id, .int .i64 j.Prio, .int .i64 j.Nodes, .int .i64 j.Need.A, .int .i64 j.Need.B, .int .i64 j.Need.C, .int .i64 j.Lic.A, .int .i64 j.Lic.B, .int .i64 j.Lic.C, .int .i64 j.Wall, .int .i64 j.Level], .int .i64 t, .slice A7 n7 c7] wc (RetRoomSZ wc ps2 ns2 up2 (if (jobB j && jobNodesB ns2.length j xs7 && timeB t) = true then moveM t (t + j.Wall) j xs7 (pl2, lic2) else none)) from sReserveZ_c ps2 ns2 up2 pl2 lic2 j t xs7 A7 n7 c7 _ wc HU7.out.1.at_ htb hul hrm hs7 (by unfold maxLen; omega) hc7 ht7)
              have HUL := Lib.hid hul
              have HML := Lib.hid (fun (o : List (List Pt) × List Pt) (h : (if (jobB j && jobNodesB ns2.length j xs7 && timeB t) = true then moveM t (t + j.Wall) j xs7 (pl2, lic2) else none) = some o) => show 1 ≤ ns2.length ∧ o.1.length = pl2.length ∧ (∀ p ∈ o.1, p.length ≤ (9 - 2 * v).toNat + 2) ∧ o.2.length ≤ (9 - 2 * v).toNat + 2 from by
                split at h
                · rename_i hj
                  rw [Bool.and_eq_true, Bool.and_eq_true] at hj
                  exact ⟨jobNodes_pos hj.1.1 hj.1.2, moveM_len hj.1.2 (fun p hp => by have := HSZ.out.2.1 p hp; omega) (by have := HSZ.out.2.2; omega) h⟩
                · cases h)
              generalize (if (jobB j && jobNodesB ns2.length j xs7 && timeB t) = true then moveM t (t + j.Wall) j xs7 (pl2, lic2) else none) = R at *
              clear hs7 HS7 htb hul hrm HR7
              go_wp2_with fail
              refine HRV.out.mono ?_
              rintro e w8 ⟨E1, n1, f1, E2, n2, f2, E3, n3, f3, E4, n4, f4, E5, n5, f5, rfl, hro, hzz, hb8⟩
              have HB8 := Lib.hid (owns_ext HB7.out hb8)
              have HT8 := Lib.hid (HTA.out.ext hb8)
              have HC8 := Lib.hid (HC7.out.ext hb8)
              have HZ8 := Lib.hid (owns_ext HZ7.out hb8)
              obtain ⟨y0, y1, y2, y3, y4, yf0, yf1, yf2, yf3, yf4, yl⟩ := gcells5 HB8.out
              have hwc : lo ≤ wc.heap.size := by omega
              clear x0 x1 x2 x3 x4 j0 j1 j2 j3 j4 j5 j6 j7 j8 j9 j10 HRV HU7 HB7 HTA HC7 HZ7 hb8
              rcases R with _ | ⟨pl3, lic3⟩
              · obtain ⟨⟨rfl, rfl, rfl⟩, ⟨rfl, rfl, rfl⟩, ⟨rfl, rfl, rfl⟩, ⟨rfl, rfl, rfl⟩, rfl, rfl, rfl⟩ := hzz rfl
                have HF := Lib.hid ((RoomU.empty w8 lo).fill HB8.out (.slice none 0 0) (.slice none 0 0) (.slice none 0 0) (.slice none 0 0) (.slice none 0 0))
                have HTF := Lib.hid (turned_own (turned_own (turned_own (turned_own (turned_own HT8.out (base := bx) (j := 0) (u := .slice none 0 0) (by omega)) (base := bx) (j := 1) (u := .slice none 0 0) (by omega)) (base := bx) (j := 2) (u := .slice none 0 0) (by omega)) (base := bx) (j := 3) (u := .slice none 0 0) (by omega)) (base := bx) (j := 4) (u := .slice none 0 0) (by omega))
                have HCF := Lib.hid (((((HC8.out.put (b := bx) (j := 0) (u := .slice none 0 0) (by omega)).put (b := bx) (j := 1) (u := .slice none 0 0) (by omega)).put (b := bx) (j := 2) (u := .slice none 0 0) (by omega)).put (b := bx) (j := 3) (u := .slice none 0 0) (by omega)).put (b := bx) (j := 4) (u := .slice none 0 0) (by omega))
                have HZF := Lib.hid (g_far (g := bx) (p := 4) (u := .slice none 0 0) (g_far (g := bx) (p := 3) (u := .slice none 0 0) (g_far (g := bx) (p := 2) (u := .slice none 0 0) (g_far (g := bx) (p := 1) (u := .slice none 0 0) (g_far (g := bx) (p := 0) (u := .slice none 0 0) HZ8.out (fun e => hzb (Option.some.inj e))) (fun e => hzb (Option.some.inj e))) (fun e => hzb (Option.some.inj e))) (fun e => hzb (Option.some.inj e))) (fun e => hzb (Option.some.inj e)))
                clear HB8 HT8 HC8 HZ8 HML
                go_wp2
                go_roundw
                case rel => exact ⟨v - 1, [], [], [], [], [], none, 0, none, 0, none, 0, none, 0, none, 0, by omega, by omega, by go_num, Lib.hid HF.out.1, Lib.hid ⟨⟨by simp, by simp, by simp, by simp⟩, (fun p hp => by cases hp), by simp; omega⟩, Lib.hid HF.out.2, HTF, HCF, HZF⟩
                case measure => simp [intOf]; omega
              · obtain ⟨rfl, rfl, rfl, rfl, rfl, hro2⟩ := hro _ rfl
                obtain ⟨hn1, hl3, hp3, hc3⟩ := HML.out _ rfl
                simp only [] at hro2 hl3 hp3 hc3 yl ⊢
                have HRU := Lib.hid (show RoomU w8 lo ps2 ns2 up2 (pl3, lic3) E1 f1 E2 f2 E3 f3 E4 f4 E5 f5 from ⟨hro2.base hwc, by
                  rcases hro2.ups with h | h
                  · have := HUL.out; omega
                  · exact owns_base h hwc⟩)
                have HF := Lib.hid (HRU.out.fill HB8.out (.slice E1 ps2.length f1) (.slice E2 ns2.length f2) (.slice E3 up2.length f3) (.slice E4 pl3.length f4) (.slice E5 lic3.length f5))
                have HTF := Lib.hid (turned_own (turned_own (turned_own (turned_own (turned_own HT8.out (base := bx) (j := 0) (u := .slice E1 ps2.length f1) (by omega)) (base := bx) (j := 1) (u := .slice E2 ns2.length f2) (by omega)) (base := bx) (j := 2) (u := .slice E3 up2.length f3) (by omega)) (base := bx) (j := 3) (u := .slice E4 pl3.length f4) (by omega)) (base := bx) (j := 4) (u := .slice E5 lic3.length f5) (by omega))
                have HCF := Lib.hid (((((HC8.out.put (b := bx) (j := 0) (u := .slice E1 ps2.length f1) (by omega)).put (b := bx) (j := 1) (u := .slice E2 ns2.length f2) (by omega)).put (b := bx) (j := 2) (u := .slice E3 up2.length f3) (by omega)).put (b := bx) (j := 3) (u := .slice E4 pl3.length f4) (by omega)).put (b := bx) (j := 4) (u := .slice E5 lic3.length f5) (by omega))
                have HZF := Lib.hid (g_far (g := bx) (p := 4) (u := .slice E5 lic3.length f5) (g_far (g := bx) (p := 3) (u := .slice E4 pl3.length f4) (g_far (g := bx) (p := 2) (u := .slice E3 up2.length f3) (g_far (g := bx) (p := 1) (u := .slice E2 ns2.length f2) (g_far (g := bx) (p := 0) (u := .slice E1 ps2.length f1) HZ8.out (fun e => hzb (Option.some.inj e))) (fun e => hzb (Option.some.inj e))) (fun e => hzb (Option.some.inj e))) (fun e => hzb (Option.some.inj e))) (fun e => hzb (Option.some.inj e)))
                have HSF := Lib.hid (show (ps2.length ≤ 18 ∧ ns2.length ≤ 10 ∧ up2.length ≤ 10 ∧ pl3.length ≤ 10) ∧ (∀ p ∈ pl3, (p.length : Int) + 2 * (v - 1) ≤ 9) ∧ (lic3.length : Int) + 2 * (v - 1) ≤ 9 from ⟨⟨HSZ.out.1.1, HSZ.out.1.2.1, HSZ.out.1.2.2.1, by have := HSZ.out.1.2.2.2; omega⟩, fun p hp => by have := hp3 p hp; omega, by omega⟩)
                clear HB8 HT8 HC8 HZ8 HML hro hzz hro2 HRU hn1 hl3 hp3 hc3 HUL HSZ HSM
                go_wp2
                go_roundw
                case rel => exact ⟨v - 1, ps2, ns2, up2, pl3, lic3, E1, f1, E2, f2, E3, f3, E4, f4, E5, f5, by omega, by omega, by go_num, Lib.hid HF.out.1, HSF, Lib.hid HF.out.2, HTF, HCF, HZF⟩
                case measure => simp [intOf]; omega
        · obtain rfl : v = 0 := by omega
          obtain ⟨y0, y1, y2, y3, y4, yf0, yf1, yf2, yf3, yf4, yl⟩ := gcells5 HBX.out
          obtain ⟨z0, z1, z2, z3, z4, zf0, zf1, zf2, zf3, zf4, zl⟩ := gcells5 HZ.out
          have HF := Lib.hid (((((HRO.out.low (b := w.heap.size) (p := 0) (u := .slice B1 ps2.length d1) (by omega)).low (b := w.heap.size) (p := 1) (u := .slice B2 ns2.length d2) (by omega)).low (b := w.heap.size) (p := 2) (u := .slice B3 up2.length d3) (by omega)).low (b := w.heap.size) (p := 3) (u := .slice B4 pl2.length d4) (by omega)).low (b := w.heap.size) (p := 4) (u := .slice B5 lic2.length d5) (by omega))
          have HTF := Lib.hid (turned_own (turned_own (turned_own (turned_own (turned_own HT.out (base := w.heap.size) (j := 0) (u := .slice B1 ps2.length d1) (by omega)) (base := w.heap.size) (j := 1) (u := .slice B2 ns2.length d2) (by omega)) (base := w.heap.size) (j := 2) (u := .slice B3 up2.length d3) (by omega)) (base := w.heap.size) (j := 3) (u := .slice B4 pl2.length d4) (by omega)) (base := w.heap.size) (j := 4) (u := .slice B5 lic2.length d5) (by omega))
          have HCF := Lib.hid (((((HC.out.put (b := w.heap.size) (j := 0) (u := .slice B1 ps2.length d1) (by omega)).put (b := w.heap.size) (j := 1) (u := .slice B2 ns2.length d2) (by omega)).put (b := w.heap.size) (j := 2) (u := .slice B3 up2.length d3) (by omega)).put (b := w.heap.size) (j := 3) (u := .slice B4 pl2.length d4) (by omega)).put (b := w.heap.size) (j := 4) (u := .slice B5 lic2.length d5) (by omega))
          have HSF := Lib.hid HSZ.out
          clear HRO HT HC HSZ HBX HZ
          go_wp2
          exact bodyPost_ret (v := .agg #[.slice B1 ps2.length d1, .slice B2 ns2.length d2, .slice B3 up2.length d3, .slice B4 pl2.length d4, .slice B5 lic2.length d5]) (by simp [results, Tryz.results88, go_sem, *]) rfl ⟨B1, d1, B2, d2, B3, d3, B4, d4, B5, d5, ps2, ns2, up2, pl2, lic2, rfl, HF.out.base (by omega), ⟨HSF.out.1.1, HSF.out.1.2.1, by have := HSF.out.1.2.2.1; omega, HSF.out.1.2.2.2⟩, fun p hp => by have := HSF.out.2.1 p hp; omega, by have := HSF.out.2.2; omega, HTF.out, HCF.out⟩
end Go.Proofs.YtgmlcohffdeplaaGreat
/-! DRoomA -/
namespace Go.Proofs.YtgmlcohffdeplaaGreat
open Go.RowKit
set_option linter.unusedVariables false
def RetRoomA (w : World) (g : Nat) : Ending → World → Prop := fun e w' => ∃ (A1 : Option Addr) (c1 : Nat) (A2 : Option Addr) (c2 : Nat) (A3 : Option Addr) (c3 : Nat) (A4 : Option Addr) (c4 : Nat) (A5 : Option Addr) (c5 : Nat) (ps : List Int) (ns : List Node) (up : List Bool) (pl : List (List Pt)) (lic : List Pt), e = .returned (.agg #[.slice A1 ps.length c1, .slice A2 ns.length c2, .slice A3 up.length c3, .slice A4 pl.length c4, .slice A5 lic.length c5]) ∧ RoomU w' (w.heap.size + 1) ps ns up (pl, lic) A1 c1 A2 c2 A3 c3 A4 c4 A5 c5 ∧ (ps.length ≤ 19 ∧ ns.length ≤ 10 ∧ up.length ≤ 12 ∧ pl.length ≤ 10) ∧ (∀ p ∈ pl, p.length ≤ 14) ∧ lic.length ≤ 14 ∧ Turned g (g + 1) w w' ∧ Cur w' g
theorem roomA_ret {w u : World} {g : Nat} (hg : g < w.heap.size) {A1 : Option Addr} {c1 : Nat} {A2 : Option Addr} {c2 : Nat} {A3 : Option Addr} {c3 : Nat} {A4 : Option Addr} {c4 : Nat} {A5 : Option Addr} {c5 : Nat} {ps : List Int} {ns : List Node} {up : List Bool} {pl : List (List Pt)} {lic : List Pt} (h : RoomU u (w.heap.size + 1) ps ns up (pl, lic) A1 c1 A2 c2 A3 c3 A4 c4 A5 c5) (hs : ps.length ≤ 19 ∧ ns.length ≤ 10 ∧ up.length ≤ 12 ∧ pl.length ≤ 10) (hp : ∀ p ∈ pl, p.length ≤ 14) (hl : lic.length ≤ 14) (ht : Turned g (g + 1) w u) (hc : Cur u g) {a0 a1 a2 a3 a4 v : Value} (hv : v = .agg #[.slice A1 ps.length c1, .slice A2 ns.length c2, .slice A3 up.length c3, .slice A4 pl.length c4, .slice A5 lic.length c5]) : RetRoomA w g (.returned v) (((((u.setCell ⟨w.heap.size, 0, none⟩ a0).setCell ⟨w.heap.size, 1, none⟩ a1).setCell ⟨w.heap.size, 2, none⟩ a2).setCell ⟨w.heap.size, 3, none⟩ a3).setCell ⟨w.heap.size, 4, none⟩ a4) :=
  ⟨A1, c1, A2, c2, A3, c3, A4, c4, A5, c5, ps, ns, up, pl, lic, by rw [hv], ((((h.low (Nat.lt_succ_self _)).low (Nat.lt_succ_self _)).low (Nat.lt_succ_self _)).low (Nat.lt_succ_self _)).low (Nat.lt_succ_self _), hs, hp, hl, turned_own (turned_own (turned_own (turned_own (turned_own ht (Nat.le_refl _)) (Nat.le_refl _)) (Nat.le_refl _)) (Nat.le_refl _)) (Nat.le_refl _), ((((hc.put hg).put hg).put hg).put hg).put hg⟩
set_option maxHeartbeats 8000000 in
set_option maxRecDepth 10000 in
theorem l04AnyRoom_c (g : Nat) (w : World) (hc : Cur w g) : Calls Tryz.prog 53 #[.pointer (some ⟨g, 0, none⟩)] w (RetRoomA w g) := by
  obtain ⟨i2, hi2, hK0, hK1, hK2⟩ := info_parts CBool.info
  have hgw := hc.lt
  have HB := Lib.hid (fun (n : Int) (hn : In64 n) (u : World) (hu : Cur u g) => l01Below_c g n u hu hn)
  have HTA := Lib.hid (fun (u : World) (hu : Cur u g) => l02Any_c g u hu)
  have HPA := Lib.hid (fun (u : World) (hu : Cur u g) => l03Any_c g u hu)
  have H9 : Hid (∀ n : Int, -1000000 ≤ n → n ≤ 1000000 → In64 n) := Lib.hid (fun n h1 h2 => by unfold In64; omega)
  have HDR := Lib.hid (l04Room_c g _ (hc.ext ((Ext.refl w).alloc (.cells #[.slice none 0 0, .slice none 0 0, .slice none 0 0, .slice none 0 0, .slice none 0 0] 44))))
  clear hc
  go_enter Tryz.func53, Tryz.ntmps53
  go_wp2_with fail
  refine HDR.out.mono ?_
  rintro e w1 ⟨A1, c1, A2, c2, A3, c3, A4, c4, A5, c5, ps, ns, up, pl, lic, rfl, hru, ⟨hps, hns, hup, hpl⟩, hpp, hlc, ht1, hc1⟩
  have HT1 := Lib.hid ((Ext.turned ((Ext.refl w).alloc (.cells #[.slice none 0 0, .slice none 0 0, .slice none 0 0, .slice none 0 0, .slice none 0 0] 44)) g (g + 1)).trans ht1)
  have HZ1 := Lib.hid (ownsT (owns_base (gbox w [.slice none 0 0, .slice none 0 0, .slice none 0 0, .slice none 0 0, .slice none 0 0] 44 5 rfl) (show g + 1 ≤ w.heap.size by omega)) ht1 (Nat.le_refl _))
  have hs1 : w.heap.size + 1 ≤ w1.heap.size := by have := ht1.le; simp at this; omega
  have HU1 := Lib.hid (hru.base (lo' := w.heap.size + 1) (by simp))
  have HPP := Lib.hid hpp
  have EX : Ext w1 (w1.alloc (.cells #[.slice A1 ps.length c1, .slice A2 ns.length c2, .slice A3 up.length c3, .slice A4 pl.length c4, .slice A5 lic.length c5] 44)) := (Ext.refl _).alloc _
  have HC1 := Lib.hid (hc1.ext EX)
  clear hru hpp ht1 hc1 HDR
  go_wp2_with fail
  refine (HB.out 16 (H9.out _ (by omega) (by omega)) _ HC1.out).mono ?_
  rintro e w2 ⟨v2, rfl, ⟨hv2a, hv2b⟩, ht2, hc2⟩
  have HT2 := Lib.hid ((HT1.out.ext EX).trans ht2)
  have HC2 := Lib.hid hc2
  have HU2 := Lib.hid ((HU1.out.ext EX).turn ht2 (by omega))
  have HX2 := Lib.hid (ownsT (owns_base (gbox w1 [.slice A1 ps.length c1, .slice A2 ns.length c2, .slice A3 up.length c3, .slice A4 pl.length c4, .slice A5 lic.length c5] 44 5 rfl) (show g + 1 ≤ w1.heap.size by omega)) ht2 (Nat.le_refl _))
  have HZ2 := Lib.hid (ownsT (owns_ext HZ1.out EX) ht2 (Nat.le_refl _))
  obtain ⟨bx, hbx⟩ : ∃ bx, bx = w1.heap.size := ⟨_, rfl⟩
  rw [← hbx] at HX2 ⊢
  have hbw : w.heap.size + 1 ≤ bx := by omega
  have n1 : ¬ bx = w.heap.size := by omega
  have n2 : ¬ w.heap.size = bx := by omega
  have hbg : g < bx := by omega
  have hw2 : w.heap.size + 1 ≤ w2.heap.size := by have := (HX2.out.lt bx rfl).2; omega
  clear ht2 hc2 EX HT1 HZ1 HU1 HC1 hbx hs1
  by_cases hk0 : v2 = 0
  · subst hk0
    go_wp2_with fail
    refine (HTA.out _ HC2.out).mono ?_
    rintro e w3 ⟨B1, d1, qs, B2, d2, ms, rfl, ho1, hk1, ho2, hk2, hqs, hms, ht3, hc3⟩
    have HT3 := Lib.hid (HT2.out.trans ht3)
    have HX3 := Lib.hid (ownsT HX2.out ht3 (Nat.le_refl _))
    have HZ3 := Lib.hid (ownsT HZ2.out ht3 (Nat.le_refl _))
    have HU3 := Lib.hid ((HU2.out.turn ht3 (by omega)).topo (owns_base ho1 (by omega)) (owns_base ho2 (by omega)) hk1 hk2)
    have HX4 := Lib.hid (HX3.out.stored 0 (.slice B1 qs.length d1)).1
    have HU5 := Lib.hid ((HU3.out.far HX3.out (p := 0) (u := .slice B1 qs.length d1)).far HX4.out (p := 1) (u := .slice B2 ms.length d2))
    have HT5 := Lib.hid (turned_own (base := bx) (j := 1) (u := .slice B2 ms.length d2) (turned_own (base := bx) (j := 0) (u := .slice B1 qs.length d1) HT3.out (by omega)) (by omega))
    have HC5 := Lib.hid ((hc3.put (b := bx) (j := 0) (u := .slice B1 qs.length d1) hbg).put (b := bx) (j := 1) (u := .slice B2 ms.length d2) hbg)
    obtain ⟨x0, x1, x2, x3, x4, xf0, xf1, xf2, xf3, xf4, xl⟩ := gcells5 HX3.out
    obtain ⟨z0, z1, z2, z3, z4, zf0, zf1, zf2, zf3, zf4, zl⟩ := gcells5 HZ3.out
    clear ho1 hk1 ho2 hk2 ht3 hc3 HT3 HX3 HZ3 HU3 HX4 HX2 HZ2 HU2 HT2 HC2
    go_wp2
    exact bodyPost_ret (v := .agg #[.slice B1 qs.length d1, .slice B2 ms.length d2, .slice A3 up.length c3, .slice A4 pl.length c4, .slice A5 lic.length c5]) (by simp [results, Tryz.results53, go_sem, *]) rfl (roomA_ret hgw HU5.out ⟨hqs, hms, by omega, hpl⟩ (fun p hp => by have := HPP.out p hp; omega) (by omega) HT5.out HC5.out rfl)
  by_cases hk1 : v2 = 1
  · subst hk1
    go_wp2_with fail
    refine (HPA.out _ HC2.out).mono ?_
    rintro e w3 ⟨B5, d5, lic2, rfl, ho1, hkk, hqs, ht3, hc3⟩
    have HT3 := Lib.hid (HT2.out.trans ht3)
    have HX3 := Lib.hid (ownsT HX2.out ht3 (Nat.le_refl _))
    have HZ3 := Lib.hid (ownsT HZ2.out ht3 (Nat.le_refl _))
    have HU3 := Lib.hid ((HU2.out.turn ht3 (by omega)).lics (owns_base ho1 hw2) hkk)
    have HU5 := Lib.hid (HU3.out.far HX3.out (p := 4) (u := .slice B5 lic2.length d5))
    have HT5 := Lib.hid (turned_own (base := bx) (j := 4) (u := .slice B5 lic2.length d5) HT3.out (by omega))
    have HC5 := Lib.hid (hc3.put (b := bx) (j := 4) (u := .slice B5 lic2.length d5) hbg)
    obtain ⟨x0, x1, x2, x3, x4, xf0, xf1, xf2, xf3, xf4, xl⟩ := gcells5 HX3.out
    obtain ⟨z0, z1, z2, z3, z4, zf0, zf1, zf2, zf3, zf4, zl⟩ := gcells5 HZ3.out
    clear ho1 hkk ht3 hc3 HT3 HX3 HZ3 HU3 HX2 HZ2 HU2 HT2 HC2
    go_wp2
    exact bodyPost_ret (v := .agg #[.slice A1 ps.length c1, .slice A2 ns.length c2, .slice A3 up.length c3, .slice A4 pl.length c4, .slice B5 lic2.length d5]) (by simp [results, Tryz.results53, go_sem, *]) rfl (roomA_ret hgw HU5.out ⟨by omega, hns, by omega, hpl⟩ (fun p hp => by have := HPP.out p hp; omega) hqs HT5.out HC5.out rfl)
  by_cases hk2 : v2 = 2
  · subst hk2
    by_cases hn0 : pl.length = 0
    · obtain ⟨x0, x1, x2, x3, x4, xf0, xf1, xf2, xf3, xf4, xl⟩ := gcells5 HX2.out
      obtain ⟨z0, z1, z2, z3, z4, zf0, zf1, zf2, zf3, zf4, zl⟩ := gcells5 HZ2.out
      have hd0 : decide (0 < pl.length) = false := by rw [decide_eq_false_iff_not]; omega
      have hd1 : decide ((0 : Int) < (pl.length : Int)) = false := by rw [decide_eq_false_iff_not]; omega
      clear hn0
      go_wp2
      exact bodyPost_ret (v := .agg #[.slice A1 ps.length c1, .slice A2 ns.length c2, .slice A3 up.length c3, .slice A4 pl.length c4, .slice A5 lic.length c5]) (by simp [results, Tryz.results53, go_sem, *]) rfl (roomA_ret hgw HU2.out ⟨by omega, hns, by omega, hpl⟩ (fun p hp => by have := HPP.out p hp; omega) (by omega) HT2.out HC2.out rfl)
    · have hd0 : decide (0 < pl.length) = true := by rw [decide_eq_true_iff]; omega
      have hd1 : decide ((0 : Int) < (pl.length : Int)) = true := by rw [decide_eq_true_iff]; omega
      have hn1 : 0 < pl.length := by omega
      clear hn0
      obtain ⟨bp, hA4, hbp1, hbp2⟩ := HU2.out.1.pro.form hn1
      subst hA4
      obtain ⟨_, L, hL, _⟩ := HU2.out.1.pro
      have m1 : ¬ bp = bx := fun e => by subst e; exact g_apart hL HX2.out (by decide) _ rfl rfl
      have m2 : ¬ bx = bp := fun e => m1 e.symm
      have m3 : ¬ bp = w.heap.size := by omega
      have m4 : ¬ w.heap.size = bp := by omega
      clear hL
      obtain ⟨x0, x1, x2, x3, x4, xf0, xf1, xf2, xf3, xf4, xl⟩ := gcells5 HX2.out
      go_upto_region 8 with fail
      go_region_held3 (fun u => u.cell? ⟨bx, 3, none⟩ = some (.slice (some ⟨bp, 0, none⟩) pl.length c4)) ((first | exact y4 | exact x3 | exact Ext.cell ((Ext.refl _).drew) x3 | (repeat (first | exact y4 | (rw [World.cell?_setCell_other] <;> try (intro e; injection e with e; omega)))))) ((go_at_call 91; (with_reducible refine (HPA.out _ (HC2.out.ext ((Ext.refl _).drew))).mono ?_); rintro e w4 ⟨B5, d5, q4, rfl, ho1, hkk, hqs, ht4, hc4⟩; have HQ4 := Lib.hid ((Ext.turned (w := w2) ((Ext.refl _).drew) g (g + 1)).trans ht4); have HC4 := Lib.hid hc4; have y4 := cellT HQ4.out x3 (by omega); have HO4 := Lib.hid (owns_base ho1 (show w.heap.size + 1 ≤ _ from hw2)); have HKK := Lib.hid hkk; have HU4 := Lib.hid (HU2.out.turn HQ4.out (by omega)); obtain ⟨p0, hp0⟩ : ∃ p0, pl[0]? = some p0 := ⟨_, List.getElem?_eq_getElem hn1⟩; obtain ⟨Aq, cq, e0, _, f0, lq, _⟩ := HU4.out.1.pro.get hp0; clear ht4 hc4 ho1 hkk))
      all_goals
        have HU5 := Lib.hid (HU4.out.setp hn1 HO4.out HKK.out)
        have HT5 := Lib.hid (turned_own (base := bp) (j := 0) (u := .slice B5 q4.length d5) (HT2.out.trans HQ4.out) (by omega))
        have HC5 := Lib.hid (HC4.out.put (b := bp) (j := 0) (u := .slice B5 q4.length d5) (by omega))
        have HPW := Lib.hid (show ∀ p ∈ pl.set 0 q4, p.length ≤ 14 from fun p hp => by
          rcases List.mem_or_eq_of_mem_set hp with hp | rfl
          · have := HPP.out p hp; omega
          · exact hqs)
        obtain ⟨xx0, xx1, xx2, xx3, xx4, xxf0, xxf1, xxf2, xxf3, xxf4, xxl⟩ := gcells5 (ownsT HX2.out HQ4.out (Nat.le_refl _))
        obtain ⟨z0, z1, z2, z3, z4, zf0, zf1, zf2, zf3, zf4, zl⟩ := gcells5 (ownsT HZ2.out HQ4.out (Nat.le_refl _))
        clear x0 x1 x2 x3 x4 xf0 xf1 xf2 xf3 xf4 xl y4 HX2 HZ2 HU2 HT2 HC2 HQ4 HC4 HU4 HO4 hp0
        go_wp2
        exact bodyPost_ret (v := .agg #[.slice A1 ps.length c1, .slice A2 ns.length c2, .slice A3 up.length c3, .slice (some ⟨bp, 0, none⟩) pl.length c4, .slice A5 lic.length c5]) (by simp [results, Tryz.results53, go_sem, *]) rfl (roomA_ret hgw HU5.out ⟨by omega, hns, by omega, by rw [List.length_set]; exact hpl⟩ HPW.out (by omega) HT5.out HC5.out (by rw [List.length_set]))
  by_cases hk3 : v2 = 3
  · subst hk3
    obtain ⟨x0, x1, x2, x3, x4, xf0, xf1, xf2, xf3, xf4, xl⟩ := gcells5 HX2.out
    generalize hun : up.length = un at *
    have HUN := Lib.hid hun
    have HU2b := Lib.hid (show w2.ownsRow (w.heap.size + 1) 4 1 (.slice A3 un c3) un (up.flatMap encB) from by have h := HU2.out.2; rw [hun] at h; exact h)
    clear hun
    go_wp2_with (at_builtin; go_must (refine wpList_append_r (enc := encB) (ok := fun _ => True) (.tmp 35) (.tmp 36) _ (w.heap.size + 1) 4 i2 _ 1 1 (.slice A3 un c3) un _ (some ⟨w2.heap.size, 0, none⟩) 1 1 [true] rfl rfl Tryz.underlying26 hi2 hK0 hK1 hK2 rfl (by omega) rfl (owns_ext HU2b.out ((Ext.refl _).alloc _)) rfl (by exact sl_one_at (enc := encB) _ _ rfl true 4 rfl trivial) (fun _ => rfl) encB_one (by unfold maxLen; omega) (by omega) (by simp; omega) ?_); intro A9 c9 w5 hr5; (have HR5 := Lib.hid hr5); (have HX5 := Lib.hid (hr5.other (owns_ext HX2.out ((Ext.refl w2).alloc (.cells (encB true).toArray 4))) (g_apart HX2.out HU2b.out (by decide)))); (have HZ5 := Lib.hid (hr5.other (owns_ext HZ2.out ((Ext.refl w2).alloc (.cells (encB true).toArray 4))) (g_apart HZ2.out HU2b.out (by decide)))); (obtain ⟨xx0, xx1, xx2, xx3, xx4, xxf0, xxf1, xxf2, xxf3, xxf4, xxl⟩ := gcells5 HX5.out); (obtain ⟨z0, z1, z2, z3, z4, zf0, zf1, zf2, zf3, zf4, zl⟩ := gcells5 HZ5.out); clear hr5)
    have HU5 := Lib.hid (((HU2.out.ext ((Ext.refl w2).alloc (.cells (encB true).toArray 4))).pushU HUN.out HR5.out).far HX5.out (p := 2) (u := .slice A9 (un + 1) c9))
    have HT5 := Lib.hid (turned_own (base := bx) (j := 2) (u := .slice A9 (un + 1) c9) (turned_low (HT2.out.ext ((Ext.refl w2).alloc (.cells (encB true).toArray 4))) (HR5.out.turned (lo := w.heap.size + 1) (fun q hq => (HU2b.out.lt q hq).1)) (by omega)) (by omega))
    have HC5 := Lib.hid (((HC2.out.ext ((Ext.refl w2).alloc (.cells (encB true).toArray 4))).keep (HR5.out.turned (lo := w.heap.size + 1) (fun q hq => (HU2b.out.lt q hq).1)) (by omega)).put (b := bx) (j := 2) (u := .slice A9 (un + 1) c9) hbg)
    clear HR5 HX5 HZ5 HU2 HU2b HX2 HZ2 HT2 HC2 x0 x1 x2 x3 x4 xf0 xf1 xf2 xf3 xf4 xl
    go_wp2
    exact bodyPost_ret (v := .agg #[.slice A1 ps.length c1, .slice A2 ns.length c2, .slice A9 (un + 1) c9, .slice A4 pl.length c4, .slice A5 lic.length c5]) (by simp [results, Tryz.results53, go_sem, *]) rfl (roomA_ret hgw HU5.out ⟨by omega, hns, by rw [List.length_append, HUN.out]; simp; omega, hpl⟩ (fun p hp => by have := HPP.out p hp; omega) (by omega) HT5.out HC5.out (by rw [List.length_append, HUN.out]; rfl))
  · obtain ⟨x0, x1, x2, x3, x4, xf0, xf1, xf2, xf3, xf4, xl⟩ := gcells5 HX2.out
    obtain ⟨z0, z1, z2, z3, z4, zf0, zf1, zf2, zf3, zf4, zl⟩ := gcells5 HZ2.out
    go_wp2
    exact bodyPost_ret (v := .agg #[.slice A1 ps.length c1, .slice A2 ns.length c2, .slice A3 up.length c3, .slice A4 pl.length c4, .slice A5 lic.length c5]) (by simp [results, Tryz.results53, go_sem, *]) rfl (roomA_ret hgw HU2.out ⟨by omega, hns, by omega, hpl⟩ (fun p hp => by have := HPP.out p hp; omega) (by omega) HT2.out HC2.out rfl)
end Go.Proofs.YtgmlcohffdeplaaGreat
/-! DRest -/
namespace Go.Proofs.YtgmlcohffdeplaaGreat
open Go.RowKit
set_option linter.unusedVariables false
def RetDrawR (w : World) : Ending → World → Prop := fun e w' => ∃ (A1 : Option Addr) (c1 : Nat) (A2 : Option Addr) (c2 : Nat) (A3 : Option Addr) (c3 : Nat) (A4 : Option Addr) (c4 : Nat) (A5 : Option Addr) (c5 : Nat) (ps : List Int) (ns : List Node) (up : List Bool) (pl : List (List Pt)) (lic : List Pt) (D : Option Addr) (fc : Nat) (xs : List Window), e = .returned (.tuple #[.agg #[.slice A1 ps.length c1, .slice A2 ns.length c2, .slice A3 up.length c3, .slice A4 pl.length c4, .slice A5 lic.length c5], .slice D xs.length fc]) ∧ RoomAt w' ps ns up (pl, lic) (.agg #[.slice A1 ps.length c1, .slice A2 ns.length c2, .slice A3 up.length c3, .slice A4 pl.length c4, .slice A5 lic.length c5]) ∧ SlAt RWindow 3 w' D xs.length xs ∧ (ps.length ≤ 19 ∧ ns.length ≤ 10 ∧ up.length ≤ 12 ∧ pl.length ≤ 10) ∧ (∀ p ∈ pl, p.length ≤ 14) ∧ lic.length ≤ 14 ∧ xs.length ≤ 3 ∧ (∀ x ∈ xs, x.Nodes.length ≤ 12) ∧ Ext w w'
set_option maxHeartbeats 8000000 in
set_option maxRecDepth 10000 in
theorem DrawRest_c (bs : List Int) (A : Option Addr) (n c : Nat) (w : World) (hs : SlAt RU8 1 w A n bs) (hn : n ≤ 1048576) : Calls Tryz.prog 16 #[.slice A n c] w (RetDrawR w) := by
  have HN := Lib.hid (fun (u : World) (e : Ext w u) => l01New_c bs A n c u (hs.ext RU8.mono e) hn)
  clear hs
  go_enter Tryz.func16, Tryz.ntmps16
  go_wp2_with fail
  refine (HN.out _ ((Ext.refl _).alloc _)).mono ?_
  rintro e w0 ⟨g, rfl, hg, hb0, hc0⟩
  have hg1 : g < w0.heap.size := hc0.lt
  have hg0 : w.heap.size + 1 ≤ g := by simpa using hg
  have HE0 := Lib.hid (((Ext.refl w).alloc (.cells #[.slice none 0 0, .slice none 0 0, .slice none 0 0, .slice none 0 0, .slice none 0 0] 44)).trans hb0)
  have HZ0 := Lib.hid (owns_ext (gbox w [.slice none 0 0, .slice none 0 0, .slice none 0 0, .slice none 0 0, .slice none 0 0] 44 5 rfl) hb0)
  clear hb0 hg
  go_wp2_with fail
  refine (l04AnyRoom_c g _ hc0).mono ?_
  rintro e w1 ⟨A1, c1, A2, c2, A3, c3, A4, c4, A5, c5, ps, ns, up, pl, lic, rfl, hru, ⟨hps, hns, hup, hpl⟩, hpp, hlc, ht1, hc1⟩
  have EX : Ext w1 (w1.alloc (.cells #[.slice A1 ps.length c1, .slice A2 ns.length c2, .slice A3 up.length c3, .slice A4 pl.length c4, .slice A5 lic.length c5] 44)) := (Ext.refl _).alloc _
  have HU2 := Lib.hid (hru.ext EX)
  have HT2 := Lib.hid (ht1.ext EX)
  have HC2 := Lib.hid (hc1.ext EX)
  have HX2 := Lib.hid (owns_base (gbox w1 [.slice A1 ps.length c1, .slice A2 ns.length c2, .slice A3 up.length c3, .slice A4 pl.length c4, .slice A5 lic.length c5] 44 5 rfl) (show w0.heap.size ≤ w1.heap.size from ht1.le))
  have hbx1 : w0.heap.size ≤ w1.heap.size := ht1.le
  have HZ2 := Lib.hid (show (w1.alloc (.cells #[.slice A1 ps.length c1, .slice A2 ns.length c2, .slice A3 up.length c3, .slice A4 pl.length c4, .slice A5 lic.length c5] 44)).ownsRow w.heap.size 44 5 (.slice (some ⟨w.heap.size, 0, none⟩) 1 1) 1 [.slice none 0 0, .slice none 0 0, .slice none 0 0, .slice none 0 0, .slice none 0 0] from owns_ext (g_off HZ0.out ht1 (fun q hq => .inl (by have h := Option.some.inj (show some w.heap.size = some q from hq); omega))) EX)
  have HPP := Lib.hid hpp
  clear hru ht1 hc1 hpp
  obtain ⟨bx, hbx⟩ : ∃ bx, bx = w1.heap.size := ⟨_, rfl⟩
  obtain ⟨W, hW⟩ : ∃ u, u = (w1.alloc (.cells #[.slice A1 ps.length c1, .slice A2 ns.length c2, .slice A3 up.length c3, .slice A4 pl.length c4, .slice A5 lic.length c5] 44)) := ⟨_, rfl⟩
  go_upto_region 3 with fail
  rw [← hW] at HU2 HT2 HC2 HX2 HZ2 ⊢
  rw [← hbx] at HX2 hbx1 ⊢
  clear hW hbx EX HZ0
  have n1 : ¬ bx = w.heap.size := by omega
  have n2 : ¬ w.heap.size = bx := by omega
  have HWA := Lib.hid (fun (u : World) (hu : Cur u g) => l15Any_c g u hu A1 ps.length c1 A2 ns.length c2 hns)
  obtain ⟨x0, x1, x2, x3, x4, xf0, xf1, xf2, xf3, xf4, xl⟩ := gcells5 HX2.out
  obtain ⟨z0, z1, z2, z3, z4, zf0, zf1, zf2, zf3, zf4, zl⟩ := gcells5 HZ2.out
  go_region_law (go_simp; go_at_call 54; (with_reducible refine (HWA.out _ (HC2.out.ext ((Ext.refl _).drew))).mono ?_); rintro e w3 ⟨D, fc, f, xs, rfl, hr3, hm3, hl3, hle3, ht3, hc3⟩; have HQ3 := Lib.hid ((Ext.turned (w := W) ((Ext.refl _).drew) g (g + 1)).trans ht3); have HX3 := Lib.hid (ownsT HX2.out HQ3.out (by omega)); have HZ3 := Lib.hid (g_off HZ2.out HQ3.out (fun q hq => .inl (by have h := Option.some.inj (show some w.heap.size = some q from hq); omega))); obtain ⟨y0, y1, y2, y3, y4, yf0, yf1, yf2, yf3, yf4, yl⟩ := gcells5 HX3.out; obtain ⟨v0, v1, v2, v3, v4, vf0, vf1, vf2, vf3, vf4, vl⟩ := gcells5 HZ3.out; have HN3 := Lib.hid hr3; have HM3 := Lib.hid hm3; have HLE := Lib.hid hle3; clear hr3 hm3 hle3 ht3 hc3)
  all_goals
    have hW3 : w0.heap.size + 1 ≤ W.heap.size := by omega
    have HU3 := Lib.hid (HU2.out.turn HQ3.out (by omega))
    have HU4 := Lib.hid (((((HU3.out.low (b := w.heap.size) (p := 0) (u := .slice A1 ps.length c1) (by omega)).low (b := w.heap.size) (p := 1) (u := .slice A2 ns.length c2) (by omega)).low (b := w.heap.size) (p := 2) (u := .slice A3 up.length c3) (by omega)).low (b := w.heap.size) (p := 3) (u := .slice A4 pl.length c4) (by omega)).low (b := w.heap.size) (p := 4) (u := .slice A5 lic.length c5) (by omega))
    have HN4 := Lib.hid (HN3.out.keep (NR.turned_put (p := 4) (u := .slice A5 lic.length c5) (NR.turned_put (p := 3) (u := .slice A4 pl.length c4) (NR.turned_put (p := 2) (u := .slice A3 up.length c3) (NR.turned_put (p := 1) (u := .slice A2 ns.length c2) (NR.turned_put (p := 0) (u := .slice A1 ps.length c1) (Turned.refl w.heap.size (w.heap.size + 1) w3) (Nat.le_refl _) (Nat.lt_succ_self _)) (Nat.le_refl _) (Nat.lt_succ_self _)) (Nat.le_refl _) (Nat.lt_succ_self _)) (Nat.le_refl _) (Nat.lt_succ_self _)) (Nat.le_refl _) (Nat.lt_succ_self _)) (.inr (by simp; omega)))
    have HXF := Lib.hid ((ext_turned HE0.out (HT2.out.trans HQ3.out) (by omega)).five (b := w.heap.size) (Nat.le_refl _) (.slice A1 ps.length c1) (.slice A2 ns.length c2) (.slice A3 up.length c3) (.slice A4 pl.length c4) (.slice A5 lic.length c5))
    clear HX3 HZ3 HQ3 HU3 HN3 HT2 HC2 HU2 HX2 HZ2 HE0
    go_wp2
    exact bodyPost_ret (v := .tuple #[.agg #[.slice A1 ps.length c1, .slice A2 ns.length c2, .slice A3 up.length c3, .slice A4 pl.length c4, .slice A5 lic.length c5], .slice D xs.length fc]) (by simp [results, Tryz.results16, go_sem, *]) rfl ⟨A1, c1, A2, c2, A3, c3, A4, c4, A5, c5, ps, ns, up, pl, lic, D, fc, xs, rfl, HU4.out.1.at_, HN4.out.sl rfl HM3.out, ⟨hps, hns, hup, hpl⟩, HPP.out, hlc, hl3, HLE.out, HXF.out⟩
end Go.Proofs.YtgmlcohffdeplaaGreat
