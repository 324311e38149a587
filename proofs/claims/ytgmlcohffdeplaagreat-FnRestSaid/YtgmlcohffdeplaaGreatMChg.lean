/- Merged by mergelean.py: SRoom1, SChg, STake. -/
import Derived.Test.YtgmlcohffdeplaaGreatRoom2
import Derived.Test.YtgmlcohffdeplaaGreatTopo2
import Derived.Test.YtgmlcohffdeplaaGreatMOver
/-! SRoom1 -/
namespace Go.Proofs.YtgmlcohffdeplaaGreat
open Go.RowKit
set_option linter.unusedVariables false
set_option maxHeartbeats 4000000 in
theorem sProfNew_c (v : Vec) (w : World) : Calls Tryz.prog 110 #[.agg #[.int .i64 v.A, .int .i64 v.B, .int .i64 v.C]] w (RetP w (if vecB v = true then some [⟨0, v⟩] else none)) := by
  have HVO := Lib.hid (fun u : World => sVecOk_c v u)
  have HOK := Lib.hid (fun (h : vecB v = true) => show Pt.ok ⟨0, v⟩ from pt_ok (t := 0) rfl h)
  rcases (Bool.eq_false_or_eq_true (vecB v)).symm with h1 | h1
  all_goals rw [h1] at HVO ⊢
  · clear h1 HOK
    go_enter Tryz.func110, Tryz.ntmps110
    go_wp2_with fail
    refine (HVO.out _).mono ?_
    rintro e w1 ⟨rfl, hb1⟩
    obtain ⟨hcr1, hfr1, hz1⟩ := hb1.rules
    (try simp at hz1)
    have hy1_w0 : w.heap.size < w1.heap.size := (by omega)
    have hy1_w1 : w.heap.size + 1 < w1.heap.size := (by omega)
    have q0 := (hb1).cell (cell_box_at (w.alloc (.cells #[.int .i64 v.A, .int .i64 v.B, .int .i64 v.C] 59)) (w.heap.size + 1) (by simp) [.slice none 0 0] 42 0 _ rfl)
    have qf0 := ((hb1).frozenEq (a := ⟨w.heap.size + 1, 0, none⟩) (by simp)).trans (frozen_box_at (w.alloc (.cells #[.int .i64 v.A, .int .i64 v.B, .int .i64 v.C] 59)) (w.heap.size + 1) (by simp) #[.slice none 0 0] 42 0)
    go_wp2
    exact bodyPost_ret (v := .tuple #[.agg #[.slice none 0 0], .bool false]) (by simp [results, Tryz.results110, go_sem, *]) rfl (retP_none rfl (by repeat (first | exact Ext.refl _ | assumption | apply Ext.alloc | apply Ext.drewN | apply Ext.drew | (refine Ext.setCell ?_ (by first | (simp; done) | (simp; omega) | omega) _) | (refine Ext.trans ?_ (by assumption)))))
  · have HK := Lib.hid (HOK.out h1)
    clear h1 HOK
    go_enter Tryz.func110, Tryz.ntmps110
    go_wp2_with fail
    refine (HVO.out _).mono ?_
    rintro e w1 ⟨rfl, hb1⟩
    obtain ⟨hcr1, hfr1, hz1⟩ := hb1.rules
    (try simp at hz1)
    have hy1_w0 : w.heap.size < w1.heap.size := (by omega)
    have hy1_w1 : w.heap.size + 1 < w1.heap.size := (by omega)
    have q0 := (hb1).cell (cell_box_at (w.alloc (.cells #[.int .i64 v.A, .int .i64 v.B, .int .i64 v.C] 59)) (w.heap.size + 1) (by simp) [.slice none 0 0] 42 0 _ rfl)
    have qf0 := ((hb1).frozenEq (a := ⟨w.heap.size + 1, 0, none⟩) (by simp)).trans (frozen_box_at (w.alloc (.cells #[.int .i64 v.A, .int .i64 v.B, .int .i64 v.C] 59)) (w.heap.size + 1) (by simp) #[.slice none 0 0] 42 0)
    go_wp2
    exact bodyPost_ret (v := .tuple #[.agg #[.slice (some ⟨w1.heap.size, 0, none⟩) 1 1], .bool true]) (by simp [results, Tryz.results110, go_sem, *]) rfl ⟨_, _, [⟨0, v⟩], rfl, .inl rfl, box_after w1 _ _ (Pt.enc ⟨0, v⟩) 107 4 rfl (by omega), fun y hy => by rw [List.mem_singleton.1 hy]; exact HK.out, (by repeat (first | exact Ext.refl _ | assumption | apply Ext.alloc | apply Ext.drewN | apply Ext.drew | (refine Ext.setCell ?_ (by first | (simp; done) | (simp; omega) | omega) _) | (refine Ext.trans ?_ (by assumption))))⟩
set_option maxRecDepth 8000 in
theorem l04Prof_c (xs : List Pt) (A : Option Addr) (n c : Nat) (w : World) (h : SlAt RPt 4 w A n xs) (hl : n ≤ 1048576) : Calls Tryz.prog 67 #[.agg #[.slice A n c]] w (RetProf w xs) := by
  obtain ⟨i0, hi, hI0, hI1, hI2⟩ := info_parts CPt.info
  obtain rfl := h.len
  have HS := Lib.hid (fun (u : World) (e : Ext w u) => h.ext (Flat.mono Pt.enc Pt.ok) e)
  clear h
  have HE0 := Lib.hid (show (((w.alloc (.cells #[.slice A xs.length c] 42)).alloc (.cells #[.slice none 0 0] 42)).alloc (.cells #[] 107)).ownsRow (w.heap.size + 1 + 1) 107 4 (.slice (some ⟨w.heap.size + 1 + 1, 0, none⟩) 0 0) 0 [] from by
    have h := owns_empty ((w.alloc (.cells #[.slice A xs.length c] 42)).alloc (.cells #[.slice none 0 0] 42)) 107 4
    rw [show ((w.alloc (.cells #[.slice A xs.length c] 42)).alloc (.cells #[.slice none 0 0] 42)).heap.size = w.heap.size + 1 + 1 by simp] at h
    exact h)
  go_enter Tryz.func67, Tryz.ntmps67
  go_wp2_with (at_builtin; go_must (refine wpList_append_r (enc := Pt.enc) (ok := Pt.ok) (.tmp 3) (.tmp 5) _ (w.heap.size + 1 + 1) 107 i0 _ 4 32 (.slice (some ⟨w.heap.size + 1 + 1, 0, none⟩) 0 0) 0 [] A xs.length c xs rfl rfl Tryz.underlying40 hi hI0 hI1 hI2 rfl (by omega) rfl HE0.out rfl (HS.out _ ((((Ext.refl w).alloc _).alloc _).alloc _)) Pt.size pt_one (by unfold maxLen; omega) (by omega) (by simp) ?_); intro A1 c1 w1 hr1; have HO := Lib.hid hr1.row; have hb1 : Ext ((w.alloc (.cells #[.slice A xs.length c] 42)).alloc (.cells #[.slice none 0 0] 42)) w1 := ext_turned ((Ext.refl _).alloc _) (hr1.turned (lo := w.heap.size + 1 + 1) (fun q hq => by have h2 : w.heap.size + 1 + 1 = q := Option.some.inj hq; omega)) (by simp); have q0 := hb1.cell (cell_box_at (w.alloc (.cells #[.slice A xs.length c] 42)) (w.heap.size + 1) (by simp) [.slice none 0 0] 42 0 _ rfl); have qf0 := (hb1.frozenEq (a := ⟨w.heap.size + 1, 0, none⟩) (by simp)).trans (frozen_box_at (w.alloc (.cells #[.slice A xs.length c] 42)) (w.heap.size + 1) (by simp) #[.slice none 0 0] 42 0); have hq := lt_of_cell q0; clear hr1)
  simp only [Nat.zero_add, List.nil_append] at HO ⊢
  have hx1 : Ext w w1 := (((Ext.refl w).alloc _).alloc _).trans hb1
  clear hb1
  go_wp2
  exact bodyPost_ret (v := .agg #[.slice A1 xs.length c1]) (by simp [results, Tryz.results67, go_sem, *]) rfl ⟨A1, c1, rfl, owns_base (own_set HO.out (by omega)) (by omega), hx1.setCell (by simp) _⟩
set_option maxHeartbeats 8000000 in
set_option maxRecDepth 8000 in
theorem sRoomOk_c (ps : List Int) (ns : List Node) (up : List Bool) (r : List (List Pt) × List Pt) (v : Value) (w : World) (h : RoomAt w ps ns up r v) (ht : topoB ps ns = true) (hu : up.length = ns.length) (hr : roomOkM ns.length r) : Calls Tryz.prog 25 #[v] w (Ret w (.bool true)) := by
  obtain ⟨A1, c1, A2, c2, A3, c3, A4, c4, A5, c5, rfl, h1, h2, h3, h4, h5⟩ := h
  obtain ⟨hr1, hr2, hr3⟩ := hr
  obtain ⟨⟨_, hp1⟩, hn1, _⟩ := topo_parts ht
  have hl5 := (profB_parts hr3).2.1
  have HT := Lib.hid (fun (u : World) (e : Ext w u) => sTopoOk_c ps ns A1 ps.length c1 A2 ns.length c2 u (h1.ext (Flat.mono _ _) e) (by unfold maxLen; omega) (h2.ext (Flat.mono _ _) e) (by unfold maxLen; omega))
  rw [ht] at HT
  have HL := Lib.hid (fun (u : World) (e : Ext w u) => sProfOk_c r.2 A5 r.2.length c5 u (h5.ext (Flat.mono _ _) e) (by unfold maxLen; omega))
  rw [hr3] at HL
  have HP := Lib.hid (fun (p : List Pt) (hp : p ∈ r.1) (A : Option Addr) (c : Nat) (u : World) (hs : SlAt RPt 4 u A p.length p) => show Calls Tryz.prog 64 #[.agg #[.slice A p.length c]] u (Ret u (.bool true)) from by
    have := sProfOk_c p A p.length c u hs (by have := (profB_parts (hr2 p hp)).2.1; unfold maxLen; omega)
    rw [hr2 p hp] at this; exact this)
  have H4 := Lib.hid (fun (u : World) (e : Ext w u) => h4.ext RPf.mono e)
  clear h1 h2 h3 h4 h5 ht hr2 hr3
  rw [hr1] at H4
  rw [hu, hr1]
  clear hu hr1
  generalize ns.length = m at *
  generalize ps.length = n at *
  generalize r.2.length = q at *
  go_enter Tryz.func25, Tryz.ntmps25
  go_wp2_with fail
  refine (HT.out _ (by repeat (first | exact Ext.refl _ | assumption | apply Ext.alloc | apply Ext.drewN | apply Ext.drew | (refine Ext.setCell ?_ (by first | (simp; done) | (simp; omega) | omega) _) | (refine Ext.trans ?_ (by assumption))))).mono ?_
  rintro e w1 ⟨rfl, hb1⟩
  obtain ⟨hcr1, hfr1, hz1⟩ := hb1.rules
  (try simp at hz1)
  have hy1_w0 : w.heap.size < w1.heap.size := (by omega)
  go_wp2_with fail
  refine (HL.out _ (((Ext.refl w).alloc _).trans hb1)).mono ?_
  rintro e w2 ⟨rfl, hb2⟩
  obtain ⟨hcr2, hfr2, hz2⟩ := hb2.rules
  (try simp at hz2)
  have hy2_w0 : w.heap.size < w2.heap.size := (by omega)
  have b0 := (hb1.trans hb2).cell (cell_box_at w (w.heap.size) (by simp) [.slice A1 n c1, .slice A2 m c2, .slice A3 m c3, .slice A4 m c4, .slice A5 q c5] 44 0 _ rfl)
  have b1 := (hb1.trans hb2).cell (cell_box_at w (w.heap.size) (by simp) [.slice A1 n c1, .slice A2 m c2, .slice A3 m c3, .slice A4 m c4, .slice A5 q c5] 44 1 _ rfl)
  have b2 := (hb1.trans hb2).cell (cell_box_at w (w.heap.size) (by simp) [.slice A1 n c1, .slice A2 m c2, .slice A3 m c3, .slice A4 m c4, .slice A5 q c5] 44 2 _ rfl)
  have b3 := (hb1.trans hb2).cell (cell_box_at w (w.heap.size) (by simp) [.slice A1 n c1, .slice A2 m c2, .slice A3 m c3, .slice A4 m c4, .slice A5 q c5] 44 3 _ rfl)
  have b4 := (hb1.trans hb2).cell (cell_box_at w (w.heap.size) (by simp) [.slice A1 n c1, .slice A2 m c2, .slice A3 m c3, .slice A4 m c4, .slice A5 q c5] 44 4 _ rfl)
  have bf0 := ((hb1.trans hb2).frozenEq (a := ⟨w.heap.size, 0, none⟩) (by simp)).trans (frozen_box_at w (w.heap.size) (by simp) #[.slice A1 n c1, .slice A2 m c2, .slice A3 m c3, .slice A4 m c4, .slice A5 q c5] 44 0)
  have bf1 := ((hb1.trans hb2).frozenEq (a := ⟨w.heap.size, 1, none⟩) (by simp)).trans (frozen_box_at w (w.heap.size) (by simp) #[.slice A1 n c1, .slice A2 m c2, .slice A3 m c3, .slice A4 m c4, .slice A5 q c5] 44 1)
  have bf2 := ((hb1.trans hb2).frozenEq (a := ⟨w.heap.size, 2, none⟩) (by simp)).trans (frozen_box_at w (w.heap.size) (by simp) #[.slice A1 n c1, .slice A2 m c2, .slice A3 m c3, .slice A4 m c4, .slice A5 q c5] 44 2)
  have bf3 := ((hb1.trans hb2).frozenEq (a := ⟨w.heap.size, 3, none⟩) (by simp)).trans (frozen_box_at w (w.heap.size) (by simp) #[.slice A1 n c1, .slice A2 m c2, .slice A3 m c3, .slice A4 m c4, .slice A5 q c5] 44 3)
  have bf4 := ((hb1.trans hb2).frozenEq (a := ⟨w.heap.size, 4, none⟩) (by simp)).trans (frozen_box_at w (w.heap.size) (by simp) #[.slice A1 n c1, .slice A2 m c2, .slice A3 m c3, .slice A4 m c4, .slice A5 q c5] 44 4)
  go_wp2
  go_loopw [38] (fun i wr => ∃ k : Nat, k ≤ m ∧ i = .int .i64 k ∧ Ext (w.alloc (.cells #[.slice A1 n c1, .slice A2 m c2, .slice A3 m c3, .slice A4 m c4, .slice A5 q c5] 44)) wr) (fun i _ => m - (intOf i).toNat)
  case atStart => exact ⟨0, Nat.zero_le _, rfl, hb1.trans hb2⟩
  case round =>
    obtain ⟨k, hk, rfl, hb⟩ := hrel
    clear b0 b1 b2 b3 b4 bf0 bf1 bf2 bf3 bf4 hcr1 hfr1 hcr2 hfr2
    by_cases hlt : k < m
    · obtain ⟨b, o, x, cs, rfl, hbw, hx, _, hc, A', c', rfl, hs⟩ := (H4.out wr (((Ext.refl w).alloc _).trans hb)).at_ hlt
      have g0 := hc 0 _ rfl
      simp only [Nat.mul_one, Nat.add_zero] at g0
      have HX := Lib.hid (List.mem_of_getElem? hx)
      have HS := Lib.hid (fun (u : World) (e : Ext wr u) => HP.out x HX.out A' c' u (hs.ext (Flat.mono _ _) e))
      clear hx hc hs
      generalize x.length = xl at *
      go_wp2_with fail
      refine (HS.out _ ((Ext.refl _).alloc _)).mono ?_
      rintro e w4 ⟨rfl, hb4⟩
      go_wp2
      go_roundw
      case rel => exact ⟨k + 1, by omega, by go_num, hb.trans (((Ext.refl _).alloc _).trans hb4)⟩
      case measure => simp [intOf]; omega
    · obtain rfl : k = m := by omega
      go_wp2
      exact ret_bool rfl rfl rfl rfl (((Ext.refl w).alloc _).trans hb)
end Go.Proofs.YtgmlcohffdeplaaGreat
/-! SChg -/
namespace Go.Proofs.YtgmlcohffdeplaaGreat
open Go.RowKit
set_option linter.unusedVariables false
attribute [local go_sem ↓] run_vec_eq run_vec_guard run_vec_ne
theorem take_okb {xs acc : List Pt} {fr te : Int} {v : Vec} (hp : profB xs = true) (hs : spanT fr te = true) (h : chgGo xs fr te (byV v) (timesL xs fr te) [] = some acc) : profB acc = decide (acc.length ≤ 200) :=
  take_valid (fun _ _ _ h => byV_ok h) hp (span_parts hs) (free_vec hp) (timesL_sorted fr te (profB_parts hp).2.2.2.1) (timesL_time hp (span_parts hs)) (timesL_head hp (span_parts hs)) h
set_option maxHeartbeats 8000000 in
set_option maxRecDepth 8000 in
theorem l03Change_c (xs : List Pt) (fr te : Int) (v : Vec) (A : Option Addr) (n c : Nat) (w : World) (h : SlAt RPt 4 w A n xs) (hp : profB xs = true) (hs : spanT fr te = true) : Calls Tryz.prog 149 #[.agg #[.slice A n c], .int .i64 fr, .int .i64 te, .agg #[.int .i64 v.A, .int .i64 v.B, .int .i64 v.C], .bool false] w (RetP w (takeP xs fr te v)) := by
  obtain rfl := h.len
  have hl := (profB_parts hp).2.1
  have hM := Flat.mono Pt.enc Pt.ok
  obtain ⟨i1, hi1, hJ0, hJ1, hJ2⟩ := info_parts CPt.info
  have hff : In64 fr ∧ In64 te := by
    obtain ⟨h1, h2, h3⟩ := span_parts hs
    unfold timeB at h1 h2
    rw [decide_eq_true_iff] at h1 h2
    exact ⟨in64_if (by omega) (by omega), in64_if (by omega) (by omega)⟩
  have HTM := Lib.hid (fun (u : World) (e : Ext w u) => l03Times_o xs fr te A xs.length c u (h.ext hM e) hl hff.1 hff.2)
  have HAT := Lib.hid (fun (u : World) (e : Ext w u) (t : Int) => l03At_c xs t A xs.length c u (h.ext hM e) (by unfold maxLen; omega))
  have HSU := Lib.hid (fun (y : Vec) (u : World) => sVecSub_c y v u)
  have HPK := Lib.hid (fun (zs : List Pt) (A' : Option Addr) (n' c' : Nat) (u : World) (h' : SlAt RPt 4 u A' n' zs) (hn : n' ≤ maxLen) => sProfOk_c zs A' n' c' u h' hn)
  have HP := Lib.hid hp
  have HS := Lib.hid hs
  have HTM2 := Lib.hid (timesL_time hp (span_parts hs))
  have HTL := Lib.hid (timesL_len xs fr te)
  have HEQ := Lib.hid (show takeP xs fr te v = takeG xs fr te (byV v) from rfl)
  have HTK := Lib.hid (fun o (h : chgGo xs fr te (byV v) (timesL xs fr te) [] = some o) => take_okb hp hs h)
  clear hp hs h
  generalize hn : xs.length = n at *
  have HN := Lib.hid hn
  clear hn
  go_enter Tryz.func149, Tryz.ntmps149
  go_wp2_with fail
  refine (HTM.out _ ((((Ext.refl _).alloc _).alloc _).alloc _ |>.alloc _)).mono ?_
  rintro e w2 ⟨Bt, ct, rfl, ho2, hin2, hb2⟩
  simp at ho2
  have HB2 := Lib.hid (Ext.trans ((Ext.refl (((w.alloc (.cells #[.slice A n c] 42)).alloc (.cells #[.int .i64 v.A, .int .i64 v.B, .int .i64 v.C] 59)).alloc (.cells #[.slice none 0 0] 42))).alloc _) hb2)
  have H13 := Lib.hid (owns_ext (gbox1 (((w.alloc (.cells #[.slice A n c] 42)).alloc (.cells #[.int .i64 v.A, .int .i64 v.B, .int .i64 v.C] 59)).alloc (.cells #[.slice none 0 0] 42)) (.slice none 0 0) 42) hb2)
  simp at H13
  have HLE : (timesL xs fr te).length ≤ 202 := by have := HTL.out; have := HN.out; omega
  clear HTL
  have hzz := hb2.size
  simp at hzz
  generalize hts : timesL xs fr te = ts at *
  have HTS := Lib.hid hts
  clear hts
  generalize hR : chgGo xs fr te (byV v) ts [] = R
  have HRR := Lib.hid hR
  clear hR
  obtain ⟨gt, rfl, hg1, hg2⟩ : ∃ g, Bt = some ⟨g, 0, none⟩ ∧ w.heap.size + 1 + 1 + 1 ≤ g ∧ g < w2.heap.size := by
    have hmem : fr ∈ ts := by rw [← HTS.out]; exact timesL_mem.2 (.inr (.inl rfl))
    obtain ⟨g, h1, h2, h3⟩ := own_some ho2 (List.length_pos_of_mem hmem)
    exact ⟨g, h1, by omega, h3⟩
  have HOT := Lib.hid (row_low (b' := w.heap.size + 1 + 1 + 1) ho2 (by omega))
  clear ho2 hb2
  have HTMX := Lib.hid (show ∀ t ∈ ts, timeB t = true from HTM2.out)
  generalize hmm : ts.length = m at *
  have HMM := Lib.hid hmm
  clear hmm
  go_wp2
  go_loopw [24] (fun iv wq => ∃ (j : Nat) (acc : List Pt) (Ao : Option Addr) (co : Nat), j ≤ m ∧ acc.length ≤ j ∧ iv = .int .i64 j ∧ Hid (∀ y ∈ acc, y.ok) ∧ Hid (wq.ownsRow (w.heap.size + 1 + 1 + 1) 3 1 (.slice (some ⟨gt, 0, none⟩) m ct) m (ts.flatMap encInt)) ∧ Hid (wq.ownsRow (w.heap.size + 1 + 1 + 1) 107 4 (.slice Ao acc.length co) acc.length (acc.flatMap Pt.enc)) ∧ Hid (wq.ownsRow (w.heap.size + 1 + 1 + 1) 42 1 (.slice (some ⟨w.heap.size + 1 + 1 + 1, 0, none⟩) 1 1) 1 [.slice Ao acc.length co]) ∧ Ext (((w.alloc (.cells #[.slice A n c] 42)).alloc (.cells #[.int .i64 v.A, .int .i64 v.B, .int .i64 v.C] 59)).alloc (.cells #[.slice none 0 0] 42)) wq ∧ Hid (R = chgGo xs fr te (byV v) (ts.drop j) acc)) (fun iv _ => m - (intOf iv).toNat)
  case atStart => exact ⟨0, [], none, 0, Nat.zero_le _, Nat.zero_le _, rfl, Lib.hid (fun y hy => by simp at hy), HOT, Lib.hid (World.ownsRow_nil _ _ _ _), H13, HB2.out, Lib.hid HRR.out.symm⟩
  case round =>
    obtain ⟨j, acc, Ao, co, hj, haj, rfl, HOK, HO4, HO5, H14, hbq, HE⟩ := hrel
    by_cases hlt2 : j < m
    · obtain ⟨t, ht⟩ : ∃ t, ts[j]? = some t := ⟨_, List.getElem?_eq_getElem (by have := HMM.out; omega)⟩
      have hc0 : wr.cell? ⟨gt, j, none⟩ = some (.int .i64 t) := by rw [HO4.out.cellAt j (by omega), enc_map, List.getElem?_map, ht]; rfl
      have HTX := Lib.hid ht
      have HTI := Lib.hid (HTMX.out t (List.mem_of_getElem? ht))
      clear ht
      have a0 := (Ext.trans (((Ext.refl (w.alloc (.cells #[.slice A n c] 42))).alloc _).alloc _) hbq).cell (cell_box_at w (w.heap.size) (by simp) [.slice A n c] 42 0 _ rfl)
      have af0 := ((Ext.trans (((Ext.refl (w.alloc (.cells #[.slice A n c] 42))).alloc _).alloc _) hbq).frozenEq (a := ⟨w.heap.size, 0, none⟩) (by simp)).trans (frozen_box_at w (w.heap.size) (by simp) #[.slice A n c] 42 0)
      have hgs := (HO4.out.lt gt rfl).2
      have h13 := (gcells1 H14.out).2.2
      go_wp2_with fail
      refine (HAT.out _ (Ext.trans ((((Ext.refl _).alloc _).alloc _).alloc _) hbq) t).mono ?_
      rintro e w4 ⟨rfl, hb4⟩
      have HB4 := Lib.hid hb4
      have hz4 := hb4.size
      clear hc0 a0 af0
      have HVF := Lib.hid (free_vec HP.out t)
      generalize hy : freeAt xs t = y at *
      have HY := Lib.hid hy
      clear hy
      obtain ⟨m0, mf0, ml0⟩ := gcells1 (owns_ext H14.out hb4)
      by_cases hin : fr ≤ t ∧ t < te
      · have HVN := Lib.hid (show atV xs fr te (byV v) t = byV v y by unfold atV; rw [if_pos hin, HY.out])
        obtain ⟨h1, h2⟩ := hin
        have b0 := (Ext.trans ((Ext.refl ((w.alloc (.cells #[.slice A n c] 42)).alloc (.cells #[.int .i64 v.A, .int .i64 v.B, .int .i64 v.C] 59))).alloc _) (hbq.trans HB4.out)).cell (cell_box_at (w.alloc (.cells #[.slice A n c] 42)) (w.heap.size + 1) (by simp) [.int .i64 v.A, .int .i64 v.B, .int .i64 v.C] 59 0 _ rfl)
        have b1 := (Ext.trans ((Ext.refl ((w.alloc (.cells #[.slice A n c] 42)).alloc (.cells #[.int .i64 v.A, .int .i64 v.B, .int .i64 v.C] 59))).alloc _) (hbq.trans HB4.out)).cell (cell_box_at (w.alloc (.cells #[.slice A n c] 42)) (w.heap.size + 1) (by simp) [.int .i64 v.A, .int .i64 v.B, .int .i64 v.C] 59 1 _ rfl)
        have b2 := (Ext.trans ((Ext.refl ((w.alloc (.cells #[.slice A n c] 42)).alloc (.cells #[.int .i64 v.A, .int .i64 v.B, .int .i64 v.C] 59))).alloc _) (hbq.trans HB4.out)).cell (cell_box_at (w.alloc (.cells #[.slice A n c] 42)) (w.heap.size + 1) (by simp) [.int .i64 v.A, .int .i64 v.B, .int .i64 v.C] 59 2 _ rfl)
        have bf0 := ((Ext.trans ((Ext.refl ((w.alloc (.cells #[.slice A n c] 42)).alloc (.cells #[.int .i64 v.A, .int .i64 v.B, .int .i64 v.C] 59))).alloc _) (hbq.trans HB4.out)).frozenEq (a := ⟨w.heap.size + 1, 0, none⟩) (by simp)).trans (frozen_box_at (w.alloc (.cells #[.slice A n c] 42)) (w.heap.size + 1) (by simp) #[.int .i64 v.A, .int .i64 v.B, .int .i64 v.C] 59 0)
        have bf1 := ((Ext.trans ((Ext.refl ((w.alloc (.cells #[.slice A n c] 42)).alloc (.cells #[.int .i64 v.A, .int .i64 v.B, .int .i64 v.C] 59))).alloc _) (hbq.trans HB4.out)).frozenEq (a := ⟨w.heap.size + 1, 1, none⟩) (by simp)).trans (frozen_box_at (w.alloc (.cells #[.slice A n c] 42)) (w.heap.size + 1) (by simp) #[.int .i64 v.A, .int .i64 v.B, .int .i64 v.C] 59 1)
        have bf2 := ((Ext.trans ((Ext.refl ((w.alloc (.cells #[.slice A n c] 42)).alloc (.cells #[.int .i64 v.A, .int .i64 v.B, .int .i64 v.C] 59))).alloc _) (hbq.trans HB4.out)).frozenEq (a := ⟨w.heap.size + 1, 2, none⟩) (by simp)).trans (frozen_box_at (w.alloc (.cells #[.slice A n c] 42)) (w.heap.size + 1) (by simp) #[.int .i64 v.A, .int .i64 v.B, .int .i64 v.C] 59 2)
        have bl := lt_of_cell b0
        go_wp2_with fail
        refine (HSU.out y _).mono ?_
        rintro e w5 ⟨rfl, hb5⟩
        have HB5 := Lib.hid hb5
        have hz5 := hb5.size
        clear b0 b1 b2 bf0 bf1 bf2
        have e0 := (hb5).cell (cell_box_at w4 (w4.heap.size) (by simp) [.int .i64 y.A, .int .i64 y.B, .int .i64 y.C] 59 0 _ rfl)
        have e1 := (hb5).cell (cell_box_at w4 (w4.heap.size) (by simp) [.int .i64 y.A, .int .i64 y.B, .int .i64 y.C] 59 1 _ rfl)
        have e2 := (hb5).cell (cell_box_at w4 (w4.heap.size) (by simp) [.int .i64 y.A, .int .i64 y.B, .int .i64 y.C] 59 2 _ rfl)
        have ef0 := ((hb5).frozenEq (a := ⟨w4.heap.size, 0, none⟩) (by simp)).trans (frozen_box_at w4 (w4.heap.size) (by simp) #[.int .i64 y.A, .int .i64 y.B, .int .i64 y.C] 59 0)
        have ef1 := ((hb5).frozenEq (a := ⟨w4.heap.size, 1, none⟩) (by simp)).trans (frozen_box_at w4 (w4.heap.size) (by simp) #[.int .i64 y.A, .int .i64 y.B, .int .i64 y.C] 59 1)
        have ef2 := ((hb5).frozenEq (a := ⟨w4.heap.size, 2, none⟩) (by simp)).trans (frozen_box_at w4 (w4.heap.size) (by simp) #[.int .i64 y.A, .int .i64 y.B, .int .i64 y.C] 59 2)
        have hw45 : Ext w4 w5 := ((Ext.refl w4).alloc _).trans hb5
        have hz6 : w4.heap.size < w5.heap.size := by have := hz5; simp at this; omega
        clear hz5
        rcases hfb : fitsB v y with _ | _
        · have HNO := Lib.hid (show takeG xs fr te (byV v) = none from take_none (by rw [HTS.out, HRR.out, HE.out, drop_cons HTX.out]; exact chg_none (by rw [HVN.out]; unfold byV; rw [if_neg (by rw [hfb]; simp)])))
          have r0 := (Ext.trans hbq (HB4.out.trans hw45)).cell (cell_box_at ((w.alloc (.cells #[.slice A n c] 42)).alloc (.cells #[.int .i64 v.A, .int .i64 v.B, .int .i64 v.C] 59)) (w.heap.size + 1 + 1) (by simp) [.slice none 0 0] 42 0 _ rfl)
          have rf0 := ((Ext.trans hbq (HB4.out.trans hw45)).frozenEq (a := ⟨w.heap.size + 1 + 1, 0, none⟩) (by simp)).trans (frozen_box_at ((w.alloc (.cells #[.slice A n c] 42)).alloc (.cells #[.int .i64 v.A, .int .i64 v.B, .int .i64 v.C] 59)) (w.heap.size + 1 + 1) (by simp) #[.slice none 0 0] 42 0)
          have he8 := lt_of_cell r0
          have he9 : w.heap.size + 1 + 1 ≠ w4.heap.size := by have h1 := hz4; have h2 := (H14.out.lt _ rfl).2; omega
          have hw5 : Ext w w5 := Ext.trans ((((Ext.refl _).alloc _).alloc _).alloc _) (hbq.trans (HB4.out.trans hw45))
          go_wp2
          exact bodyPost_ret (v := .tuple #[.agg #[.slice none 0 0], .bool false]) (by simp [results, Tryz.results149, go_sem, *]) rfl (by rw [HEQ.out]; exact retP_none HNO.out (by repeat (first | exact Ext.refl _ | assumption | apply Ext.alloc | apply Ext.drewN | apply Ext.drew | (refine Ext.setCell ?_ (by first | (simp; done) | (simp; omega) | omega) _) | (refine Ext.trans ?_ (by assumption)))))
        · generalize hsv : subV y v = s at *
          have HV0 := Lib.hid (show atV xs fr te (byV v) t = some s by rw [HVN.out]; unfold byV; rw [if_pos hfb, hsv])
          have HVY := Lib.hid (show vecB s = true from byV_ok (v := v) (x := y) (by unfold byV; rw [if_pos hfb, hsv]))
          clear HVF HVN hsv
          have HP5 := Lib.hid (show w4.ownsRow (w.heap.size + 1 + 1 + 1) 107 4 (.slice Ao acc.length co) acc.length (acc.flatMap Pt.enc) from owns_ext HO5.out hb4)
          have HP5w := Lib.hid (owns_ext HP5.out hw45)
          clear m0 mf0 ml0
          obtain ⟨m0, mf0, ml0⟩ := gcells1 (owns_ext (owns_ext H14.out hb4) hw45)
          have hx6 : w.heap.size + 1 + 1 + 1 ≠ w4.heap.size := by have h1 := hz4; have h2 := (H14.out.lt _ rfl).2; omega
          generalize hal : acc.length = q at *
          have HAL := Lib.hid hal
          clear hal
          rcases q with _ | q
          · go_wp2_with fail
            go_quiet (fail)
            have HPO := Lib.hid (show Pt.ok ⟨t, s⟩ from pt_ok HTI.out HVY.out)
            have HPN := Lib.hid (put_first HAL.out (t := t) (y := s))
            have H13b := Lib.hid (owns_ext H14.out HB4.out)
            go_wp2_with (at_builtin; go_must (refine wpList_append_r (enc := Pt.enc) (ok := Pt.ok) (.tmp 72) (.tmp 76) _ (w.heap.size + 1 + 1 + 1) 107 i1 _ 4 32 (.slice Ao 0 co) (0) _ (some ⟨w5.heap.size, 0, none⟩) 1 1 [⟨t, s⟩] rfl rfl Tryz.underlying40 hi1 hJ0 hJ1 hJ2 rfl (by omega) rfl (owns_ext HP5.out (by repeat (first | exact Ext.refl _ | assumption | apply Ext.alloc | apply Ext.drewN | apply Ext.drew | (refine Ext.setCell ?_ (by first | (simp; done) | (simp; omega) | omega) _) | (refine Ext.trans ?_ (by assumption))))) rfl (by exact sl_one_at (enc := Pt.enc) _ _ (by simp) (⟨t, s⟩ : Pt) 107 rfl HPO.out) Pt.size pt_one (by unfold maxLen; omega) (by omega) (by simp; omega) ?_); intro A6 c6 w6 hr6; have HR6 := Lib.hid hr6; have H6 := Lib.hid (hr6.other (owns_ext H13b.out (by repeat (first | exact Ext.refl _ | assumption | apply Ext.alloc | apply Ext.drewN | apply Ext.drew | (refine Ext.setCell ?_ (by first | (simp; done) | (simp; omega) | omega) _) | (refine Ext.trans ?_ (by assumption))))) (g_apart H13b.out HP5.out (by decide))); have HT6 := Lib.hid (hr6.other (owns_ext (owns_ext HO4.out HB4.out) (by repeat (first | exact Ext.refl _ | assumption | apply Ext.alloc | apply Ext.drewN | apply Ext.drew | (refine Ext.setCell ?_ (by first | (simp; done) | (simp; omega) | omega) _) | (refine Ext.trans ?_ (by assumption))))) (g_apart HO4.out HO5.out (by decide))); have HX6 := Lib.hid (ext_turned (Ext.trans (hbq.trans HB4.out) (by repeat (first | exact Ext.refl _ | assumption | apply Ext.alloc | apply Ext.drewN | apply Ext.drew | (refine Ext.setCell ?_ (by first | (simp; done) | (simp; omega) | omega) _) | (refine Ext.trans ?_ (by assumption))))) (hr6.turned (lo := w.heap.size + 1 + 1 + 1) (fun q hq => (HP5.out.lt q hq).1)) (by simp)); have m6 := (gcells1 H6.out).1; have mf6 := (gcells1 H6.out).2.1; have ml6 := (gcells1 H6.out).2.2; clear hr6)
            go_wp2
            go_roundw
            case rel => exact ⟨j + 1, acc ++ [⟨t, s⟩], A6, c6, by omega, by rw [List.length_append, HAL.out, List.length_singleton]; omega, by go_num, Lib.hid (fun z hz => by rcases List.mem_append.1 hz with hz | hz; exact HOK.out z hz; rw [List.mem_singleton.1 hz]; exact HPO.out), Lib.hid (g_far HT6.out (fun e => g_apart H6.out HT6.out (by decide) _ rfl e)), Lib.hid (by rw [List.length_append, HAL.out, List.flatMap_append]; have h := g_far HR6.out.row (p := 0) (u := .slice A6 (0 + 1) c6) (fun e => g_apart H6.out HR6.out.row (by decide) _ rfl e); simpa using h), Lib.hid (by rw [List.length_append, HAL.out]; exact (H6.out.stored 0 (.slice A6 (0 + 1) c6)).1), HX6.out.setCell (by first | (simp; omega) | simp) _, Lib.hid (by rw [HE.out, drop_cons HTX.out, chg_some HV0.out, HPN.out])⟩
            case measure => simp [intOf]; omega
          · obtain ⟨z, hz⟩ : ∃ z, acc[q]? = some z := ⟨_, List.getElem?_eq_getElem (by have := HAL.out; omega)⟩
            obtain ⟨bo, rfl, hbo1, hbo2⟩ := own_some HP5.out (by omega)
            have hbo4 : bo < w5.heap.size := Nat.lt_trans hbo2 hz6
            have hbo5 : bo ≠ w4.heap.size := Nat.ne_of_lt hbo2
            have hbo6 : w.heap.size + 1 + 1 + 1 ≠ w4.heap.size := by have h1 := hz4; have h2 := (H14.out.lt _ rfl).2; omega
            have p1 : w5.cell? ⟨bo, q * 4 + 1, none⟩ = some (.int .i64 z.Free.A) := by rw [HP5w.out.cellAt (q * 4 + 1) (by omega)]; exact (flatMap_get (enc := Pt.enc) (j := 1) Pt.size (by omega) hz).trans rfl
            have p2 : w5.cell? ⟨bo, q * 4 + 2, none⟩ = some (.int .i64 z.Free.B) := by rw [HP5w.out.cellAt (q * 4 + 2) (by omega)]; exact (flatMap_get (enc := Pt.enc) (j := 2) Pt.size (by omega) hz).trans rfl
            have p3 : w5.cell? ⟨bo, q * 4 + 3, none⟩ = some (.int .i64 z.Free.C) := by rw [HP5w.out.cellAt (q * 4 + 3) (by omega)]; exact (flatMap_get (enc := Pt.enc) (j := 3) Pt.size (by omega) hz).trans rfl
            have HZQ := Lib.hid hz
            clear hz
            rcases hd : decide (z.Free = s) with _ | _
            · have he := vec_beq hd
              have HD := Lib.hid hd
              clear hd
              have hg0 : decide ((q : Int) + 1 = 0) = false := by rw [decide_eq_false_iff_not]; omega
              go_wp2_with fail
              have hg1 : ((q : Int) + 1 == 0) = false := by rw [beq_eq_false_iff_ne]; omega
              have hg2 : IntKind.i64.wrap ((q : Int) + 1 - 1) = (q : Int) := by rw [show (q : Int) + 1 - 1 = q by omega]; exact IntWalk.i64_in _ ⟨by omega, by omega⟩
              go_quiet (fail)
              have HPO := Lib.hid (show Pt.ok ⟨t, s⟩ from pt_ok HTI.out HVY.out)
              have HPN := Lib.hid (put_new HAL.out HZQ.out HD.out (t := t))
              have H13b := Lib.hid (owns_ext H14.out HB4.out)
              go_wp2_with (at_builtin; go_must (refine wpList_append_r (enc := Pt.enc) (ok := Pt.ok) (.tmp 72) (.tmp 76) _ (w.heap.size + 1 + 1 + 1) 107 i1 _ 4 32 (.slice (some ⟨bo, 0, none⟩) (q + 1) co) (q + 1) _ (some ⟨w5.heap.size, 0, none⟩) 1 1 [⟨t, s⟩] rfl rfl Tryz.underlying40 hi1 hJ0 hJ1 hJ2 rfl (by omega) rfl (owns_ext HP5.out (by repeat (first | exact Ext.refl _ | assumption | apply Ext.alloc | apply Ext.drewN | apply Ext.drew | (refine Ext.setCell ?_ (by first | (simp; done) | (simp; omega) | omega) _) | (refine Ext.trans ?_ (by assumption))))) rfl (by exact sl_one_at (enc := Pt.enc) _ _ (by simp) (⟨t, s⟩ : Pt) 107 rfl HPO.out) Pt.size pt_one (by unfold maxLen; omega) (by omega) (by simp; omega) ?_); intro A6 c6 w6 hr6; have HR6 := Lib.hid hr6; have H6 := Lib.hid (hr6.other (owns_ext H13b.out (by repeat (first | exact Ext.refl _ | assumption | apply Ext.alloc | apply Ext.drewN | apply Ext.drew | (refine Ext.setCell ?_ (by first | (simp; done) | (simp; omega) | omega) _) | (refine Ext.trans ?_ (by assumption))))) (g_apart H13b.out HP5.out (by decide))); have HT6 := Lib.hid (hr6.other (owns_ext (owns_ext HO4.out HB4.out) (by repeat (first | exact Ext.refl _ | assumption | apply Ext.alloc | apply Ext.drewN | apply Ext.drew | (refine Ext.setCell ?_ (by first | (simp; done) | (simp; omega) | omega) _) | (refine Ext.trans ?_ (by assumption))))) (g_apart HO4.out HO5.out (by decide))); have HX6 := Lib.hid (ext_turned (Ext.trans (hbq.trans HB4.out) (by repeat (first | exact Ext.refl _ | assumption | apply Ext.alloc | apply Ext.drewN | apply Ext.drew | (refine Ext.setCell ?_ (by first | (simp; done) | (simp; omega) | omega) _) | (refine Ext.trans ?_ (by assumption))))) (hr6.turned (lo := w.heap.size + 1 + 1 + 1) (fun q hq => (HP5.out.lt q hq).1)) (by simp)); have m6 := (gcells1 H6.out).1; have mf6 := (gcells1 H6.out).2.1; have ml6 := (gcells1 H6.out).2.2; clear hr6)
              go_wp2
              go_roundw
              case rel => exact ⟨j + 1, acc ++ [⟨t, s⟩], A6, c6, by omega, by rw [List.length_append, HAL.out, List.length_singleton]; omega, by go_num, Lib.hid (fun z hz => by rcases List.mem_append.1 hz with hz | hz; exact HOK.out z hz; rw [List.mem_singleton.1 hz]; exact HPO.out), Lib.hid (g_far HT6.out (fun e => g_apart H6.out HT6.out (by decide) _ rfl e)), Lib.hid (by rw [List.length_append, HAL.out, List.flatMap_append]; have h := g_far HR6.out.row (p := 0) (u := .slice A6 (q + 1 + 1) c6) (fun e => g_apart H6.out HR6.out.row (by decide) _ rfl e); simpa using h), Lib.hid (by rw [List.length_append, HAL.out]; exact (H6.out.stored 0 (.slice A6 (q + 1 + 1) c6)).1), HX6.out.setCell (by first | (simp; omega) | simp) _, Lib.hid (by rw [HE.out, drop_cons HTX.out, chg_some HV0.out, HPN.out])⟩
              case measure => simp [intOf]; omega
            · have he := vec_beq hd
              have HD := Lib.hid hd
              clear hd
              have hg0 : decide ((q : Int) + 1 = 0) = false := by rw [decide_eq_false_iff_not]; omega
              go_wp2_with fail
              have hg1 : ((q : Int) + 1 == 0) = false := by rw [beq_eq_false_iff_ne]; omega
              have hg2 : IntKind.i64.wrap ((q : Int) + 1 - 1) = (q : Int) := by rw [show (q : Int) + 1 - 1 = q by omega]; exact IntWalk.i64_in _ ⟨by omega, by omega⟩
              go_quiet (fail)
              go_wp2
              go_roundw
              case rel => exact ⟨j + 1, acc, some ⟨bo, 0, none⟩, co, by omega, by have := HAL.out; omega, by go_num, HOK, Lib.hid (owns_ext (owns_ext HO4.out HB4.out) (by repeat (first | exact Ext.refl _ | assumption | apply Ext.alloc | apply Ext.drewN | apply Ext.drew | (refine Ext.setCell ?_ (by first | (simp; done) | (simp; omega) | omega) _) | (refine Ext.trans ?_ (by assumption))))), Lib.hid (by rw [HAL.out]; exact owns_ext HP5.out (by repeat (first | exact Ext.refl _ | assumption | apply Ext.alloc | apply Ext.drewN | apply Ext.drew | (refine Ext.setCell ?_ (by first | (simp; done) | (simp; omega) | omega) _) | (refine Ext.trans ?_ (by assumption))))), Lib.hid (by rw [HAL.out]; exact owns_ext (owns_ext H14.out HB4.out) (by repeat (first | exact Ext.refl _ | assumption | apply Ext.alloc | apply Ext.drewN | apply Ext.drew | (refine Ext.setCell ?_ (by first | (simp; done) | (simp; omega) | omega) _) | (refine Ext.trans ?_ (by assumption))))), Ext.trans (hbq.trans HB4.out) (by repeat (first | exact Ext.refl _ | assumption | apply Ext.alloc | apply Ext.drewN | apply Ext.drew | (refine Ext.setCell ?_ (by first | (simp; done) | (simp; omega) | omega) _) | (refine Ext.trans ?_ (by assumption)))), Lib.hid (by rw [HE.out, drop_cons HTX.out, chg_some HV0.out]; congr 1; exact put_same HAL.out HZQ.out HD.out)⟩
              case measure => simp [intOf]; omega
      · have HNI := Lib.hid hin
        have h12 : (¬ fr ≤ t) ∨ (fr ≤ t ∧ ¬ t < te) := by omega
        clear hin
        rcases h12 with h1 | ⟨h1, h2⟩
        all_goals
          have HV0 := Lib.hid (show atV xs fr te (byV v) t = some y by unfold atV; rw [if_neg HNI.out, HY.out])
          have HVY := Lib.hid (show vecB y = true from HVF.out)
          clear HVF
          have HP5 := Lib.hid (show w4.ownsRow (w.heap.size + 1 + 1 + 1) 107 4 (.slice Ao acc.length co) acc.length (acc.flatMap Pt.enc) from owns_ext HO5.out hb4)
          generalize hal : acc.length = q at *
          have HAL := Lib.hid hal
          clear hal
          rcases q with _ | q
          · go_wp2_with fail
            go_quiet (fail)
            have HPO := Lib.hid (show Pt.ok ⟨t, y⟩ from pt_ok HTI.out HVY.out)
            have HPN := Lib.hid (put_first HAL.out (t := t) (y := y))
            have H13b := Lib.hid (owns_ext H14.out HB4.out)
            go_wp2_with (at_builtin; go_must (refine wpList_append_r (enc := Pt.enc) (ok := Pt.ok) (.tmp 72) (.tmp 76) _ (w.heap.size + 1 + 1 + 1) 107 i1 _ 4 32 (.slice Ao 0 co) (0) _ (some ⟨w4.heap.size + 1, 0, none⟩) 1 1 [⟨t, y⟩] rfl rfl Tryz.underlying40 hi1 hJ0 hJ1 hJ2 rfl (by omega) rfl (owns_ext HP5.out (by repeat (first | exact Ext.refl _ | assumption | apply Ext.alloc | apply Ext.drewN | apply Ext.drew | (refine Ext.setCell ?_ (by first | (simp; done) | (simp; omega) | omega) _) | (refine Ext.trans ?_ (by assumption))))) rfl (by exact sl_one_at (enc := Pt.enc) _ _ (by simp) (⟨t, y⟩ : Pt) 107 rfl HPO.out) Pt.size pt_one (by unfold maxLen; omega) (by omega) (by have := HB4.out.size; simp; omega) ?_); intro A6 c6 w6 hr6; have HR6 := Lib.hid hr6; have H6 := Lib.hid (hr6.other (owns_ext H13b.out (by repeat (first | exact Ext.refl _ | assumption | apply Ext.alloc | apply Ext.drewN | apply Ext.drew | (refine Ext.setCell ?_ (by first | (simp; done) | (simp; omega) | omega) _) | (refine Ext.trans ?_ (by assumption))))) (g_apart H13b.out HP5.out (by decide))); have HT6 := Lib.hid (hr6.other (owns_ext (owns_ext HO4.out HB4.out) (by repeat (first | exact Ext.refl _ | assumption | apply Ext.alloc | apply Ext.drewN | apply Ext.drew | (refine Ext.setCell ?_ (by first | (simp; done) | (simp; omega) | omega) _) | (refine Ext.trans ?_ (by assumption))))) (g_apart HO4.out HO5.out (by decide))); have HX6 := Lib.hid (ext_turned (Ext.trans (hbq.trans HB4.out) (by repeat (first | exact Ext.refl _ | assumption | apply Ext.alloc | apply Ext.drewN | apply Ext.drew | (refine Ext.setCell ?_ (by first | (simp; done) | (simp; omega) | omega) _) | (refine Ext.trans ?_ (by assumption))))) (hr6.turned (lo := w.heap.size + 1 + 1 + 1) (fun q hq => (HP5.out.lt q hq).1)) (by simp)); have m6 := (gcells1 H6.out).1; have mf6 := (gcells1 H6.out).2.1; have ml6 := (gcells1 H6.out).2.2; clear hr6)
            go_wp2
            go_roundw
            case rel => exact ⟨j + 1, acc ++ [⟨t, y⟩], A6, c6, by omega, by rw [List.length_append, HAL.out, List.length_singleton]; omega, by go_num, Lib.hid (fun z hz => by rcases List.mem_append.1 hz with hz | hz; exact HOK.out z hz; rw [List.mem_singleton.1 hz]; exact HPO.out), Lib.hid (g_far HT6.out (fun e => g_apart H6.out HT6.out (by decide) _ rfl e)), Lib.hid (by rw [List.length_append, HAL.out, List.flatMap_append]; have h := g_far HR6.out.row (p := 0) (u := .slice A6 (0 + 1) c6) (fun e => g_apart H6.out HR6.out.row (by decide) _ rfl e); simpa using h), Lib.hid (by rw [List.length_append, HAL.out]; exact (H6.out.stored 0 (.slice A6 (0 + 1) c6)).1), HX6.out.setCell (by first | (simp; omega) | simp) _, Lib.hid (by rw [HE.out, drop_cons HTX.out, chg_some HV0.out, HPN.out])⟩
            case measure => simp [intOf]; omega
          · obtain ⟨z, hz⟩ : ∃ z, acc[q]? = some z := ⟨_, List.getElem?_eq_getElem (by have := HAL.out; omega)⟩
            obtain ⟨bo, rfl, hbo1, hbo2⟩ := own_some HP5.out (by omega)
            have p1 : w4.cell? ⟨bo, q * 4 + 1, none⟩ = some (.int .i64 z.Free.A) := by rw [HP5.out.cellAt (q * 4 + 1) (by omega)]; exact (flatMap_get (enc := Pt.enc) (j := 1) Pt.size (by omega) hz).trans rfl
            have p2 : w4.cell? ⟨bo, q * 4 + 2, none⟩ = some (.int .i64 z.Free.B) := by rw [HP5.out.cellAt (q * 4 + 2) (by omega)]; exact (flatMap_get (enc := Pt.enc) (j := 2) Pt.size (by omega) hz).trans rfl
            have p3 : w4.cell? ⟨bo, q * 4 + 3, none⟩ = some (.int .i64 z.Free.C) := by rw [HP5.out.cellAt (q * 4 + 3) (by omega)]; exact (flatMap_get (enc := Pt.enc) (j := 3) Pt.size (by omega) hz).trans rfl
            have HZQ := Lib.hid hz
            clear hz
            rcases hd : decide (z.Free = y) with _ | _
            · have he := vec_beq hd
              have HD := Lib.hid hd
              clear hd
              have hg0 : decide ((q : Int) + 1 = 0) = false := by rw [decide_eq_false_iff_not]; omega
              go_wp2_with fail
              have hg1 : ((q : Int) + 1 == 0) = false := by rw [beq_eq_false_iff_ne]; omega
              have hg2 : IntKind.i64.wrap ((q : Int) + 1 - 1) = (q : Int) := by rw [show (q : Int) + 1 - 1 = q by omega]; exact IntWalk.i64_in _ ⟨by omega, by omega⟩
              go_quiet (fail)
              have HPO := Lib.hid (show Pt.ok ⟨t, y⟩ from pt_ok HTI.out HVY.out)
              have HPN := Lib.hid (put_new HAL.out HZQ.out HD.out (t := t))
              have H13b := Lib.hid (owns_ext H14.out HB4.out)
              go_wp2_with (at_builtin; go_must (refine wpList_append_r (enc := Pt.enc) (ok := Pt.ok) (.tmp 72) (.tmp 76) _ (w.heap.size + 1 + 1 + 1) 107 i1 _ 4 32 (.slice (some ⟨bo, 0, none⟩) (q + 1) co) (q + 1) _ (some ⟨w4.heap.size + 1, 0, none⟩) 1 1 [⟨t, y⟩] rfl rfl Tryz.underlying40 hi1 hJ0 hJ1 hJ2 rfl (by omega) rfl (owns_ext HP5.out (by repeat (first | exact Ext.refl _ | assumption | apply Ext.alloc | apply Ext.drewN | apply Ext.drew | (refine Ext.setCell ?_ (by first | (simp; done) | (simp; omega) | omega) _) | (refine Ext.trans ?_ (by assumption))))) rfl (by exact sl_one_at (enc := Pt.enc) _ _ (by simp) (⟨t, y⟩ : Pt) 107 rfl HPO.out) Pt.size pt_one (by unfold maxLen; omega) (by omega) (by have := HB4.out.size; simp; omega) ?_); intro A6 c6 w6 hr6; have HR6 := Lib.hid hr6; have H6 := Lib.hid (hr6.other (owns_ext H13b.out (by repeat (first | exact Ext.refl _ | assumption | apply Ext.alloc | apply Ext.drewN | apply Ext.drew | (refine Ext.setCell ?_ (by first | (simp; done) | (simp; omega) | omega) _) | (refine Ext.trans ?_ (by assumption))))) (g_apart H13b.out HP5.out (by decide))); have HT6 := Lib.hid (hr6.other (owns_ext (owns_ext HO4.out HB4.out) (by repeat (first | exact Ext.refl _ | assumption | apply Ext.alloc | apply Ext.drewN | apply Ext.drew | (refine Ext.setCell ?_ (by first | (simp; done) | (simp; omega) | omega) _) | (refine Ext.trans ?_ (by assumption))))) (g_apart HO4.out HO5.out (by decide))); have HX6 := Lib.hid (ext_turned (Ext.trans (hbq.trans HB4.out) (by repeat (first | exact Ext.refl _ | assumption | apply Ext.alloc | apply Ext.drewN | apply Ext.drew | (refine Ext.setCell ?_ (by first | (simp; done) | (simp; omega) | omega) _) | (refine Ext.trans ?_ (by assumption))))) (hr6.turned (lo := w.heap.size + 1 + 1 + 1) (fun q hq => (HP5.out.lt q hq).1)) (by simp)); have m6 := (gcells1 H6.out).1; have mf6 := (gcells1 H6.out).2.1; have ml6 := (gcells1 H6.out).2.2; clear hr6)
              go_wp2
              go_roundw
              case rel => exact ⟨j + 1, acc ++ [⟨t, y⟩], A6, c6, by omega, by rw [List.length_append, HAL.out, List.length_singleton]; omega, by go_num, Lib.hid (fun z hz => by rcases List.mem_append.1 hz with hz | hz; exact HOK.out z hz; rw [List.mem_singleton.1 hz]; exact HPO.out), Lib.hid (g_far HT6.out (fun e => g_apart H6.out HT6.out (by decide) _ rfl e)), Lib.hid (by rw [List.length_append, HAL.out, List.flatMap_append]; have h := g_far HR6.out.row (p := 0) (u := .slice A6 (q + 1 + 1) c6) (fun e => g_apart H6.out HR6.out.row (by decide) _ rfl e); simpa using h), Lib.hid (by rw [List.length_append, HAL.out]; exact (H6.out.stored 0 (.slice A6 (q + 1 + 1) c6)).1), HX6.out.setCell (by first | (simp; omega) | simp) _, Lib.hid (by rw [HE.out, drop_cons HTX.out, chg_some HV0.out, HPN.out])⟩
              case measure => simp [intOf]; omega
            · have he := vec_beq hd
              have HD := Lib.hid hd
              clear hd
              have hg0 : decide ((q : Int) + 1 = 0) = false := by rw [decide_eq_false_iff_not]; omega
              go_wp2_with fail
              have hg1 : ((q : Int) + 1 == 0) = false := by rw [beq_eq_false_iff_ne]; omega
              have hg2 : IntKind.i64.wrap ((q : Int) + 1 - 1) = (q : Int) := by rw [show (q : Int) + 1 - 1 = q by omega]; exact IntWalk.i64_in _ ⟨by omega, by omega⟩
              go_quiet (fail)
              go_wp2
              go_roundw
              case rel => exact ⟨j + 1, acc, some ⟨bo, 0, none⟩, co, by omega, by have := HAL.out; omega, by go_num, HOK, Lib.hid (owns_ext (owns_ext HO4.out HB4.out) (by repeat (first | exact Ext.refl _ | assumption | apply Ext.alloc | apply Ext.drewN | apply Ext.drew | (refine Ext.setCell ?_ (by first | (simp; done) | (simp; omega) | omega) _) | (refine Ext.trans ?_ (by assumption))))), Lib.hid (by rw [HAL.out]; exact owns_ext HP5.out (by repeat (first | exact Ext.refl _ | assumption | apply Ext.alloc | apply Ext.drewN | apply Ext.drew | (refine Ext.setCell ?_ (by first | (simp; done) | (simp; omega) | omega) _) | (refine Ext.trans ?_ (by assumption))))), Lib.hid (by rw [HAL.out]; exact owns_ext (owns_ext H14.out HB4.out) (by repeat (first | exact Ext.refl _ | assumption | apply Ext.alloc | apply Ext.drewN | apply Ext.drew | (refine Ext.setCell ?_ (by first | (simp; done) | (simp; omega) | omega) _) | (refine Ext.trans ?_ (by assumption))))), Ext.trans (hbq.trans HB4.out) (by repeat (first | exact Ext.refl _ | assumption | apply Ext.alloc | apply Ext.drewN | apply Ext.drew | (refine Ext.setCell ?_ (by first | (simp; done) | (simp; omega) | omega) _) | (refine Ext.trans ?_ (by assumption)))), Lib.hid (by rw [HE.out, drop_cons HTX.out, chg_some HV0.out]; congr 1; exact put_same HAL.out HZQ.out HD.out)⟩
              case measure => simp [intOf]; omega
    · have HRA := Lib.hid (show R = some acc by rw [HE.out, List.drop_eq_nil_of_le (by have := HMM.out; omega)]; rfl)
      have HTQ := Lib.hid (show takeG xs fr te (byV v) = if acc.length ≤ 200 then some acc else none from take_some (by rw [HTS.out, HRR.out, HRA.out]))
      have HPB := Lib.hid (HTK.out acc (by rw [HRR.out, HRA.out]))
      have HSA := Lib.hid (show SlAt RPt 4 wr Ao acc.length acc from (OwnAt.flat (enc := Pt.enc) (ok := Pt.ok) Pt.size HOK.out HO5.out).slAt)
      have HOA := Lib.hid (show ∀ q, (Value.slice Ao acc.length co).ownBlock = some q → w.heap.size + 1 + 1 + 1 ≤ q from fun q hq => (HO5.out.lt q hq).1)
      have HPC := Lib.hid (HPK.out acc Ao acc.length co wr HSA.out (by unfold maxLen; omega))
      obtain ⟨m0, mf0, ml0⟩ := gcells1 H14.out
      generalize hal : acc.length = q at *
      have HAL := Lib.hid hal
      clear hal
      go_wp2_with fail
      refine HPC.out.mono ?_
      rintro e w3 ⟨rfl, hb3⟩
      rw [HPB.out]
      have HB3 := Lib.hid hb3
      have HO5b := Lib.hid (owns_ext HO5.out hb3)
      obtain ⟨m1, mf1, ml1⟩ := gcells1 (owns_ext H14.out hb3)
      have r0 := (Ext.trans hbq HB3.out).cell (cell_box_at ((w.alloc (.cells #[.slice A n c] 42)).alloc (.cells #[.int .i64 v.A, .int .i64 v.B, .int .i64 v.C] 59)) (w.heap.size + 1 + 1) (by simp) [.slice none 0 0] 42 0 _ rfl)
      have rf0 := ((Ext.trans hbq HB3.out).frozenEq (a := ⟨w.heap.size + 1 + 1, 0, none⟩) (by simp)).trans (frozen_box_at ((w.alloc (.cells #[.slice A n c] 42)).alloc (.cells #[.int .i64 v.A, .int .i64 v.B, .int .i64 v.C] 59)) (w.heap.size + 1 + 1) (by simp) #[.slice none 0 0] 42 0)
      have he8 := lt_of_cell r0
      clear m0 mf0 ml0
      by_cases hq : q ≤ 200
      · rw [if_pos hq] at HTQ
        have hq' : decide (q ≤ 200) = true := decide_eq_true hq
        rw [hq']
        go_wp2
        exact bodyPost_ret (v := .tuple #[.agg #[.slice Ao q co], .bool true]) (by simp [results, Tryz.results149, go_sem, *]) rfl ⟨Ao, co, acc, by rw [HEQ.out, HTQ.out, HAL.out]; rfl, .inl (by rw [HEQ.out, HTQ.out]), by rw [HAL.out]; exact g_far (g_widen HO5b.out (fun q hq => by have := HOA.out q hq; omega)) (fun e => by have := HOA.out _ e; omega), HOK.out, Ext.setCell (Ext.trans ((((Ext.refl _).alloc _).alloc _).alloc _) (hbq.trans HB3.out)) (by first | (simp; omega) | simp) _⟩
      · rw [if_neg hq] at HTQ
        have hq' : decide (q ≤ 200) = false := decide_eq_false hq
        rw [hq']
        go_wp2
        exact bodyPost_ret (v := .tuple #[.agg #[.slice none 0 0], .bool false]) (by simp [results, Tryz.results149, go_sem, *]) rfl (by rw [HEQ.out]; exact retP_none HTQ.out (Ext.setCell (Ext.trans ((((Ext.refl _).alloc _).alloc _).alloc _) (hbq.trans HB3.out)) (by first | (simp; omega) | simp) _))
end Go.Proofs.YtgmlcohffdeplaaGreat
/-! STake -/
namespace Go.Proofs.YtgmlcohffdeplaaGreat
open Go.RowKit
set_option linter.unusedVariables false
theorem chg_in_none {l : List Pt} {fr te : Int} {g : Vec → Option Vec} {t : Int} (h : atV l fr te g t = none) : ∀ (ts : List Int) (acc : List Pt), t ∈ ts → chgGo l fr te g ts acc = none := by
  intro ts
  induction ts with
  | nil => intro acc hm; cases hm
  | cons x r ih =>
    intro acc hm
    rcases List.mem_cons.1 hm with e | hm
    · subst e; exact chg_none h
    · rw [chgGo]
      split
      · rfl
      · exact ih _ hm
theorem takeP_bad {xs : List Pt} {fr te : Int} {v : Vec} (hs : spanT fr te = true) (hv : vecB v = false) : takeP xs fr te v = none := by
  refine take_none (chg_in_none (t := fr) ?_ _ _ (timesL_mem.2 (.inr (.inl rfl))))
  have h3 := (span_parts hs).2.2
  unfold atV byV fitsB
  rw [if_pos ⟨by omega, h3⟩, hv]
  rfl
set_option maxHeartbeats 8000000 in
set_option maxRecDepth 8000 in
theorem sProfTake_c (xs : List Pt) (fr te : Int) (v : Vec) (A : Option Addr) (n c : Nat) (w : World) (h : SlAt RPt 4 w A n xs) (hl : n ≤ maxLen) : Calls Tryz.prog 135 #[.agg #[.slice A n c], .int .i64 fr, .int .i64 te, .agg #[.int .i64 v.A, .int .i64 v.B, .int .i64 v.C]] w (RetP w (takeQ xs fr te v)) := by
  have hM := Flat.mono Pt.enc Pt.ok
  have HPM := Lib.hid (fun (u : World) (e : Ext w u) => sProfMin_c xs fr te A n c u (h.ext hM e) hl)
  have HCH := Lib.hid (fun (u : World) (e : Ext w u) (hp : profB xs = true) (hs : spanT fr te = true) => l03Change_c xs fr te v A n c u (h.ext hM e) hp hs)
  clear h
  rcases (Bool.eq_false_or_eq_true (overB xs fr te)).symm with h1 | h1
  all_goals rw [h1] at HPM
  · have HN := Lib.hid (show takeQ xs fr te v = none by unfold takeQ; rw [show (profB xs && spanT fr te) = false from h1]; rfl)
    clear HCH h1
    go_enter Tryz.func135, Tryz.ntmps135
    go_wp2_with fail
    refine (HPM.out _ ((((Ext.refl _).alloc _).alloc _).alloc _)).mono ?_
    rintro e w1 ⟨y, rfl, hb1⟩
    have q0 := (hb1).cell (cell_box_at ((w.alloc (.cells #[.slice A n c] 42)).alloc (.cells #[.int .i64 v.A, .int .i64 v.B, .int .i64 v.C] 59)) (w.heap.size + 1 + 1) (by simp) [.slice none 0 0] 42 0 _ rfl)
    have qf0 := ((hb1).frozenEq (a := ⟨w.heap.size + 1 + 1, 0, none⟩) (by simp)).trans (frozen_box_at ((w.alloc (.cells #[.slice A n c] 42)).alloc (.cells #[.int .i64 v.A, .int .i64 v.B, .int .i64 v.C] 59)) (w.heap.size + 1 + 1) (by simp) #[.slice none 0 0] 42 0)
    have hz1 := lt_of_cell q0
    go_wp2
    exact bodyPost_ret (v := .tuple #[.agg #[.slice none 0 0], .bool false]) (by simp [results, Tryz.results135, go_sem, *]) rfl (retP_none HN.out ((((((Ext.refl w).alloc _).alloc _).alloc _).trans hb1).setCell (by first | omega | (simp; omega) | simp) _ |>.alloc _))
  · obtain ⟨hp, hs⟩ : profB xs = true ∧ spanT fr te = true := by
      have : (profB xs && spanT fr te) = true := h1
      rw [Bool.and_eq_true] at this; exact this
    have HQ := Lib.hid (show takeP xs fr te v = takeQ xs fr te v by
      unfold takeQ; rw [hp, hs]
      rcases hv : vecB v with _ | _
      · rw [takeP_bad hs hv]; rfl
      · rfl)
    have HC := Lib.hid (fun (u : World) (e : Ext w u) => HCH.out u e hp hs)
    rw [HQ.out] at HC
    clear HCH HQ h1 hp hs
    generalize takeQ xs fr te v = R at *
    go_enter Tryz.func135, Tryz.ntmps135
    go_wp2_with fail
    refine (HPM.out _ ((((Ext.refl _).alloc _).alloc _).alloc _)).mono ?_
    rintro e w1 ⟨y, rfl, hb1⟩
    have p0 := ((((Ext.refl _).alloc _).alloc _).trans hb1).cell (cell_box_at w (w.heap.size) (by simp) [.slice A n c] 42 0 _ rfl)
    have pf0 := (((((Ext.refl _).alloc _).alloc _).trans hb1).frozenEq (a := ⟨w.heap.size, 0, none⟩) (by simp)).trans (frozen_box_at w (w.heap.size) (by simp) #[.slice A n c] 42 0)
    have b0 := (((Ext.refl _).alloc _).trans hb1).cell (cell_box_at (w.alloc (.cells #[.slice A n c] 42)) (w.heap.size + 1) (by simp) [.int .i64 v.A, .int .i64 v.B, .int .i64 v.C] 59 0 _ rfl)
    have b1 := (((Ext.refl _).alloc _).trans hb1).cell (cell_box_at (w.alloc (.cells #[.slice A n c] 42)) (w.heap.size + 1) (by simp) [.int .i64 v.A, .int .i64 v.B, .int .i64 v.C] 59 1 _ rfl)
    have b2 := (((Ext.refl _).alloc _).trans hb1).cell (cell_box_at (w.alloc (.cells #[.slice A n c] 42)) (w.heap.size + 1) (by simp) [.int .i64 v.A, .int .i64 v.B, .int .i64 v.C] 59 2 _ rfl)
    have bf0 := ((((Ext.refl _).alloc _).trans hb1).frozenEq (a := ⟨w.heap.size + 1, 0, none⟩) (by simp)).trans (frozen_box_at (w.alloc (.cells #[.slice A n c] 42)) (w.heap.size + 1) (by simp) #[.int .i64 v.A, .int .i64 v.B, .int .i64 v.C] 59 0)
    have bf1 := ((((Ext.refl _).alloc _).trans hb1).frozenEq (a := ⟨w.heap.size + 1, 1, none⟩) (by simp)).trans (frozen_box_at (w.alloc (.cells #[.slice A n c] 42)) (w.heap.size + 1) (by simp) #[.int .i64 v.A, .int .i64 v.B, .int .i64 v.C] 59 1)
    have bf2 := ((((Ext.refl _).alloc _).trans hb1).frozenEq (a := ⟨w.heap.size + 1, 2, none⟩) (by simp)).trans (frozen_box_at (w.alloc (.cells #[.slice A n c] 42)) (w.heap.size + 1) (by simp) #[.int .i64 v.A, .int .i64 v.B, .int .i64 v.C] 59 2)
    have hx1 : Ext w w1 := ((((Ext.refl w).alloc _).alloc _).alloc _).trans hb1
    have bl := lt_of_cell b0
    have pl := lt_of_cell p0
    have hz1 := hb1.le
    simp at hz1
    go_wp2_with fail
    refine (HC.out _ (by repeat (first | exact Ext.refl _ | assumption | apply Ext.alloc | apply Ext.drewN | apply Ext.drew | (refine Ext.setCell ?_ (by first | (simp; done) | (simp; omega) | omega) _) | (refine Ext.trans ?_ (by assumption))))).mono ?_
    rintro e w5 ⟨A5, c5, l, rfl, hr, ho5, hy5, hb5⟩
    have HR := Lib.hid hr
    have HO5 := Lib.hid ho5
    have HY5 := Lib.hid hy5
    have hz5 := hb5.le
    simp at hz5
    clear hr ho5 hy5 p0 pf0 b0 b1 b2 bf0 bf1 bf2
    have hb15 : Ext w1 w5 := Ext.trans (by repeat (first | exact Ext.refl _ | assumption | apply Ext.alloc | apply Ext.drewN | apply Ext.drew | (refine Ext.setCell ?_ (by first | (simp; done) | (simp; omega) | omega) _) | (refine Ext.trans ?_ (by assumption)))) hb5
    have q0 := (hb1.trans hb15).cell (cell_box_at ((w.alloc (.cells #[.slice A n c] 42)).alloc (.cells #[.int .i64 v.A, .int .i64 v.B, .int .i64 v.C] 59)) (w.heap.size + 1 + 1) (by simp) [.slice none 0 0] 42 0 _ rfl)
    have qf0 := ((hb1.trans hb15).frozenEq (a := ⟨w.heap.size + 1 + 1, 0, none⟩) (by simp)).trans (frozen_box_at ((w.alloc (.cells #[.slice A n c] 42)).alloc (.cells #[.int .i64 v.A, .int .i64 v.B, .int .i64 v.C] 59)) (w.heap.size + 1 + 1) (by simp) #[.slice none 0 0] 42 0)
    have hq5 := lt_of_cell q0
    have hx5 : Ext w w5 := hx1.trans hb15
    go_wp2
    exact bodyPost_ret (v := .tuple #[.agg #[.slice A5 l.length c5], .bool R.isSome]) (by simp [results, Tryz.results135, go_sem, *]) rfl ⟨A5, c5, l, rfl, HR.out, owns_base (own_set HO5.out (by simp; omega)) (by simp; omega), HY5.out, (by repeat (first | exact Ext.refl _ | assumption | apply Ext.alloc | apply Ext.drewN | apply Ext.drew | (refine Ext.setCell ?_ (by first | (simp; done) | (simp; omega) | omega) _) | (refine Ext.trans ?_ (by assumption))))⟩
end Go.Proofs.YtgmlcohffdeplaaGreat
