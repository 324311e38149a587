/- Merged by mergelean.py: SDiff, SRes, SEmp. -/
import Derived.Test.YtfcffcgdbmkfgaaGreatSRoom1
import Derived.Test.YtfcffcgdbmkfgaaGreatMMoved
import Derived.Test.YtfcffcgdbmkfgaaGreatSCopy
import Derived.Test.YtfcffcgdbmkfgaaGreatMChg
import Derived.Deep.RegionHeld3
/-! SDiff -/
namespace Go.Proofs.YtfcffcgdbmkfgaaGreat
open Go.RowKit
set_option linter.unusedVariables false
set_option maxHeartbeats 8000000 in
set_option maxRecDepth 8000 in
theorem l04Diff_c (ps : List Int) (ns : List Node) (up : List Bool) (pl : List (List Pt)) (lic : List Pt) (j : Job) (xs : List Int) (D : Option Addr) (q f : Nat) (v : Value) (w : World) (h : RoomAt w ps ns up (pl, lic) v) (ht : topoB ps ns = true) (hu : up.length = ns.length) (hr : roomOkM ns.length (pl, lic)) (h3 : SlAt RInt 1 w D q xs) (hl3 : q ≤ maxLen) (hcap : q ≤ f) : Calls Tryz.prog 77 #[v, .agg #[.int .i64 j.Id, .int .i64 j.Prio, .int .i64 j.Nodes, .int .i64 j.Need.A, .int .i64 j.Need.B, .int .i64 j.Need.C, .int .i64 j.Lic.A, .int .i64 j.Lic.B, .int .i64 j.Lic.C, .int .i64 j.Wall, .int .i64 j.Level], .slice D q f] w (Ret w (.bool (jobB j && jobNodesB ns.length j xs))) := by
  have hl3' := hl3
  unfold maxLen at hl3
  obtain ⟨⟨_, hp1⟩, hn1, _⟩ := topo_parts ht
  have hM := Flat.mono encInt In64
  have HRO := Lib.hid (fun (u : World) (e : Ext w u) => sRoomOk_c ps ns up (pl, lic) v u (h.ext e) ht hu hr)
  have HJO := Lib.hid (fun (u : World) => sJobOk_c j u)
  obtain ⟨A1, c1, A2, c2, A3, c3, A4, c4, A5, c5, rfl, h1, h2, _, _, _⟩ := h
  have HNO := Lib.hid (fun (u : World) (e : Ext w u) => l02Nodes_c ps ns xs A1 ps.length c1 A2 ns.length c2 D q f u (h1.ext hM e) (by unfold maxLen; omega) (h2.ext (Flat.mono _ _) e) (by unfold maxLen; omega) (h3.ext hM e) hl3')
  rw [ht, Bool.and_true] at HNO
  have HC := Lib.hid (fun (u : World) (e : Ext w u) (k : Nat) (x : Int) (hk : k ≤ q) => l02Has_c (xs.take k) x D k f u ((h3.ext hM e).cutk hk) (by omega))
  have H3 := Lib.hid (fun (u : World) (e : Ext w u) => h3.ext hM e)
  have HJ := Lib.hid (show (jobB j && jobNodesB ns.length j xs) = (jobB j && (distGo [] xs && (nodesB ns.length xs && decide (((q : Nat) : Int) = j.Nodes)))) by unfold jobNodesB; rw [Bool.and_assoc (distGo [] xs), h3.len]; rfl)
  have HN := Lib.hid h3.len
  clear h1 h2 h3 ht hp1 hn1 hr hu
  generalize (jobB j && jobNodesB ns.length j xs) = R at *
  generalize hd0 : distGo [] xs = dg at *
  generalize nodesB ns.length xs = nb at *
  simp only [] at HRO ⊢
  rcases (Bool.eq_false_or_eq_true (jobB j)).symm with q1 | q1
  all_goals rw [q1] at HJO HJ
  · have HF := Lib.hid (show R = false by rw [HJ.out]; rfl)
    clear q1
    go_enter Tryz.func77, Tryz.ntmps77
    go_wp2_with fail
    refine (HRO.out _ (by repeat (first | exact Ext.refl _ | assumption | apply Ext.alloc | apply Ext.drewN | apply Ext.drew | (refine Ext.setCell ?_ (by first | (simp; done) | (simp; omega) | omega) _) | (refine Ext.trans ?_ (by assumption))))).mono ?_
    rintro e w1 ⟨rfl, hb1⟩
    obtain ⟨hcr1, hfr1, hz1⟩ := hb1.rules
    (try simp at hz1)
    have hy1_w0 : w.heap.size < w1.heap.size := (by omega)
    have hy1_w1 : w.heap.size + 1 < w1.heap.size := (by omega)
    go_wp2_with fail
    refine (HJO.out _).mono ?_
    rintro e w2 ⟨rfl, hb2⟩
    obtain ⟨hcr2, hfr2, hz2⟩ := hb2.rules
    (try simp at hz2)
    have hy2_w0 : w.heap.size < w2.heap.size := (by omega)
    have hy2_w1 : w.heap.size + 1 < w2.heap.size := (by omega)
    go_wp2
    exact ret_bool rfl rfl rfl (by rw [HF.out]) ((((Ext.refl w).alloc _).alloc _).trans (hb1.trans hb2))
  by_cases hlen : ((q : Nat) : Int) = j.Nodes
  rotate_left
  · have HF := Lib.hid (show R = false by rw [HJ.out, decide_eq_false hlen]; simp)
    clear q1
    go_enter Tryz.func77, Tryz.ntmps77
    go_wp2_with fail
    refine (HRO.out _ (by repeat (first | exact Ext.refl _ | assumption | apply Ext.alloc | apply Ext.drewN | apply Ext.drew | (refine Ext.setCell ?_ (by first | (simp; done) | (simp; omega) | omega) _) | (refine Ext.trans ?_ (by assumption))))).mono ?_
    rintro e w1 ⟨rfl, hb1⟩
    obtain ⟨hcr1, hfr1, hz1⟩ := hb1.rules
    (try simp at hz1)
    have hy1_w0 : w.heap.size < w1.heap.size := (by omega)
    have hy1_w1 : w.heap.size + 1 < w1.heap.size := (by omega)
    go_wp2_with fail
    refine (HJO.out _).mono ?_
    rintro e w2 ⟨rfl, hb2⟩
    obtain ⟨hcr2, hfr2, hz2⟩ := hb2.rules
    (try simp at hz2)
    have hy2_w0 : w.heap.size < w2.heap.size := (by omega)
    have hy2_w1 : w.heap.size + 1 < w2.heap.size := (by omega)
    have j2 := (hb1.trans hb2).cell (cell_box_at (w.alloc (.cells #[.slice A1 ps.length c1, .slice A2 ns.length c2, .slice A3 up.length c3, .slice A4 pl.length c4, .slice A5 lic.length c5] 98)) (w.heap.size + 1) (by simp) [.int .i64 j.Id, .int .i64 j.Prio, .int .i64 j.Nodes, .int .i64 j.Need.A, .int .i64 j.Need.B, .int .i64 j.Need.C, .int .i64 j.Lic.A, .int .i64 j.Lic.B, .int .i64 j.Lic.C, .int .i64 j.Wall, .int .i64 j.Level] 62 2 _ rfl)
    go_wp2
    exact ret_bool rfl rfl rfl (by rw [HF.out]) ((((Ext.refl w).alloc _).alloc _).trans (hb1.trans hb2))
  · rw [decide_eq_true hlen] at HJ
    obtain ⟨jid, jpr, jnd, jne, jli, jwa, jle⟩ := j
    dsimp only at hlen HJO HJ q1 ⊢
    subst hlen
    rcases nb with _ | _
    · have HF := Lib.hid (show R = false by rw [HJ.out]; simp)
      clear q1
      go_enter Tryz.func77, Tryz.ntmps77
      go_wp2_with fail
      refine (HRO.out _ (by repeat (first | exact Ext.refl _ | assumption | apply Ext.alloc | apply Ext.drewN | apply Ext.drew | (refine Ext.setCell ?_ (by first | (simp; done) | (simp; omega) | omega) _) | (refine Ext.trans ?_ (by assumption))))).mono ?_
      rintro e w1 ⟨rfl, hb1⟩
      obtain ⟨hcr1, hfr1, hz1⟩ := hb1.rules
      (try simp at hz1)
      have hy1_w0 : w.heap.size < w1.heap.size := (by omega)
      have hy1_w1 : w.heap.size + 1 < w1.heap.size := (by omega)
      go_wp2_with fail
      refine (HJO.out _).mono ?_
      rintro e w2 ⟨rfl, hb2⟩
      obtain ⟨hcr2, hfr2, hz2⟩ := hb2.rules
      (try simp at hz2)
      have hy2_w0 : w.heap.size < w2.heap.size := (by omega)
      have hy2_w1 : w.heap.size + 1 < w2.heap.size := (by omega)
      go_wp2_with fail
      refine (HNO.out _ (((((Ext.refl w).alloc _).alloc _).trans hb1).trans hb2)).mono ?_
      rintro e w3 ⟨rfl, hb3⟩
      obtain ⟨hcr3, hfr3, hz3⟩ := hb3.rules
      (try simp at hz3)
      have hy3_w0 : w.heap.size < w3.heap.size := (by omega)
      have hy3_w1 : w.heap.size + 1 < w3.heap.size := (by omega)
      go_wp2
      exact ret_bool rfl rfl rfl (by rw [HF.out]) ((((Ext.refl w).alloc _).alloc _).trans (hb1.trans (hb2.trans hb3)))
    · have HRD := Lib.hid (show R = dg by rw [HJ.out]; simp)
      clear q1
      go_enter Tryz.func77, Tryz.ntmps77
      go_wp2_with fail
      refine (HRO.out _ (by repeat (first | exact Ext.refl _ | assumption | apply Ext.alloc | apply Ext.drewN | apply Ext.drew | (refine Ext.setCell ?_ (by first | (simp; done) | (simp; omega) | omega) _) | (refine Ext.trans ?_ (by assumption))))).mono ?_
      rintro e w1 ⟨rfl, hb1⟩
      obtain ⟨hcr1, hfr1, hz1⟩ := hb1.rules
      (try simp at hz1)
      have hy1_w0 : w.heap.size < w1.heap.size := (by omega)
      have hy1_w1 : w.heap.size + 1 < w1.heap.size := (by omega)
      go_wp2_with fail
      refine (HJO.out _).mono ?_
      rintro e w2 ⟨rfl, hb2⟩
      obtain ⟨hcr2, hfr2, hz2⟩ := hb2.rules
      (try simp at hz2)
      have hy2_w0 : w.heap.size < w2.heap.size := (by omega)
      have hy2_w1 : w.heap.size + 1 < w2.heap.size := (by omega)
      go_wp2_with fail
      refine (HNO.out _ (((((Ext.refl w).alloc _).alloc _).trans hb1).trans hb2)).mono ?_
      rintro e w3 ⟨rfl, hb3⟩
      obtain ⟨hcr3, hfr3, hz3⟩ := hb3.rules
      (try simp at hz3)
      have hy3_w0 : w.heap.size < w3.heap.size := (by omega)
      have hy3_w1 : w.heap.size + 1 < w3.heap.size := (by omega)
      have HX3 := Lib.hid ((((Ext.refl w).alloc _).alloc _).trans (hb1.trans (hb2.trans hb3)))
      clear hcr1 hfr1 hcr2 hfr2 hcr3 hfr3 hb1 hb2 hb3
      go_wp2
      go_loopw [33] (fun iv wr => ∃ k : Nat, k ≤ q ∧ iv = .int .i64 k ∧ Hid (dg = distGo (xs.take k) (xs.drop k)) ∧ Ext w wr) (fun iv _ => q - (intOf iv).toNat)
      case atStart => exact ⟨0, Nat.zero_le _, rfl, Lib.hid hd0.symm, HX3.out⟩
      case round =>
        clear hd0 HX3
        obtain ⟨k, hk, rfl, HE, hb⟩ := hrel
        by_cases hlt : k < q
        · obtain ⟨b, o, x, cs, rfl, hbw, hx, _, hc, rfl, hok⟩ := (H3.out wr hb).at_ hlt
          have g0 := hc 0 _ rfl
          simp only [Nat.mul_one, Nat.add_zero] at g0
          have HS := Lib.hid (dist_step hx)
          have hkf : k ≤ f := by omega
          clear hx hc hok
          go_wp2_with fail
          refine (HC.out _ hb k x (by omega)).mono ?_
          rintro e w4 ⟨rfl, hb4⟩
          generalize (xs.take k).contains x = ct at *
          rcases ct with _ | _
          · go_wp2
            go_roundw
            case rel => exact ⟨k + 1, by omega, by go_num, Lib.hid (by rw [HE.out, HS.out]; rfl), hb.trans hb4⟩
            case measure => simp [intOf]; omega
          · go_wp2
            refine ret_bool rfl rfl rfl ?_ (hb.trans hb4)
            rw [HRD.out, HE.out, HS.out]; rfl
        · have HZ := Lib.hid (show dg = true by rw [HE.out, List.drop_eq_nil_of_le (by have := HN.out; omega)]; rfl)
          go_wp2
          exact ret_bool rfl rfl rfl (by rw [HRD.out, HZ.out]) hb
end Go.Proofs.YtfcffcgdbmkfgaaGreat
/-! SRes -/
namespace Go.Proofs.YtfcffcgdbmkfgaaGreat
open Go.RowKit
set_option linter.unusedVariables false
/-- A room or none is handed back, with a word that says which (RoomS). -/
def RetRoomSB (w : World) (ps : List Int) (ns : List Node) (up : List Bool) (R : Option (List (List Pt) × List Pt)) : Ending → World → Prop := fun e w' => ∃ A1 n1 c1 A2 n2 c2 A3 n3 c3 A4 n4 c4 A5 n5 c5, e = .returned (.tuple #[.agg #[.slice A1 n1 c1, .slice A2 n2 c2, .slice A3 n3 c3, .slice A4 n4 c4, .slice A5 n5 c5], .bool R.isSome]) ∧ (∀ r, R = some r → n1 = ps.length ∧ n2 = ns.length ∧ n3 = up.length ∧ n4 = r.1.length ∧ n5 = r.2.length ∧ RoomS w' w.heap.size ps ns up r A1 c1 A2 c2 A3 c3 A4 c4 A5 c5) ∧ Ext w w'
theorem retRoomS_none {w w' : World} {ps : List Int} {ns : List Node} {up : List Bool} {R : Option (List (List Pt) × List Pt)} (h : R = none) (hb : Ext w w') : RetRoomSB w ps ns up R (.returned (.tuple #[.agg #[.slice none 0 0, .slice none 0 0, .slice none 0 0, .slice none 0 0, .slice none 0 0], .bool false])) w' := by
  subst h
  exact ⟨none, 0, 0, none, 0, 0, none, 0, 0, none, 0, 0, none, 0, 0, rfl, (fun r hr => by cases hr), hb⟩
set_option maxHeartbeats 16000000 in
set_option maxRecDepth 10000 in
theorem sReserve_c (ps : List Int) (ns : List Node) (up : List Bool) (pl : List (List Pt)) (lic : List Pt) (j : Job) (fr : Int) (nodes : List Int) (A : Option Addr) (n c : Nat) (v : Value) (w : World) (h : RoomAt w ps ns up (pl, lic) v) (ht : topoB ps ns = true) (hu : up.length = ns.length) (hr : roomOkM ns.length (pl, lic)) (h3 : SlAt RInt 1 w A n nodes) (hl3 : n ≤ maxLen) (hcap : n ≤ c) (hfr : In64 fr) : Calls Tryz.prog 78 #[v, .agg #[.int .i64 j.Id, .int .i64 j.Prio, .int .i64 j.Nodes, .int .i64 j.Need.A, .int .i64 j.Need.B, .int .i64 j.Need.C, .int .i64 j.Lic.A, .int .i64 j.Lic.B, .int .i64 j.Lic.C, .int .i64 j.Wall, .int .i64 j.Level], .int .i64 fr, .slice A n c] w (RetRoomSB w ps ns up (if (jobB j && jobNodesB ns.length j nodes && timeB fr) = true then moveM fr (fr + j.Wall) j nodes (pl, lic) else none)) := by
  obtain ⟨⟨_, hp1⟩, hn1, _⟩ := topo_parts ht
  have hM := Flat.mono encInt In64
  have hpl := hr.1
  simp only [] at hpl
  have HDF := Lib.hid (fun (u : World) (e : Ext w u) => l04Diff_c ps ns up pl lic j nodes A n c v u (h.ext e) ht hu hr (h3.ext hM e) hl3 hcap)
  have HTI := Lib.hid (fun u : World => sTime_c fr u)
  have HCP := Lib.hid (fun (u : World) (e : Ext w u) => l04Copy_c ps ns up pl lic v u (h.ext e) hp1 hn1 (by omega) (by omega) (fun p hp => (profB_parts (hr.2.1 p hp)).2.1) (profB_parts hr.2.2).2.1)
  have HH := Lib.hid h
  obtain ⟨A1, c1, A2, c2, A3, c3, A4, c4, A5, c5, rfl, _, _, _, _, _⟩ := h
  have H3 := Lib.hid (fun (u : World) (e : Ext w u) => h3.ext hM e)
  have HNL := Lib.hid h3.len
  have HR := Lib.hid hr
  have HNI := Lib.hid (fun (hh : (jobB j && jobNodesB ns.length j nodes) = true) => show nodesIn ns.length nodes = true from by
    unfold jobNodesB at hh
    simp only [Bool.and_eq_true] at hh
    exact hh.2.1.2)
  have HJW := Lib.hid (fun (hh : (jobB j && jobNodesB ns.length j nodes) = true) => show jobB j = true from by
    rw [Bool.and_eq_true] at hh; exact hh.1)
  have hl3' := hl3
  unfold maxLen at hl3
  have HPLN := Lib.hid hpl
  clear h3 hr ht hpl hu
  rcases (Bool.eq_false_or_eq_true (jobB j && jobNodesB ns.length j nodes)).symm with hj | hj
  all_goals rw [hj] at HDF ⊢
  · go_enter Tryz.func78, Tryz.ntmps78
    go_wp2_with fail
    refine (HDF.out _ (by repeat (first | exact Ext.refl _ | assumption | apply Ext.alloc | apply Ext.drewN | apply Ext.drew | (refine Ext.setCell ?_ (by first | (simp; done) | (simp; omega) | omega) _) | (refine Ext.trans ?_ (by assumption))))).mono ?_
    rintro e w1 ⟨rfl, hb1⟩
    obtain ⟨hcr1, hfr1, hz1⟩ := hb1.rules
    (try simp at hz1)
    have hy1_w0 : w.heap.size < w1.heap.size := (by omega)
    have hy1_w1 : w.heap.size + 1 < w1.heap.size := (by omega)
    have hy1_w2 : w.heap.size + 1 + 1 < w1.heap.size := (by omega)
    have q0 := (hb1).cell (cell_box_at ((w.alloc (.cells #[.slice A1 ps.length c1, .slice A2 ns.length c2, .slice A3 up.length c3, .slice A4 pl.length c4, .slice A5 lic.length c5] 98)).alloc (.cells #[.int .i64 j.Id, .int .i64 j.Prio, .int .i64 j.Nodes, .int .i64 j.Need.A, .int .i64 j.Need.B, .int .i64 j.Need.C, .int .i64 j.Lic.A, .int .i64 j.Lic.B, .int .i64 j.Lic.C, .int .i64 j.Wall, .int .i64 j.Level] 62)) (w.heap.size + 1 + 1) (by simp) [.slice none 0 0, .slice none 0 0, .slice none 0 0, .slice none 0 0, .slice none 0 0] 98 0 _ rfl)
    have q1 := (hb1).cell (cell_box_at ((w.alloc (.cells #[.slice A1 ps.length c1, .slice A2 ns.length c2, .slice A3 up.length c3, .slice A4 pl.length c4, .slice A5 lic.length c5] 98)).alloc (.cells #[.int .i64 j.Id, .int .i64 j.Prio, .int .i64 j.Nodes, .int .i64 j.Need.A, .int .i64 j.Need.B, .int .i64 j.Need.C, .int .i64 j.Lic.A, .int .i64 j.Lic.B, .int .i64 j.Lic.C, .int .i64 j.Wall, .int .i64 j.Level] 62)) (w.heap.size + 1 + 1) (by simp) [.slice none 0 0, .slice none 0 0, .slice none 0 0, .slice none 0 0, .slice none 0 0] 98 1 _ rfl)
    have q2 := (hb1).cell (cell_box_at ((w.alloc (.cells #[.slice A1 ps.length c1, .slice A2 ns.length c2, .slice A3 up.length c3, .slice A4 pl.length c4, .slice A5 lic.length c5] 98)).alloc (.cells #[.int .i64 j.Id, .int .i64 j.Prio, .int .i64 j.Nodes, .int .i64 j.Need.A, .int .i64 j.Need.B, .int .i64 j.Need.C, .int .i64 j.Lic.A, .int .i64 j.Lic.B, .int .i64 j.Lic.C, .int .i64 j.Wall, .int .i64 j.Level] 62)) (w.heap.size + 1 + 1) (by simp) [.slice none 0 0, .slice none 0 0, .slice none 0 0, .slice none 0 0, .slice none 0 0] 98 2 _ rfl)
    have q3 := (hb1).cell (cell_box_at ((w.alloc (.cells #[.slice A1 ps.length c1, .slice A2 ns.length c2, .slice A3 up.length c3, .slice A4 pl.length c4, .slice A5 lic.length c5] 98)).alloc (.cells #[.int .i64 j.Id, .int .i64 j.Prio, .int .i64 j.Nodes, .int .i64 j.Need.A, .int .i64 j.Need.B, .int .i64 j.Need.C, .int .i64 j.Lic.A, .int .i64 j.Lic.B, .int .i64 j.Lic.C, .int .i64 j.Wall, .int .i64 j.Level] 62)) (w.heap.size + 1 + 1) (by simp) [.slice none 0 0, .slice none 0 0, .slice none 0 0, .slice none 0 0, .slice none 0 0] 98 3 _ rfl)
    have q4 := (hb1).cell (cell_box_at ((w.alloc (.cells #[.slice A1 ps.length c1, .slice A2 ns.length c2, .slice A3 up.length c3, .slice A4 pl.length c4, .slice A5 lic.length c5] 98)).alloc (.cells #[.int .i64 j.Id, .int .i64 j.Prio, .int .i64 j.Nodes, .int .i64 j.Need.A, .int .i64 j.Need.B, .int .i64 j.Need.C, .int .i64 j.Lic.A, .int .i64 j.Lic.B, .int .i64 j.Lic.C, .int .i64 j.Wall, .int .i64 j.Level] 62)) (w.heap.size + 1 + 1) (by simp) [.slice none 0 0, .slice none 0 0, .slice none 0 0, .slice none 0 0, .slice none 0 0] 98 4 _ rfl)
    have qf0 := ((hb1).frozenEq (a := ⟨w.heap.size + 1 + 1, 0, none⟩) (by simp)).trans (frozen_box_at ((w.alloc (.cells #[.slice A1 ps.length c1, .slice A2 ns.length c2, .slice A3 up.length c3, .slice A4 pl.length c4, .slice A5 lic.length c5] 98)).alloc (.cells #[.int .i64 j.Id, .int .i64 j.Prio, .int .i64 j.Nodes, .int .i64 j.Need.A, .int .i64 j.Need.B, .int .i64 j.Need.C, .int .i64 j.Lic.A, .int .i64 j.Lic.B, .int .i64 j.Lic.C, .int .i64 j.Wall, .int .i64 j.Level] 62)) (w.heap.size + 1 + 1) (by simp) #[.slice none 0 0, .slice none 0 0, .slice none 0 0, .slice none 0 0, .slice none 0 0] 98 0)
    have qf1 := ((hb1).frozenEq (a := ⟨w.heap.size + 1 + 1, 1, none⟩) (by simp)).trans (frozen_box_at ((w.alloc (.cells #[.slice A1 ps.length c1, .slice A2 ns.length c2, .slice A3 up.length c3, .slice A4 pl.length c4, .slice A5 lic.length c5] 98)).alloc (.cells #[.int .i64 j.Id, .int .i64 j.Prio, .int .i64 j.Nodes, .int .i64 j.Need.A, .int .i64 j.Need.B, .int .i64 j.Need.C, .int .i64 j.Lic.A, .int .i64 j.Lic.B, .int .i64 j.Lic.C, .int .i64 j.Wall, .int .i64 j.Level] 62)) (w.heap.size + 1 + 1) (by simp) #[.slice none 0 0, .slice none 0 0, .slice none 0 0, .slice none 0 0, .slice none 0 0] 98 1)
    have qf2 := ((hb1).frozenEq (a := ⟨w.heap.size + 1 + 1, 2, none⟩) (by simp)).trans (frozen_box_at ((w.alloc (.cells #[.slice A1 ps.length c1, .slice A2 ns.length c2, .slice A3 up.length c3, .slice A4 pl.length c4, .slice A5 lic.length c5] 98)).alloc (.cells #[.int .i64 j.Id, .int .i64 j.Prio, .int .i64 j.Nodes, .int .i64 j.Need.A, .int .i64 j.Need.B, .int .i64 j.Need.C, .int .i64 j.Lic.A, .int .i64 j.Lic.B, .int .i64 j.Lic.C, .int .i64 j.Wall, .int .i64 j.Level] 62)) (w.heap.size + 1 + 1) (by simp) #[.slice none 0 0, .slice none 0 0, .slice none 0 0, .slice none 0 0, .slice none 0 0] 98 2)
    have qf3 := ((hb1).frozenEq (a := ⟨w.heap.size + 1 + 1, 3, none⟩) (by simp)).trans (frozen_box_at ((w.alloc (.cells #[.slice A1 ps.length c1, .slice A2 ns.length c2, .slice A3 up.length c3, .slice A4 pl.length c4, .slice A5 lic.length c5] 98)).alloc (.cells #[.int .i64 j.Id, .int .i64 j.Prio, .int .i64 j.Nodes, .int .i64 j.Need.A, .int .i64 j.Need.B, .int .i64 j.Need.C, .int .i64 j.Lic.A, .int .i64 j.Lic.B, .int .i64 j.Lic.C, .int .i64 j.Wall, .int .i64 j.Level] 62)) (w.heap.size + 1 + 1) (by simp) #[.slice none 0 0, .slice none 0 0, .slice none 0 0, .slice none 0 0, .slice none 0 0] 98 3)
    have qf4 := ((hb1).frozenEq (a := ⟨w.heap.size + 1 + 1, 4, none⟩) (by simp)).trans (frozen_box_at ((w.alloc (.cells #[.slice A1 ps.length c1, .slice A2 ns.length c2, .slice A3 up.length c3, .slice A4 pl.length c4, .slice A5 lic.length c5] 98)).alloc (.cells #[.int .i64 j.Id, .int .i64 j.Prio, .int .i64 j.Nodes, .int .i64 j.Need.A, .int .i64 j.Need.B, .int .i64 j.Need.C, .int .i64 j.Lic.A, .int .i64 j.Lic.B, .int .i64 j.Lic.C, .int .i64 j.Wall, .int .i64 j.Level] 62)) (w.heap.size + 1 + 1) (by simp) #[.slice none 0 0, .slice none 0 0, .slice none 0 0, .slice none 0 0, .slice none 0 0] 98 4)
    have hql := lt_of_cell q0
    have HXF := Lib.hid (((((Ext.refl w).alloc _).alloc _).alloc _).trans hb1)
    clear HDF HTI HCP HH H3 HNL HR HNI HJW HPLN hcr1 hfr1 hb1
    go_wp2
    exact bodyPost_ret (v := .tuple #[.agg #[.slice none 0 0, .slice none 0 0, .slice none 0 0, .slice none 0 0, .slice none 0 0], .bool false]) (by simp [results, Tryz.results78, go_sem, *]) rfl (retRoomS_none rfl (HXF.out.five (by omega) _ _ _ _ _))
  rcases (Bool.eq_false_or_eq_true (timeB fr)).symm with hn | hn
  all_goals rw [hn] at HTI ⊢
  · go_enter Tryz.func78, Tryz.ntmps78
    go_wp2_with fail
    refine (HDF.out _ (by repeat (first | exact Ext.refl _ | assumption | apply Ext.alloc | apply Ext.drewN | apply Ext.drew | (refine Ext.setCell ?_ (by first | (simp; done) | (simp; omega) | omega) _) | (refine Ext.trans ?_ (by assumption))))).mono ?_
    rintro e w1 ⟨rfl, hb1⟩
    obtain ⟨hcr1, hfr1, hz1⟩ := hb1.rules
    (try simp at hz1)
    have hy1_w0 : w.heap.size < w1.heap.size := (by omega)
    have hy1_w1 : w.heap.size + 1 < w1.heap.size := (by omega)
    have hy1_w2 : w.heap.size + 1 + 1 < w1.heap.size := (by omega)
    go_wp2_with fail
    refine (HTI.out _).mono ?_
    rintro e w2 ⟨rfl, rfl⟩
    have q0 := (hb1).cell (cell_box_at ((w.alloc (.cells #[.slice A1 ps.length c1, .slice A2 ns.length c2, .slice A3 up.length c3, .slice A4 pl.length c4, .slice A5 lic.length c5] 98)).alloc (.cells #[.int .i64 j.Id, .int .i64 j.Prio, .int .i64 j.Nodes, .int .i64 j.Need.A, .int .i64 j.Need.B, .int .i64 j.Need.C, .int .i64 j.Lic.A, .int .i64 j.Lic.B, .int .i64 j.Lic.C, .int .i64 j.Wall, .int .i64 j.Level] 62)) (w.heap.size + 1 + 1) (by simp) [.slice none 0 0, .slice none 0 0, .slice none 0 0, .slice none 0 0, .slice none 0 0] 98 0 _ rfl)
    have q1 := (hb1).cell (cell_box_at ((w.alloc (.cells #[.slice A1 ps.length c1, .slice A2 ns.length c2, .slice A3 up.length c3, .slice A4 pl.length c4, .slice A5 lic.length c5] 98)).alloc (.cells #[.int .i64 j.Id, .int .i64 j.Prio, .int .i64 j.Nodes, .int .i64 j.Need.A, .int .i64 j.Need.B, .int .i64 j.Need.C, .int .i64 j.Lic.A, .int .i64 j.Lic.B, .int .i64 j.Lic.C, .int .i64 j.Wall, .int .i64 j.Level] 62)) (w.heap.size + 1 + 1) (by simp) [.slice none 0 0, .slice none 0 0, .slice none 0 0, .slice none 0 0, .slice none 0 0] 98 1 _ rfl)
    have q2 := (hb1).cell (cell_box_at ((w.alloc (.cells #[.slice A1 ps.length c1, .slice A2 ns.length c2, .slice A3 up.length c3, .slice A4 pl.length c4, .slice A5 lic.length c5] 98)).alloc (.cells #[.int .i64 j.Id, .int .i64 j.Prio, .int .i64 j.Nodes, .int .i64 j.Need.A, .int .i64 j.Need.B, .int .i64 j.Need.C, .int .i64 j.Lic.A, .int .i64 j.Lic.B, .int .i64 j.Lic.C, .int .i64 j.Wall, .int .i64 j.Level] 62)) (w.heap.size + 1 + 1) (by simp) [.slice none 0 0, .slice none 0 0, .slice none 0 0, .slice none 0 0, .slice none 0 0] 98 2 _ rfl)
    have q3 := (hb1).cell (cell_box_at ((w.alloc (.cells #[.slice A1 ps.length c1, .slice A2 ns.length c2, .slice A3 up.length c3, .slice A4 pl.length c4, .slice A5 lic.length c5] 98)).alloc (.cells #[.int .i64 j.Id, .int .i64 j.Prio, .int .i64 j.Nodes, .int .i64 j.Need.A, .int .i64 j.Need.B, .int .i64 j.Need.C, .int .i64 j.Lic.A, .int .i64 j.Lic.B, .int .i64 j.Lic.C, .int .i64 j.Wall, .int .i64 j.Level] 62)) (w.heap.size + 1 + 1) (by simp) [.slice none 0 0, .slice none 0 0, .slice none 0 0, .slice none 0 0, .slice none 0 0] 98 3 _ rfl)
    have q4 := (hb1).cell (cell_box_at ((w.alloc (.cells #[.slice A1 ps.length c1, .slice A2 ns.length c2, .slice A3 up.length c3, .slice A4 pl.length c4, .slice A5 lic.length c5] 98)).alloc (.cells #[.int .i64 j.Id, .int .i64 j.Prio, .int .i64 j.Nodes, .int .i64 j.Need.A, .int .i64 j.Need.B, .int .i64 j.Need.C, .int .i64 j.Lic.A, .int .i64 j.Lic.B, .int .i64 j.Lic.C, .int .i64 j.Wall, .int .i64 j.Level] 62)) (w.heap.size + 1 + 1) (by simp) [.slice none 0 0, .slice none 0 0, .slice none 0 0, .slice none 0 0, .slice none 0 0] 98 4 _ rfl)
    have qf0 := ((hb1).frozenEq (a := ⟨w.heap.size + 1 + 1, 0, none⟩) (by simp)).trans (frozen_box_at ((w.alloc (.cells #[.slice A1 ps.length c1, .slice A2 ns.length c2, .slice A3 up.length c3, .slice A4 pl.length c4, .slice A5 lic.length c5] 98)).alloc (.cells #[.int .i64 j.Id, .int .i64 j.Prio, .int .i64 j.Nodes, .int .i64 j.Need.A, .int .i64 j.Need.B, .int .i64 j.Need.C, .int .i64 j.Lic.A, .int .i64 j.Lic.B, .int .i64 j.Lic.C, .int .i64 j.Wall, .int .i64 j.Level] 62)) (w.heap.size + 1 + 1) (by simp) #[.slice none 0 0, .slice none 0 0, .slice none 0 0, .slice none 0 0, .slice none 0 0] 98 0)
    have qf1 := ((hb1).frozenEq (a := ⟨w.heap.size + 1 + 1, 1, none⟩) (by simp)).trans (frozen_box_at ((w.alloc (.cells #[.slice A1 ps.length c1, .slice A2 ns.length c2, .slice A3 up.length c3, .slice A4 pl.length c4, .slice A5 lic.length c5] 98)).alloc (.cells #[.int .i64 j.Id, .int .i64 j.Prio, .int .i64 j.Nodes, .int .i64 j.Need.A, .int .i64 j.Need.B, .int .i64 j.Need.C, .int .i64 j.Lic.A, .int .i64 j.Lic.B, .int .i64 j.Lic.C, .int .i64 j.Wall, .int .i64 j.Level] 62)) (w.heap.size + 1 + 1) (by simp) #[.slice none 0 0, .slice none 0 0, .slice none 0 0, .slice none 0 0, .slice none 0 0] 98 1)
    have qf2 := ((hb1).frozenEq (a := ⟨w.heap.size + 1 + 1, 2, none⟩) (by simp)).trans (frozen_box_at ((w.alloc (.cells #[.slice A1 ps.length c1, .slice A2 ns.length c2, .slice A3 up.length c3, .slice A4 pl.length c4, .slice A5 lic.length c5] 98)).alloc (.cells #[.int .i64 j.Id, .int .i64 j.Prio, .int .i64 j.Nodes, .int .i64 j.Need.A, .int .i64 j.Need.B, .int .i64 j.Need.C, .int .i64 j.Lic.A, .int .i64 j.Lic.B, .int .i64 j.Lic.C, .int .i64 j.Wall, .int .i64 j.Level] 62)) (w.heap.size + 1 + 1) (by simp) #[.slice none 0 0, .slice none 0 0, .slice none 0 0, .slice none 0 0, .slice none 0 0] 98 2)
    have qf3 := ((hb1).frozenEq (a := ⟨w.heap.size + 1 + 1, 3, none⟩) (by simp)).trans (frozen_box_at ((w.alloc (.cells #[.slice A1 ps.length c1, .slice A2 ns.length c2, .slice A3 up.length c3, .slice A4 pl.length c4, .slice A5 lic.length c5] 98)).alloc (.cells #[.int .i64 j.Id, .int .i64 j.Prio, .int .i64 j.Nodes, .int .i64 j.Need.A, .int .i64 j.Need.B, .int .i64 j.Need.C, .int .i64 j.Lic.A, .int .i64 j.Lic.B, .int .i64 j.Lic.C, .int .i64 j.Wall, .int .i64 j.Level] 62)) (w.heap.size + 1 + 1) (by simp) #[.slice none 0 0, .slice none 0 0, .slice none 0 0, .slice none 0 0, .slice none 0 0] 98 3)
    have qf4 := ((hb1).frozenEq (a := ⟨w.heap.size + 1 + 1, 4, none⟩) (by simp)).trans (frozen_box_at ((w.alloc (.cells #[.slice A1 ps.length c1, .slice A2 ns.length c2, .slice A3 up.length c3, .slice A4 pl.length c4, .slice A5 lic.length c5] 98)).alloc (.cells #[.int .i64 j.Id, .int .i64 j.Prio, .int .i64 j.Nodes, .int .i64 j.Need.A, .int .i64 j.Need.B, .int .i64 j.Need.C, .int .i64 j.Lic.A, .int .i64 j.Lic.B, .int .i64 j.Lic.C, .int .i64 j.Wall, .int .i64 j.Level] 62)) (w.heap.size + 1 + 1) (by simp) #[.slice none 0 0, .slice none 0 0, .slice none 0 0, .slice none 0 0, .slice none 0 0] 98 4)
    have hql := lt_of_cell q0
    have HXF := Lib.hid (((((Ext.refl w).alloc _).alloc _).alloc _).trans hb1)
    clear HDF HTI HCP HH H3 HNL HR HNI HJW HPLN hcr1 hfr1 hb1
    go_wp2
    exact bodyPost_ret (v := .tuple #[.agg #[.slice none 0 0, .slice none 0 0, .slice none 0 0, .slice none 0 0, .slice none 0 0], .bool false]) (by simp [results, Tryz.results78, go_sem, *]) rfl (retRoomS_none rfl (HXF.out.five (by omega) _ _ _ _ _))
  · have HNN := Lib.hid (HNI.out hj)
    simp only [Bool.and_self, if_true]
    have HMV := Lib.hid (show moveM fr (fr + j.Wall) j nodes (pl, lic) = (match takeAll fr (fr + j.Wall) j.Need nodes pl with
      | none => none
      | some ps => match takeQ lic fr (fr + j.Wall) j.Lic with
        | none => none
        | some l => some (ps, l)) from rfl)
    generalize moveM fr (fr + j.Wall) j nodes (pl, lic) = R at *
    have hwr0 : IntKind.i64.wrap (fr + j.Wall) = fr + j.Wall := by
      have h1 := jobB_wall (HJW.out hj)
      unfold timeB at hn
      rw [decide_eq_true_iff] at hn
      exact IntWalk.i64_in _ ⟨by omega, by omega⟩
    clear hn
    obtain ⟨te, hwr, hte⟩ : ∃ te, IntKind.i64.wrap (fr + j.Wall) = te ∧ te = fr + j.Wall   := ⟨_, hwr0, rfl⟩
    rw [← hte] at HMV
    clear hte hwr0
    go_enter Tryz.func78, Tryz.ntmps78
    go_wp2_with fail
    refine (HDF.out _ (by repeat (first | exact Ext.refl _ | assumption | apply Ext.alloc | apply Ext.drewN | apply Ext.drew | (refine Ext.setCell ?_ (by first | (simp; done) | (simp; omega) | omega) _) | (refine Ext.trans ?_ (by assumption))))).mono ?_
    rintro e w1 ⟨rfl, hb1⟩
    obtain ⟨hcr1, hfr1, hz1⟩ := hb1.rules
    (try simp at hz1)
    have hy1_w0 : w.heap.size < w1.heap.size := (by omega)
    have hy1_w1 : w.heap.size + 1 < w1.heap.size := (by omega)
    have hy1_w2 : w.heap.size + 1 + 1 < w1.heap.size := (by omega)
    go_wp2_with fail
    refine (HTI.out _).mono ?_
    rintro e w2 ⟨rfl, rfl⟩
    have hx3 : Ext w w1 := (by repeat (first | exact Ext.refl _ | assumption | apply Ext.alloc | apply Ext.drewN | apply Ext.drew | (refine Ext.setCell ?_ (by first | (simp; done) | (simp; omega) | omega) _) | (refine Ext.trans ?_ (by assumption))))
    go_wp2_with fail
    refine (HCP.out _ hx3).mono ?_
    rintro e w5 ⟨B1, d1, B2, d2, B3, d3, B4, d4, B5, d5, rfl, hro, hb5⟩
    have HRM := Lib.hid hro
    have hx5 : Ext w w5 := hx3.trans hb5
    have HX5 := Lib.hid (show Ext (((w.alloc (.cells #[.slice A1 ps.length c1, .slice A2 ns.length c2, .slice A3 up.length c3, .slice A4 pl.length c4, .slice A5 lic.length c5] 98)).alloc (.cells #[.int .i64 j.Id, .int .i64 j.Prio, .int .i64 j.Nodes, .int .i64 j.Need.A, .int .i64 j.Need.B, .int .i64 j.Need.C, .int .i64 j.Lic.A, .int .i64 j.Lic.B, .int .i64 j.Lic.C, .int .i64 j.Wall, .int .i64 j.Level] 62)).alloc (.cells #[.slice none 0 0, .slice none 0 0, .slice none 0 0, .slice none 0 0, .slice none 0 0] 98)) w5 from hb1.trans hb5)
    have hz5 := hb5.le
    have hz9 : w.heap.size + 1 + 1 + 1 ≤ w1.heap.size := by omega
    have HRB := Lib.hid (hro.base (lo' := w.heap.size + 1 + 1 + 1) hz9)
    clear hro hcr1 hfr1 hb1 hb5 hx3
    have HBX5 := Lib.hid (show (w5.alloc (.cells #[.slice B1 ps.length d1, .slice B2 ns.length d2, .slice B3 up.length d3, .slice B4 pl.length d4, .slice B5 lic.length d5] 98)).ownsRow (w.heap.size + 1 + 1 + 1) 98 5 (.slice (some ⟨w5.heap.size, 0, none⟩) 1 1) 1 [.slice B1 ps.length d1, .slice B2 ns.length d2, .slice B3 up.length d3, .slice B4 pl.length d4, .slice B5 lic.length d5] from owns_base (gbox w5 [.slice B1 ps.length d1, .slice B2 ns.length d2, .slice B3 up.length d3, .slice B4 pl.length d4, .slice B5 lic.length d5] 98 5 rfl) (by omega))
    have hzb : (w.heap.size + 1 + 1 + 1) ≤ w5.heap.size := by omega
    go_wp2
    go_loopw [32] (fun iv wr => ∃ (k : Nat) (ql : List (List Pt)), k ≤ n ∧ iv = .int .i64 k ∧ Hid (takeAll fr te j.Need nodes pl = takeAll fr te j.Need (nodes.drop k) ql) ∧ Hid (RoomS wr (w.heap.size + 1 + 1 + 1) ps ns up (ql, lic) B1 d1 B2 d2 B3 d3 B4 d4 B5 d5) ∧ Hid (ql.length = ns.length ∧ ∀ p ∈ ql, profB p = true) ∧ Hid (wr.ownsRow (w.heap.size + 1 + 1 + 1) 98 5 (.slice (some ⟨w5.heap.size, 0, none⟩) 1 1) 1 [.slice B1 ps.length d1, .slice B2 ns.length d2, .slice B3 up.length d3, .slice B4 pl.length d4, .slice B5 lic.length d5]) ∧ Ext (((w.alloc (.cells #[.slice A1 ps.length c1, .slice A2 ns.length c2, .slice A3 up.length c3, .slice A4 pl.length c4, .slice A5 lic.length c5] 98)).alloc (.cells #[.int .i64 j.Id, .int .i64 j.Prio, .int .i64 j.Nodes, .int .i64 j.Need.A, .int .i64 j.Need.B, .int .i64 j.Need.C, .int .i64 j.Lic.A, .int .i64 j.Lic.B, .int .i64 j.Lic.C, .int .i64 j.Wall, .int .i64 j.Level] 62)).alloc (.cells #[.slice none 0 0, .slice none 0 0, .slice none 0 0, .slice none 0 0, .slice none 0 0] 98)) wr) (fun iv _ => n - (intOf iv).toNat)
    case atStart => exact ⟨0, pl, Nat.zero_le _, rfl, Lib.hid rfl, Lib.hid (HRB.out.ext ((Ext.refl _).alloc _)), Lib.hid ⟨HPLN.out, HR.out.2.1⟩, HBX5, HX5.out.alloc _⟩
    case round =>
      clear HBX5 hx5 HCP HDF HTI HH HNI HJW HRM HRB hy1_w0 hy1_w1 hy1_w2 hz1 hz5 hM hl3'
      obtain ⟨k, ql, hk, rfl, HTA, HRO2, HQ, HBX, hb⟩ := hrel
      by_cases hlt : k < n
      · obtain ⟨bq, oq, x, cs, rfl, hbw, hx2, _, hc, rfl, hok⟩ := (H3.out wr ((((((Ext.refl w).alloc _).alloc _).alloc _)).trans hb)).at_ hlt
        have g0 := hc 0 _ rfl
        simp only [Nat.mul_one, Nat.add_zero] at g0
        have HST := Lib.hid (take_step (fr := fr) (te := te) (v := j.Need) (pl := ql) hx2)
        obtain ⟨hxa, hxb⟩ := nodesIn_at HNN.out (List.mem_of_getElem? hx2)
        obtain ⟨i, rfl⟩ := Int.eq_ofNat_of_zero_le hxa
        obtain ⟨p, hp⟩ : ∃ p, ql[i]? = some p := ⟨_, List.getElem?_eq_getElem (by have := HQ.out.1; omega)⟩
        obtain ⟨g, rfl, hg1, hg2⟩ := HRO2.out.pro.form (by have := HQ.out.1; simp only []; omega)
        obtain ⟨Ap, cp, hcell, hsp, hfz, _, _⟩ := HRO2.out.pro.get hp
        have HPV := Lib.hid (HQ.out.2 p (List.mem_of_getElem? hp))
        have hpl200 := (profB_parts HPV.out).2.1
        have HTK := Lib.hid (fun (u : World) (e : Ext wr u) => sProfTake_c p fr te j.Need Ap p.length cp u (hsp.ext (Flat.mono _ _) e) (by unfold maxLen; omega))
        have HIL := Lib.hid (show (i : Int) < (pl.length : Int) by rw [HPLN.out]; omega)
        have hil := HIL.out
        have HII := Lib.hid (show i < ql.length by have h1 := HQ.out.1; omega)
        have hil2 : i < pl.length := by omega
        have HGD := Lib.hid (show ql.getD ((i : Int)).toNat [] = p by simp [List.getD, hp])
        rw [HGD.out] at HST
        have HTV := Lib.hid (fun (o : List Pt) (h : takeQ p fr te j.Need = some o) => takeQ_valid h)
        generalize takeQ p fr te j.Need = tq at *
        obtain ⟨t0, t1, t2, t3, t4, tf0, tf1, tf2, tf3, tf4, tl⟩ := gcells5 HBX.out
        have hx2b := HX5.out
        have hbw2 := hb
        have j3 := (((Ext.refl _).alloc _).trans hb).cell (cell_box_at (w.alloc (.cells #[.slice A1 ps.length c1, .slice A2 ns.length c2, .slice A3 up.length c3, .slice A4 pl.length c4, .slice A5 lic.length c5] 98)) (w.heap.size + 1) (by simp) [.int .i64 j.Id, .int .i64 j.Prio, .int .i64 j.Nodes, .int .i64 j.Need.A, .int .i64 j.Need.B, .int .i64 j.Need.C, .int .i64 j.Lic.A, .int .i64 j.Lic.B, .int .i64 j.Lic.C, .int .i64 j.Wall, .int .i64 j.Level] 62 3 _ rfl)
        have j4 := (((Ext.refl _).alloc _).trans hb).cell (cell_box_at (w.alloc (.cells #[.slice A1 ps.length c1, .slice A2 ns.length c2, .slice A3 up.length c3, .slice A4 pl.length c4, .slice A5 lic.length c5] 98)) (w.heap.size + 1) (by simp) [.int .i64 j.Id, .int .i64 j.Prio, .int .i64 j.Nodes, .int .i64 j.Need.A, .int .i64 j.Need.B, .int .i64 j.Need.C, .int .i64 j.Lic.A, .int .i64 j.Lic.B, .int .i64 j.Lic.C, .int .i64 j.Wall, .int .i64 j.Level] 62 4 _ rfl)
        have j5 := (((Ext.refl _).alloc _).trans hb).cell (cell_box_at (w.alloc (.cells #[.slice A1 ps.length c1, .slice A2 ns.length c2, .slice A3 up.length c3, .slice A4 pl.length c4, .slice A5 lic.length c5] 98)) (w.heap.size + 1) (by simp) [.int .i64 j.Id, .int .i64 j.Prio, .int .i64 j.Nodes, .int .i64 j.Need.A, .int .i64 j.Need.B, .int .i64 j.Need.C, .int .i64 j.Lic.A, .int .i64 j.Lic.B, .int .i64 j.Lic.C, .int .i64 j.Wall, .int .i64 j.Level] 62 5 _ rfl)
        have j9 := (((Ext.refl _).alloc _).trans hb).cell (cell_box_at (w.alloc (.cells #[.slice A1 ps.length c1, .slice A2 ns.length c2, .slice A3 up.length c3, .slice A4 pl.length c4, .slice A5 lic.length c5] 98)) (w.heap.size + 1) (by simp) [.int .i64 j.Id, .int .i64 j.Prio, .int .i64 j.Nodes, .int .i64 j.Need.A, .int .i64 j.Need.B, .int .i64 j.Need.C, .int .i64 j.Lic.A, .int .i64 j.Lic.B, .int .i64 j.Lic.C, .int .i64 j.Wall, .int .i64 j.Level] 62 9 _ rfl)
        have hj3 := lt_of_cell j3
        have HCELL := Lib.hid hcell
        have HFZ := Lib.hid hfz
        have HT3 := Lib.hid t3
        have HLW := Lib.hid (show (w.heap.size + 1 + 1 + 1) ≤ wr.heap.size from by have := hb.le; simp at this; omega)
        clear hx2 hc hok hsp hp hx2b t0 t1 t2 t4 tf0 tf1 tf2 tf4 hbw2
        have HKS := Lib.hid (fun (u : World) (e : Ext wr u) => show Ext wr u ∧ u.cell? ⟨w5.heap.size, 3, none⟩ = some (.slice (some ⟨g, 0, none⟩) pl.length d4) ∧ u.cell? ⟨g, i, none⟩ = some (.slice Ap p.length cp) ∧ u.cell? ⟨w.heap.size + 1, 3, none⟩ = some (.int .i64 j.Need.A) ∧ u.cell? ⟨w.heap.size + 1, 4, none⟩ = some (.int .i64 j.Need.B) ∧ u.cell? ⟨w.heap.size + 1, 5, none⟩ = some (.int .i64 j.Need.C) ∧ u.cell? ⟨w.heap.size + 1, 9, none⟩ = some (.int .i64 j.Wall) from ⟨e, e.cell HT3.out, e.cell HCELL.out, e.cell j3, e.cell j4, e.cell j5, e.cell j9⟩)
        go_upto_region 7 with fail
        go_cut [13, 14, 32] from 32 to 60 (fun s13 s14 s32 wx => ∃ bz A6 c6 n6, s13 = .pointer (some ⟨bz, 0, none⟩) ∧ s14 = .bool tq.isSome ∧ s32 = .int .i64 (k : Int) ∧ wr.heap.size ≤ bz ∧ Hid (∀ l, tq = some l → n6 = l.length ∧ wx.ownsRow (w.heap.size + 1 + 1 + 1) 150 4 (.slice A6 l.length c6) l.length (l.flatMap Pt.enc) ∧ ∀ y ∈ l, y.ok) ∧ Hid (wx.ownsRow wr.heap.size 96 1 (.slice (some ⟨bz, 0, none⟩) 1 1) 1 [.slice A6 n6 c6]) ∧ Ext wr wx)
        case first =>
          go_region_held3 (fun u => Ext wr u ∧ u.cell? ⟨w5.heap.size, 3, none⟩ = some (.slice (some ⟨g, 0, none⟩) pl.length d4) ∧ u.cell? ⟨g, i, none⟩ = some (.slice Ap p.length cp) ∧ u.cell? ⟨w.heap.size + 1, 3, none⟩ = some (.int .i64 j.Need.A) ∧ u.cell? ⟨w.heap.size + 1, 4, none⟩ = some (.int .i64 j.Need.B) ∧ u.cell? ⟨w.heap.size + 1, 5, none⟩ = some (.int .i64 j.Need.C) ∧ u.cell? ⟨w.heap.size + 1, 9, none⟩ = some (.int .i64 j.Wall)) ((refine HKS.out _ ?_; first | exact (Ext.refl _).drew | assumption | exact ((Ext.refl _).drew).alloc _ | exact HE6.out | exact HE6.out.alloc _ | exact HE6.out.setCell (Nat.le_refl _) _)) (first | (go_at_call 104; (with_reducible refine (HTK.out _ (by repeat (first | exact Ext.refl _ | apply Ext.alloc | apply Ext.drew))).mono ?_); rintro e w6 ⟨A6, c6, l, rfl, hR6, ho6, hy6, hb6⟩; have HE6 := Lib.hid (show Ext wr w6 from Ext.trans (by repeat (first | exact Ext.refl _ | apply Ext.alloc | apply Ext.drew)) hb6); have hl6 := HE6.out.le; have HO6 := Lib.hid (owns_base ho6 (show (w.heap.size + 1 + 1 + 1) ≤ _ from (by first | omega | (simp; omega)))); have HR6 := Lib.hid hR6; (first | (have HB6 := Lib.hid (owns_ext (gbox wr [.slice none 0 0] 96 1 rfl) hb6); obtain ⟨m0, mf0, ml0⟩ := gcells1 HB6.out) | (have HB6 := Lib.hid (owns_ext (gbox wr [.slice none 0 0] 96 1 rfl) (((Ext.refl _).drew).trans hb6)); obtain ⟨m0, mf0, ml0⟩ := gcells1 HB6.out) | skip); clear hR6 ho6))
          all_goals
            go_wp2_with fail
            go_meet
            first
              | exact ⟨_, A6, c6, l.length, rfl, rfl, rfl, by first | omega | (simp; omega), Lib.hid (fun l2 h2 => by rcases HR6.out with h6 | ⟨h6, _⟩; (rw [h6] at h2; injection h2 with h2; subst h2; exact ⟨rfl, owns_ext HO6.out ((Ext.refl _).alloc _), hy6⟩); (rw [h6] at h2; cases h2)), Lib.hid (owns_base (gbox w6 [.slice A6 l.length c6] 96 1 rfl) hl6), HE6.out.alloc _⟩
              | exact ⟨_, A6, c6, l.length, rfl, rfl, rfl, Nat.le_refl _, Lib.hid (fun l2 h2 => by rcases HR6.out with h6 | ⟨h6, _⟩; (rw [h6] at h2; injection h2 with h2; subst h2; exact ⟨rfl, g_far HO6.out (fun e => g_apart HO6.out HB6.out (by decide) _ e rfl), hy6⟩); (rw [h6] at h2; cases h2)), Lib.hid (HB6.out.stored 0 _).1, HE6.out.setCell (Nat.le_refl _) _⟩
        case rest =>
          obtain ⟨bz, A6, c6, n6, rfl, rfl, rfl, hbz, HFT, HFB, hx⟩ := hcut
          have hlz := HLW.out
          have hbz1 : w5.heap.size ≠ bz := by omega
          have hbz2 : g ≠ bz := by omega
          have hbz3 : w.heap.size + 1 + 1 ≠ bz := by omega
          have HBW := Lib.hid (hb.trans hx)
          have hxz := hx.le
          obtain ⟨m0, mf0, ml0⟩ := gcells1 HFB.out
          clear hcell hfz t3 tf3 j3 j4 j5 j9
          rcases tq with _ | l
          · have HRN := Lib.hid (show R = none by rw [HMV.out, HTA.out, HST.out])
            have HXF := Lib.hid (((((Ext.refl w).alloc _).alloc _).alloc _).trans (hb.trans hx))
            clear hb hx
            clear tl hg2 HFT HFB HRO2 HBX HTK HKS HST HTA HQ HCELL HFZ HT3 HGD HTV HPV HIL HNN HX5 HPLN HR H3 HMV m0 mf0 ml0 hil hil2
            have q0 := (HBW.out).cell (cell_box_at ((w.alloc (.cells #[.slice A1 ps.length c1, .slice A2 ns.length c2, .slice A3 up.length c3, .slice A4 pl.length c4, .slice A5 lic.length c5] 98)).alloc (.cells #[.int .i64 j.Id, .int .i64 j.Prio, .int .i64 j.Nodes, .int .i64 j.Need.A, .int .i64 j.Need.B, .int .i64 j.Need.C, .int .i64 j.Lic.A, .int .i64 j.Lic.B, .int .i64 j.Lic.C, .int .i64 j.Wall, .int .i64 j.Level] 62)) (w.heap.size + 1 + 1) (by simp) [.slice none 0 0, .slice none 0 0, .slice none 0 0, .slice none 0 0, .slice none 0 0] 98 0 _ rfl)
            have q1 := (HBW.out).cell (cell_box_at ((w.alloc (.cells #[.slice A1 ps.length c1, .slice A2 ns.length c2, .slice A3 up.length c3, .slice A4 pl.length c4, .slice A5 lic.length c5] 98)).alloc (.cells #[.int .i64 j.Id, .int .i64 j.Prio, .int .i64 j.Nodes, .int .i64 j.Need.A, .int .i64 j.Need.B, .int .i64 j.Need.C, .int .i64 j.Lic.A, .int .i64 j.Lic.B, .int .i64 j.Lic.C, .int .i64 j.Wall, .int .i64 j.Level] 62)) (w.heap.size + 1 + 1) (by simp) [.slice none 0 0, .slice none 0 0, .slice none 0 0, .slice none 0 0, .slice none 0 0] 98 1 _ rfl)
            have q2 := (HBW.out).cell (cell_box_at ((w.alloc (.cells #[.slice A1 ps.length c1, .slice A2 ns.length c2, .slice A3 up.length c3, .slice A4 pl.length c4, .slice A5 lic.length c5] 98)).alloc (.cells #[.int .i64 j.Id, .int .i64 j.Prio, .int .i64 j.Nodes, .int .i64 j.Need.A, .int .i64 j.Need.B, .int .i64 j.Need.C, .int .i64 j.Lic.A, .int .i64 j.Lic.B, .int .i64 j.Lic.C, .int .i64 j.Wall, .int .i64 j.Level] 62)) (w.heap.size + 1 + 1) (by simp) [.slice none 0 0, .slice none 0 0, .slice none 0 0, .slice none 0 0, .slice none 0 0] 98 2 _ rfl)
            have q3 := (HBW.out).cell (cell_box_at ((w.alloc (.cells #[.slice A1 ps.length c1, .slice A2 ns.length c2, .slice A3 up.length c3, .slice A4 pl.length c4, .slice A5 lic.length c5] 98)).alloc (.cells #[.int .i64 j.Id, .int .i64 j.Prio, .int .i64 j.Nodes, .int .i64 j.Need.A, .int .i64 j.Need.B, .int .i64 j.Need.C, .int .i64 j.Lic.A, .int .i64 j.Lic.B, .int .i64 j.Lic.C, .int .i64 j.Wall, .int .i64 j.Level] 62)) (w.heap.size + 1 + 1) (by simp) [.slice none 0 0, .slice none 0 0, .slice none 0 0, .slice none 0 0, .slice none 0 0] 98 3 _ rfl)
            have q4 := (HBW.out).cell (cell_box_at ((w.alloc (.cells #[.slice A1 ps.length c1, .slice A2 ns.length c2, .slice A3 up.length c3, .slice A4 pl.length c4, .slice A5 lic.length c5] 98)).alloc (.cells #[.int .i64 j.Id, .int .i64 j.Prio, .int .i64 j.Nodes, .int .i64 j.Need.A, .int .i64 j.Need.B, .int .i64 j.Need.C, .int .i64 j.Lic.A, .int .i64 j.Lic.B, .int .i64 j.Lic.C, .int .i64 j.Wall, .int .i64 j.Level] 62)) (w.heap.size + 1 + 1) (by simp) [.slice none 0 0, .slice none 0 0, .slice none 0 0, .slice none 0 0, .slice none 0 0] 98 4 _ rfl)
            have qf0 := ((HBW.out).frozenEq (a := ⟨w.heap.size + 1 + 1, 0, none⟩) (by simp)).trans (frozen_box_at ((w.alloc (.cells #[.slice A1 ps.length c1, .slice A2 ns.length c2, .slice A3 up.length c3, .slice A4 pl.length c4, .slice A5 lic.length c5] 98)).alloc (.cells #[.int .i64 j.Id, .int .i64 j.Prio, .int .i64 j.Nodes, .int .i64 j.Need.A, .int .i64 j.Need.B, .int .i64 j.Need.C, .int .i64 j.Lic.A, .int .i64 j.Lic.B, .int .i64 j.Lic.C, .int .i64 j.Wall, .int .i64 j.Level] 62)) (w.heap.size + 1 + 1) (by simp) #[.slice none 0 0, .slice none 0 0, .slice none 0 0, .slice none 0 0, .slice none 0 0] 98 0)
            have qf1 := ((HBW.out).frozenEq (a := ⟨w.heap.size + 1 + 1, 1, none⟩) (by simp)).trans (frozen_box_at ((w.alloc (.cells #[.slice A1 ps.length c1, .slice A2 ns.length c2, .slice A3 up.length c3, .slice A4 pl.length c4, .slice A5 lic.length c5] 98)).alloc (.cells #[.int .i64 j.Id, .int .i64 j.Prio, .int .i64 j.Nodes, .int .i64 j.Need.A, .int .i64 j.Need.B, .int .i64 j.Need.C, .int .i64 j.Lic.A, .int .i64 j.Lic.B, .int .i64 j.Lic.C, .int .i64 j.Wall, .int .i64 j.Level] 62)) (w.heap.size + 1 + 1) (by simp) #[.slice none 0 0, .slice none 0 0, .slice none 0 0, .slice none 0 0, .slice none 0 0] 98 1)
            have qf2 := ((HBW.out).frozenEq (a := ⟨w.heap.size + 1 + 1, 2, none⟩) (by simp)).trans (frozen_box_at ((w.alloc (.cells #[.slice A1 ps.length c1, .slice A2 ns.length c2, .slice A3 up.length c3, .slice A4 pl.length c4, .slice A5 lic.length c5] 98)).alloc (.cells #[.int .i64 j.Id, .int .i64 j.Prio, .int .i64 j.Nodes, .int .i64 j.Need.A, .int .i64 j.Need.B, .int .i64 j.Need.C, .int .i64 j.Lic.A, .int .i64 j.Lic.B, .int .i64 j.Lic.C, .int .i64 j.Wall, .int .i64 j.Level] 62)) (w.heap.size + 1 + 1) (by simp) #[.slice none 0 0, .slice none 0 0, .slice none 0 0, .slice none 0 0, .slice none 0 0] 98 2)
            have qf3 := ((HBW.out).frozenEq (a := ⟨w.heap.size + 1 + 1, 3, none⟩) (by simp)).trans (frozen_box_at ((w.alloc (.cells #[.slice A1 ps.length c1, .slice A2 ns.length c2, .slice A3 up.length c3, .slice A4 pl.length c4, .slice A5 lic.length c5] 98)).alloc (.cells #[.int .i64 j.Id, .int .i64 j.Prio, .int .i64 j.Nodes, .int .i64 j.Need.A, .int .i64 j.Need.B, .int .i64 j.Need.C, .int .i64 j.Lic.A, .int .i64 j.Lic.B, .int .i64 j.Lic.C, .int .i64 j.Wall, .int .i64 j.Level] 62)) (w.heap.size + 1 + 1) (by simp) #[.slice none 0 0, .slice none 0 0, .slice none 0 0, .slice none 0 0, .slice none 0 0] 98 3)
            have qf4 := ((HBW.out).frozenEq (a := ⟨w.heap.size + 1 + 1, 4, none⟩) (by simp)).trans (frozen_box_at ((w.alloc (.cells #[.slice A1 ps.length c1, .slice A2 ns.length c2, .slice A3 up.length c3, .slice A4 pl.length c4, .slice A5 lic.length c5] 98)).alloc (.cells #[.int .i64 j.Id, .int .i64 j.Prio, .int .i64 j.Nodes, .int .i64 j.Need.A, .int .i64 j.Need.B, .int .i64 j.Need.C, .int .i64 j.Lic.A, .int .i64 j.Lic.B, .int .i64 j.Lic.C, .int .i64 j.Wall, .int .i64 j.Level] 62)) (w.heap.size + 1 + 1) (by simp) #[.slice none 0 0, .slice none 0 0, .slice none 0 0, .slice none 0 0, .slice none 0 0] 98 4)
            have hql := lt_of_cell q0
            go_wp2
            exact bodyPost_ret (v := .tuple #[.agg #[.slice none 0 0, .slice none 0 0, .slice none 0 0, .slice none 0 0, .slice none 0 0], .bool false]) (by simp [results, Tryz.results78, go_sem, *]) rfl (retRoomS_none HRN.out (HXF.out.five (by omega) _ _ _ _ _))
          · obtain rfl := (HFT.out l rfl).1
            have HOL := Lib.hid (HFT.out l rfl).2
            have hcl2 := hx.cell HCELL.out
            have hfz2 := (hx.frozenEq (a := ⟨g, i, none⟩) hg2).trans HFZ.out
            have u3 := hx.cell HT3.out
            have hg3 : g < wc.heap.size := by omega
            have hb3 : w5.heap.size < wc.heap.size := by omega
            clear HTK HKS HCELL HFZ HT3 HGD HPV HX5 HR H3 HMV HBW
            go_wp2
            go_roundw
            case rel => exact ⟨k + 1, ql.set i l, by omega, by go_num, Lib.hid (by rw [HTA.out, HST.out]; simp), Lib.hid ((HRO2.out.ext hx).setp HII.out HOL.out.1 HOL.out.2), Lib.hid ⟨by rw [List.length_set]; exact HQ.out.1, fun q hq => (List.mem_or_eq_of_mem_set hq).elim (HQ.out.2 q) (fun e => by rw [e]; exact HTV.out l rfl)⟩, Lib.hid ((HRO2.out.ext hx).box_far (owns_ext HBX.out hx)), (hb.trans hx).setCell (by simp; omega) _⟩
            case measure => simp [intOf]; omega
      · obtain rfl : k = n := by omega
        have HTN := Lib.hid (show takeAll fr te j.Need nodes pl = some ql by rw [HTA.out, List.drop_eq_nil_of_le (by have := HNL.out; omega)]; rfl)
        have HLW := Lib.hid (show (w.heap.size + 1 + 1 + 1) ≤ wr.heap.size from by have := hb.le; simp at this; omega)
        have hl200 := (profB_parts HR.out.2.2).2.1
        have HTL := Lib.hid (fun (u : World) (e : Ext wr u) => sProfTake_c lic fr te j.Lic B5 lic.length d5 u ((owns_sl Pt.size HRO2.out.lic HRO2.out.ok3).ext (Flat.mono _ _) e) (by unfold maxLen; simp only [] at hl200; omega))
        have HMW := Lib.hid (show R = (match takeQ lic fr te j.Lic with | none => none | some l => some (ql, l)) by rw [HMV.out, HTN.out])
        generalize takeQ lic fr te j.Lic = tq at *
        obtain ⟨t0, t1, t2, t3, t4, tf0, tf1, tf2, tf3, tf4, tl⟩ := gcells5 HBX.out
        have j6 := (((Ext.refl _).alloc _).trans hb).cell (cell_box_at (w.alloc (.cells #[.slice A1 ps.length c1, .slice A2 ns.length c2, .slice A3 up.length c3, .slice A4 pl.length c4, .slice A5 lic.length c5] 98)) (w.heap.size + 1) (by simp) [.int .i64 j.Id, .int .i64 j.Prio, .int .i64 j.Nodes, .int .i64 j.Need.A, .int .i64 j.Need.B, .int .i64 j.Need.C, .int .i64 j.Lic.A, .int .i64 j.Lic.B, .int .i64 j.Lic.C, .int .i64 j.Wall, .int .i64 j.Level] 62 6 _ rfl)
        have j7 := (((Ext.refl _).alloc _).trans hb).cell (cell_box_at (w.alloc (.cells #[.slice A1 ps.length c1, .slice A2 ns.length c2, .slice A3 up.length c3, .slice A4 pl.length c4, .slice A5 lic.length c5] 98)) (w.heap.size + 1) (by simp) [.int .i64 j.Id, .int .i64 j.Prio, .int .i64 j.Nodes, .int .i64 j.Need.A, .int .i64 j.Need.B, .int .i64 j.Need.C, .int .i64 j.Lic.A, .int .i64 j.Lic.B, .int .i64 j.Lic.C, .int .i64 j.Wall, .int .i64 j.Level] 62 7 _ rfl)
        have j8 := (((Ext.refl _).alloc _).trans hb).cell (cell_box_at (w.alloc (.cells #[.slice A1 ps.length c1, .slice A2 ns.length c2, .slice A3 up.length c3, .slice A4 pl.length c4, .slice A5 lic.length c5] 98)) (w.heap.size + 1) (by simp) [.int .i64 j.Id, .int .i64 j.Prio, .int .i64 j.Nodes, .int .i64 j.Need.A, .int .i64 j.Need.B, .int .i64 j.Need.C, .int .i64 j.Lic.A, .int .i64 j.Lic.B, .int .i64 j.Lic.C, .int .i64 j.Wall, .int .i64 j.Level] 62 8 _ rfl)
        have j9 := (((Ext.refl _).alloc _).trans hb).cell (cell_box_at (w.alloc (.cells #[.slice A1 ps.length c1, .slice A2 ns.length c2, .slice A3 up.length c3, .slice A4 pl.length c4, .slice A5 lic.length c5] 98)) (w.heap.size + 1) (by simp) [.int .i64 j.Id, .int .i64 j.Prio, .int .i64 j.Nodes, .int .i64 j.Need.A, .int .i64 j.Need.B, .int .i64 j.Need.C, .int .i64 j.Lic.A, .int .i64 j.Lic.B, .int .i64 j.Lic.C, .int .i64 j.Wall, .int .i64 j.Level] 62 9 _ rfl)
        have hj6 := lt_of_cell j6
        clear t0 t1 t2 t3 tf0 tf1 tf2 tf3 tf4
        go_wp2_with fail
        refine (HTL.out _ (Ext.refl _)).mono ?_
        rintro e w6 ⟨A6, c6, l, rfl, hR6, ho6, hy6, hb6⟩
        have hlz := HLW.out
        have hz6 := hb6.le
        have HO6 := Lib.hid (owns_base ho6 hlz)
        have HBW := Lib.hid (hb.trans hb6)
        have HR6 := Lib.hid hR6
        clear t4 j6 j7 j8 j9 ho6 hR6
        have q0 := (HBW.out).cell (cell_box_at ((w.alloc (.cells #[.slice A1 ps.length c1, .slice A2 ns.length c2, .slice A3 up.length c3, .slice A4 pl.length c4, .slice A5 lic.length c5] 98)).alloc (.cells #[.int .i64 j.Id, .int .i64 j.Prio, .int .i64 j.Nodes, .int .i64 j.Need.A, .int .i64 j.Need.B, .int .i64 j.Need.C, .int .i64 j.Lic.A, .int .i64 j.Lic.B, .int .i64 j.Lic.C, .int .i64 j.Wall, .int .i64 j.Level] 62)) (w.heap.size + 1 + 1) (by simp) [.slice none 0 0, .slice none 0 0, .slice none 0 0, .slice none 0 0, .slice none 0 0] 98 0 _ rfl)
        have q1 := (HBW.out).cell (cell_box_at ((w.alloc (.cells #[.slice A1 ps.length c1, .slice A2 ns.length c2, .slice A3 up.length c3, .slice A4 pl.length c4, .slice A5 lic.length c5] 98)).alloc (.cells #[.int .i64 j.Id, .int .i64 j.Prio, .int .i64 j.Nodes, .int .i64 j.Need.A, .int .i64 j.Need.B, .int .i64 j.Need.C, .int .i64 j.Lic.A, .int .i64 j.Lic.B, .int .i64 j.Lic.C, .int .i64 j.Wall, .int .i64 j.Level] 62)) (w.heap.size + 1 + 1) (by simp) [.slice none 0 0, .slice none 0 0, .slice none 0 0, .slice none 0 0, .slice none 0 0] 98 1 _ rfl)
        have q2 := (HBW.out).cell (cell_box_at ((w.alloc (.cells #[.slice A1 ps.length c1, .slice A2 ns.length c2, .slice A3 up.length c3, .slice A4 pl.length c4, .slice A5 lic.length c5] 98)).alloc (.cells #[.int .i64 j.Id, .int .i64 j.Prio, .int .i64 j.Nodes, .int .i64 j.Need.A, .int .i64 j.Need.B, .int .i64 j.Need.C, .int .i64 j.Lic.A, .int .i64 j.Lic.B, .int .i64 j.Lic.C, .int .i64 j.Wall, .int .i64 j.Level] 62)) (w.heap.size + 1 + 1) (by simp) [.slice none 0 0, .slice none 0 0, .slice none 0 0, .slice none 0 0, .slice none 0 0] 98 2 _ rfl)
        have q3 := (HBW.out).cell (cell_box_at ((w.alloc (.cells #[.slice A1 ps.length c1, .slice A2 ns.length c2, .slice A3 up.length c3, .slice A4 pl.length c4, .slice A5 lic.length c5] 98)).alloc (.cells #[.int .i64 j.Id, .int .i64 j.Prio, .int .i64 j.Nodes, .int .i64 j.Need.A, .int .i64 j.Need.B, .int .i64 j.Need.C, .int .i64 j.Lic.A, .int .i64 j.Lic.B, .int .i64 j.Lic.C, .int .i64 j.Wall, .int .i64 j.Level] 62)) (w.heap.size + 1 + 1) (by simp) [.slice none 0 0, .slice none 0 0, .slice none 0 0, .slice none 0 0, .slice none 0 0] 98 3 _ rfl)
        have q4 := (HBW.out).cell (cell_box_at ((w.alloc (.cells #[.slice A1 ps.length c1, .slice A2 ns.length c2, .slice A3 up.length c3, .slice A4 pl.length c4, .slice A5 lic.length c5] 98)).alloc (.cells #[.int .i64 j.Id, .int .i64 j.Prio, .int .i64 j.Nodes, .int .i64 j.Need.A, .int .i64 j.Need.B, .int .i64 j.Need.C, .int .i64 j.Lic.A, .int .i64 j.Lic.B, .int .i64 j.Lic.C, .int .i64 j.Wall, .int .i64 j.Level] 62)) (w.heap.size + 1 + 1) (by simp) [.slice none 0 0, .slice none 0 0, .slice none 0 0, .slice none 0 0, .slice none 0 0] 98 4 _ rfl)
        have qf0 := ((HBW.out).frozenEq (a := ⟨w.heap.size + 1 + 1, 0, none⟩) (by simp)).trans (frozen_box_at ((w.alloc (.cells #[.slice A1 ps.length c1, .slice A2 ns.length c2, .slice A3 up.length c3, .slice A4 pl.length c4, .slice A5 lic.length c5] 98)).alloc (.cells #[.int .i64 j.Id, .int .i64 j.Prio, .int .i64 j.Nodes, .int .i64 j.Need.A, .int .i64 j.Need.B, .int .i64 j.Need.C, .int .i64 j.Lic.A, .int .i64 j.Lic.B, .int .i64 j.Lic.C, .int .i64 j.Wall, .int .i64 j.Level] 62)) (w.heap.size + 1 + 1) (by simp) #[.slice none 0 0, .slice none 0 0, .slice none 0 0, .slice none 0 0, .slice none 0 0] 98 0)
        have qf1 := ((HBW.out).frozenEq (a := ⟨w.heap.size + 1 + 1, 1, none⟩) (by simp)).trans (frozen_box_at ((w.alloc (.cells #[.slice A1 ps.length c1, .slice A2 ns.length c2, .slice A3 up.length c3, .slice A4 pl.length c4, .slice A5 lic.length c5] 98)).alloc (.cells #[.int .i64 j.Id, .int .i64 j.Prio, .int .i64 j.Nodes, .int .i64 j.Need.A, .int .i64 j.Need.B, .int .i64 j.Need.C, .int .i64 j.Lic.A, .int .i64 j.Lic.B, .int .i64 j.Lic.C, .int .i64 j.Wall, .int .i64 j.Level] 62)) (w.heap.size + 1 + 1) (by simp) #[.slice none 0 0, .slice none 0 0, .slice none 0 0, .slice none 0 0, .slice none 0 0] 98 1)
        have qf2 := ((HBW.out).frozenEq (a := ⟨w.heap.size + 1 + 1, 2, none⟩) (by simp)).trans (frozen_box_at ((w.alloc (.cells #[.slice A1 ps.length c1, .slice A2 ns.length c2, .slice A3 up.length c3, .slice A4 pl.length c4, .slice A5 lic.length c5] 98)).alloc (.cells #[.int .i64 j.Id, .int .i64 j.Prio, .int .i64 j.Nodes, .int .i64 j.Need.A, .int .i64 j.Need.B, .int .i64 j.Need.C, .int .i64 j.Lic.A, .int .i64 j.Lic.B, .int .i64 j.Lic.C, .int .i64 j.Wall, .int .i64 j.Level] 62)) (w.heap.size + 1 + 1) (by simp) #[.slice none 0 0, .slice none 0 0, .slice none 0 0, .slice none 0 0, .slice none 0 0] 98 2)
        have qf3 := ((HBW.out).frozenEq (a := ⟨w.heap.size + 1 + 1, 3, none⟩) (by simp)).trans (frozen_box_at ((w.alloc (.cells #[.slice A1 ps.length c1, .slice A2 ns.length c2, .slice A3 up.length c3, .slice A4 pl.length c4, .slice A5 lic.length c5] 98)).alloc (.cells #[.int .i64 j.Id, .int .i64 j.Prio, .int .i64 j.Nodes, .int .i64 j.Need.A, .int .i64 j.Need.B, .int .i64 j.Need.C, .int .i64 j.Lic.A, .int .i64 j.Lic.B, .int .i64 j.Lic.C, .int .i64 j.Wall, .int .i64 j.Level] 62)) (w.heap.size + 1 + 1) (by simp) #[.slice none 0 0, .slice none 0 0, .slice none 0 0, .slice none 0 0, .slice none 0 0] 98 3)
        have qf4 := ((HBW.out).frozenEq (a := ⟨w.heap.size + 1 + 1, 4, none⟩) (by simp)).trans (frozen_box_at ((w.alloc (.cells #[.slice A1 ps.length c1, .slice A2 ns.length c2, .slice A3 up.length c3, .slice A4 pl.length c4, .slice A5 lic.length c5] 98)).alloc (.cells #[.int .i64 j.Id, .int .i64 j.Prio, .int .i64 j.Nodes, .int .i64 j.Need.A, .int .i64 j.Need.B, .int .i64 j.Need.C, .int .i64 j.Lic.A, .int .i64 j.Lic.B, .int .i64 j.Lic.C, .int .i64 j.Wall, .int .i64 j.Level] 62)) (w.heap.size + 1 + 1) (by simp) #[.slice none 0 0, .slice none 0 0, .slice none 0 0, .slice none 0 0, .slice none 0 0] 98 4)
        have hql := lt_of_cell q0
        have hbz4 : w.heap.size + 1 + 1 ≠ w5.heap.size := by omega
        rcases tq with _ | l2
        · have HRN := Lib.hid (show R = none by rw [HMW.out])
          have HXF := Lib.hid (((((Ext.refl w).alloc _).alloc _).alloc _).trans (hb.trans hb6))
          clear tl HTA HRO2 HQ HBX HTN HLW HTL HMW HR6 HO6 hb6 hlz hy6 HPLN HR H3 HMV HX5 HNN hb hj6
          go_wp2
          exact bodyPost_ret (v := .tuple #[.agg #[.slice none 0 0, .slice none 0 0, .slice none 0 0, .slice none 0 0, .slice none 0 0], .bool false]) (by simp [results, Tryz.results78, go_sem, *]) rfl (retRoomS_none HRN.out ((HXF.out.five (by omega) _ _ _ _ _).alloc _))
        · obtain rfl : l2 = l := by rcases HR6.out with h6 | ⟨h6, _⟩; (injection h6); (cases h6)
          have HRN := Lib.hid (show R = some (ql, l2) by rw [HMW.out])
          have HBY := Lib.hid (owns_ext HBX.out hb6)
          obtain ⟨t0, t1, t2, t3, t4, tf0, tf1, tf2, tf3, tf4, tl2⟩ := gcells5 HBY.out
          have HRO3 := Lib.hid ((HRO2.out.ext hb6).lics HO6.out hy6)
          have HRO4 := Lib.hid ((((((HRO3.out.far HBY.out (p := 4) (u := .slice A6 l2.length c6)).low (b := w.heap.size + 1 + 1) (p := 0) (u := .slice B1 ps.length d1) (by omega)).low (b := w.heap.size + 1 + 1) (p := 1) (u := .slice B2 ns.length d2) (by omega)).low (b := w.heap.size + 1 + 1) (p := 2) (u := .slice B3 up.length d3) (by omega)).low (b := w.heap.size + 1 + 1) (p := 3) (u := .slice B4 pl.length d4) (by omega)).low (b := w.heap.size + 1 + 1) (p := 4) (u := .slice A6 l2.length c6) (by omega))
          have HXF := Lib.hid ((((((Ext.refl w).alloc _).alloc _).alloc _).trans (hb.trans hb6)).setCell (p := ⟨w5.heap.size, 4, none⟩) (by simp only []; omega) (.slice A6 l2.length c6))
          clear hb hb6
          clear HRO3 HBW HBX HBY HRO2 tl HTA HTN HLW HTL HMW HR6 HO6 hlz hy6 HR H3 HMV HX5 HNN hj6
          go_wp2
          exact bodyPost_ret (v := .tuple #[.agg #[.slice B1 ps.length d1, .slice B2 ns.length d2, .slice B3 up.length d3, .slice B4 pl.length d4, .slice A6 l2.length c6], .bool true]) (by simp [results, Tryz.results78, go_sem, *]) rfl ⟨B1, ps.length, d1, B2, ns.length, d2, B3, up.length, d3, B4, pl.length, d4, A6, l2.length, c6, by rw [HRN.out]; rfl, fun r hr => by rw [HRN.out] at hr; injection hr with hr; subst hr; exact ⟨rfl, rfl, rfl, by rw [HPLN.out]; exact HQ.out.1.symm, rfl, (HRO4.out.ext ((Ext.refl _).alloc _)).base (by omega)⟩, ((HXF.out.five (by omega) _ _ _ _ _).alloc _)⟩
end Go.Proofs.YtfcffcgdbmkfgaaGreat
/-! SEmp -/
namespace Go.Proofs.YtfcffcgdbmkfgaaGreat
open Go.RowKit
set_option linter.unusedVariables false
/-- The room with nothing taken, where there is one. -/
def emptyF (s : State) : Option (List (List Pt) × List Pt) := if (topoB s.Topo.Parents s.Topo.Nodes && decide (s.Up.length = s.Topo.Nodes.length) && vecB s.Lic) = true then some (room0 s.Topo.Nodes s.Lic) else none
set_option maxHeartbeats 32000000 in
set_option maxRecDepth 10000 in
theorem l06Empty_c (s : State) (v : Value) (w : World) (h : StateAt w s v) (hlen : stateLen s) : Calls Tryz.prog 76 #[v] w (RetRoomSB w s.Topo.Parents s.Topo.Nodes s.Up (emptyF s)) := by
  obtain ⟨⟨ps, ns⟩, up, lic, dep, now, qs, rs, es⟩ := s
  obtain ⟨A1, c1, A2, c2, A3, c3, A6, c6, A7, c7, A8, c8, rfl, h1, h2, h3, h6, h7, h8⟩ := h
  obtain ⟨hl1, hl2, hl3, hl6, hl7, hl8⟩ := hlen
  simp only [] at h1 h2 h3 h6 h7 h8 hl1 hl2 hl3 hl6 hl7 hl8 ⊢
  have HT := Lib.hid (fun (u : World) (e : Ext w u) => sTopoOk_c ps ns A1 ps.length c1 A2 ns.length c2 u (h1.ext (Flat.mono _ _) e) (by unfold maxLen; omega) (h2.ext (Flat.mono _ _) e) (by unfold maxLen; omega))
  have HV := Lib.hid (fun (u : World) => sVecOk_c lic u)
  have HF := Lib.hid (show emptyF ⟨⟨ps, ns⟩, up, lic, dep, now, qs, rs, es⟩ = if (topoB ps ns && decide (up.length = ns.length) && vecB lic) = true then some (room0 ns lic) else none from rfl)
  generalize emptyF ⟨⟨ps, ns⟩, up, lic, dep, now, qs, rs, es⟩ = R at *
  obtain ⟨i1, hi1, hJ0, hJ1, hJ2⟩ := info_parts CProf.info
  have HPN := Lib.hid (fun (v : Vec) (hv : vecB v = true) (u : World) => show Calls Tryz.prog 101 #[.agg #[.int .i64 v.A, .int .i64 v.B, .int .i64 v.C]] u (RetP u (some [⟨0, v⟩])) from by have := sProfNew_c v u; rw [if_pos hv] at this; exact this)
  have HSL := Lib.hid (fun (u : World) (e : Ext w u) => show SlAt RInt 1 u A1 ps.length ps ∧ SlAt RNode 4 u A2 ns.length ns ∧ SlAt RB 1 u A3 up.length up from ⟨h1.ext (Flat.mono _ _) e, h2.ext (Flat.mono _ _) e, h3.ext (Flat.mono _ _) e⟩)
  clear h1 h2 h3 h6 h7 h8
  rcases (Bool.eq_false_or_eq_true (topoB ps ns)).symm with q1 | q1
  all_goals rw [q1] at HT HF
  · have HN := Lib.hid (show R = none by rw [HF.out]; rfl)
    clear HF q1 HSL
    go_enter Tryz.func76, Tryz.ntmps76
    go_wp2_with fail
    refine (HT.out _ (by repeat (first | exact Ext.refl _ | assumption | apply Ext.alloc | apply Ext.drewN | apply Ext.drew | (refine Ext.setCell ?_ (by first | (simp; done) | (simp; omega) | omega) _) | (refine Ext.trans ?_ (by assumption))))).mono ?_
    rintro e w1 ⟨rfl, hb1⟩
    obtain ⟨hcr1, hfr1, hz1⟩ := hb1.rules
    (try simp at hz1)
    have hy1_w0 : w.heap.size < w1.heap.size := (by omega)
    have hy1_w1 : w.heap.size + 1 < w1.heap.size := (by omega)
    have hy1_w2 : w.heap.size + 1 + 1 < w1.heap.size := (by omega)
    have HXF := Lib.hid (((((Ext.refl w).alloc _).alloc _).alloc _).trans (hb1))
    have q0 := (((Ext.refl _).alloc _).trans (hb1)).cell (cell_box_at (w.alloc (.cells #[.slice A1 ps.length c1, .slice A2 ns.length c2, .slice A3 up.length c3, .int .i64 lic.A, .int .i64 lic.B, .int .i64 lic.C, .int .i64 dep, .int .i64 now, .slice A6 qs.length c6, .slice A7 rs.length c7, .slice A8 es.length c8] 44)) (w.heap.size + 1) (by simp) [.slice none 0 0, .slice none 0 0, .slice none 0 0, .slice none 0 0, .slice none 0 0] 98 0 _ rfl)
    have q1 := (((Ext.refl _).alloc _).trans (hb1)).cell (cell_box_at (w.alloc (.cells #[.slice A1 ps.length c1, .slice A2 ns.length c2, .slice A3 up.length c3, .int .i64 lic.A, .int .i64 lic.B, .int .i64 lic.C, .int .i64 dep, .int .i64 now, .slice A6 qs.length c6, .slice A7 rs.length c7, .slice A8 es.length c8] 44)) (w.heap.size + 1) (by simp) [.slice none 0 0, .slice none 0 0, .slice none 0 0, .slice none 0 0, .slice none 0 0] 98 1 _ rfl)
    have q2 := (((Ext.refl _).alloc _).trans (hb1)).cell (cell_box_at (w.alloc (.cells #[.slice A1 ps.length c1, .slice A2 ns.length c2, .slice A3 up.length c3, .int .i64 lic.A, .int .i64 lic.B, .int .i64 lic.C, .int .i64 dep, .int .i64 now, .slice A6 qs.length c6, .slice A7 rs.length c7, .slice A8 es.length c8] 44)) (w.heap.size + 1) (by simp) [.slice none 0 0, .slice none 0 0, .slice none 0 0, .slice none 0 0, .slice none 0 0] 98 2 _ rfl)
    have q3 := (((Ext.refl _).alloc _).trans (hb1)).cell (cell_box_at (w.alloc (.cells #[.slice A1 ps.length c1, .slice A2 ns.length c2, .slice A3 up.length c3, .int .i64 lic.A, .int .i64 lic.B, .int .i64 lic.C, .int .i64 dep, .int .i64 now, .slice A6 qs.length c6, .slice A7 rs.length c7, .slice A8 es.length c8] 44)) (w.heap.size + 1) (by simp) [.slice none 0 0, .slice none 0 0, .slice none 0 0, .slice none 0 0, .slice none 0 0] 98 3 _ rfl)
    have q4 := (((Ext.refl _).alloc _).trans (hb1)).cell (cell_box_at (w.alloc (.cells #[.slice A1 ps.length c1, .slice A2 ns.length c2, .slice A3 up.length c3, .int .i64 lic.A, .int .i64 lic.B, .int .i64 lic.C, .int .i64 dep, .int .i64 now, .slice A6 qs.length c6, .slice A7 rs.length c7, .slice A8 es.length c8] 44)) (w.heap.size + 1) (by simp) [.slice none 0 0, .slice none 0 0, .slice none 0 0, .slice none 0 0, .slice none 0 0] 98 4 _ rfl)
    have qf0 := ((((Ext.refl _).alloc _).trans (hb1)).frozenEq (a := ⟨w.heap.size + 1, 0, none⟩) (by simp)).trans (frozen_box_at (w.alloc (.cells #[.slice A1 ps.length c1, .slice A2 ns.length c2, .slice A3 up.length c3, .int .i64 lic.A, .int .i64 lic.B, .int .i64 lic.C, .int .i64 dep, .int .i64 now, .slice A6 qs.length c6, .slice A7 rs.length c7, .slice A8 es.length c8] 44)) (w.heap.size + 1) (by simp) #[.slice none 0 0, .slice none 0 0, .slice none 0 0, .slice none 0 0, .slice none 0 0] 98 0)
    have qf1 := ((((Ext.refl _).alloc _).trans (hb1)).frozenEq (a := ⟨w.heap.size + 1, 1, none⟩) (by simp)).trans (frozen_box_at (w.alloc (.cells #[.slice A1 ps.length c1, .slice A2 ns.length c2, .slice A3 up.length c3, .int .i64 lic.A, .int .i64 lic.B, .int .i64 lic.C, .int .i64 dep, .int .i64 now, .slice A6 qs.length c6, .slice A7 rs.length c7, .slice A8 es.length c8] 44)) (w.heap.size + 1) (by simp) #[.slice none 0 0, .slice none 0 0, .slice none 0 0, .slice none 0 0, .slice none 0 0] 98 1)
    have qf2 := ((((Ext.refl _).alloc _).trans (hb1)).frozenEq (a := ⟨w.heap.size + 1, 2, none⟩) (by simp)).trans (frozen_box_at (w.alloc (.cells #[.slice A1 ps.length c1, .slice A2 ns.length c2, .slice A3 up.length c3, .int .i64 lic.A, .int .i64 lic.B, .int .i64 lic.C, .int .i64 dep, .int .i64 now, .slice A6 qs.length c6, .slice A7 rs.length c7, .slice A8 es.length c8] 44)) (w.heap.size + 1) (by simp) #[.slice none 0 0, .slice none 0 0, .slice none 0 0, .slice none 0 0, .slice none 0 0] 98 2)
    have qf3 := ((((Ext.refl _).alloc _).trans (hb1)).frozenEq (a := ⟨w.heap.size + 1, 3, none⟩) (by simp)).trans (frozen_box_at (w.alloc (.cells #[.slice A1 ps.length c1, .slice A2 ns.length c2, .slice A3 up.length c3, .int .i64 lic.A, .int .i64 lic.B, .int .i64 lic.C, .int .i64 dep, .int .i64 now, .slice A6 qs.length c6, .slice A7 rs.length c7, .slice A8 es.length c8] 44)) (w.heap.size + 1) (by simp) #[.slice none 0 0, .slice none 0 0, .slice none 0 0, .slice none 0 0, .slice none 0 0] 98 3)
    have qf4 := ((((Ext.refl _).alloc _).trans (hb1)).frozenEq (a := ⟨w.heap.size + 1, 4, none⟩) (by simp)).trans (frozen_box_at (w.alloc (.cells #[.slice A1 ps.length c1, .slice A2 ns.length c2, .slice A3 up.length c3, .int .i64 lic.A, .int .i64 lic.B, .int .i64 lic.C, .int .i64 dep, .int .i64 now, .slice A6 qs.length c6, .slice A7 rs.length c7, .slice A8 es.length c8] 44)) (w.heap.size + 1) (by simp) #[.slice none 0 0, .slice none 0 0, .slice none 0 0, .slice none 0 0, .slice none 0 0] 98 4)
    have hql := lt_of_cell q0
    clear HT HV HPN hcr1 hfr1 hb1
    go_wp2
    exact bodyPost_ret (v := .tuple #[.agg #[.slice none 0 0, .slice none 0 0, .slice none 0 0, .slice none 0 0, .slice none 0 0], .bool false]) (by simp [results, Tryz.results76, go_sem, *]) rfl (retRoomS_none HN.out (HXF.out.five (by omega) _ _ _ _ _))
  by_cases hu : up.length = ns.length
  rotate_left
  · have HN := Lib.hid (show R = none by rw [HF.out, decide_eq_false hu]; rfl)
    clear HF q1 HSL
    go_enter Tryz.func76, Tryz.ntmps76
    go_wp2_with fail
    refine (HT.out _ (by repeat (first | exact Ext.refl _ | assumption | apply Ext.alloc | apply Ext.drewN | apply Ext.drew | (refine Ext.setCell ?_ (by first | (simp; done) | (simp; omega) | omega) _) | (refine Ext.trans ?_ (by assumption))))).mono ?_
    rintro e w1 ⟨rfl, hb1⟩
    obtain ⟨hcr1, hfr1, hz1⟩ := hb1.rules
    (try simp at hz1)
    have hy1_w0 : w.heap.size < w1.heap.size := (by omega)
    have hy1_w1 : w.heap.size + 1 < w1.heap.size := (by omega)
    have hy1_w2 : w.heap.size + 1 + 1 < w1.heap.size := (by omega)
    have b0 := ((((Ext.refl _).alloc _).alloc _).trans hb1).cell (cell_box_at w (w.heap.size) (by simp) [.slice A1 ps.length c1, .slice A2 ns.length c2, .slice A3 up.length c3, .int .i64 lic.A, .int .i64 lic.B, .int .i64 lic.C, .int .i64 dep, .int .i64 now, .slice A6 qs.length c6, .slice A7 rs.length c7, .slice A8 es.length c8] 44 0 _ rfl)
    have b1 := ((((Ext.refl _).alloc _).alloc _).trans hb1).cell (cell_box_at w (w.heap.size) (by simp) [.slice A1 ps.length c1, .slice A2 ns.length c2, .slice A3 up.length c3, .int .i64 lic.A, .int .i64 lic.B, .int .i64 lic.C, .int .i64 dep, .int .i64 now, .slice A6 qs.length c6, .slice A7 rs.length c7, .slice A8 es.length c8] 44 1 _ rfl)
    have b2 := ((((Ext.refl _).alloc _).alloc _).trans hb1).cell (cell_box_at w (w.heap.size) (by simp) [.slice A1 ps.length c1, .slice A2 ns.length c2, .slice A3 up.length c3, .int .i64 lic.A, .int .i64 lic.B, .int .i64 lic.C, .int .i64 dep, .int .i64 now, .slice A6 qs.length c6, .slice A7 rs.length c7, .slice A8 es.length c8] 44 2 _ rfl)
    have b3 := ((((Ext.refl _).alloc _).alloc _).trans hb1).cell (cell_box_at w (w.heap.size) (by simp) [.slice A1 ps.length c1, .slice A2 ns.length c2, .slice A3 up.length c3, .int .i64 lic.A, .int .i64 lic.B, .int .i64 lic.C, .int .i64 dep, .int .i64 now, .slice A6 qs.length c6, .slice A7 rs.length c7, .slice A8 es.length c8] 44 3 _ rfl)
    have b4 := ((((Ext.refl _).alloc _).alloc _).trans hb1).cell (cell_box_at w (w.heap.size) (by simp) [.slice A1 ps.length c1, .slice A2 ns.length c2, .slice A3 up.length c3, .int .i64 lic.A, .int .i64 lic.B, .int .i64 lic.C, .int .i64 dep, .int .i64 now, .slice A6 qs.length c6, .slice A7 rs.length c7, .slice A8 es.length c8] 44 4 _ rfl)
    have b5 := ((((Ext.refl _).alloc _).alloc _).trans hb1).cell (cell_box_at w (w.heap.size) (by simp) [.slice A1 ps.length c1, .slice A2 ns.length c2, .slice A3 up.length c3, .int .i64 lic.A, .int .i64 lic.B, .int .i64 lic.C, .int .i64 dep, .int .i64 now, .slice A6 qs.length c6, .slice A7 rs.length c7, .slice A8 es.length c8] 44 5 _ rfl)
    have b6 := ((((Ext.refl _).alloc _).alloc _).trans hb1).cell (cell_box_at w (w.heap.size) (by simp) [.slice A1 ps.length c1, .slice A2 ns.length c2, .slice A3 up.length c3, .int .i64 lic.A, .int .i64 lic.B, .int .i64 lic.C, .int .i64 dep, .int .i64 now, .slice A6 qs.length c6, .slice A7 rs.length c7, .slice A8 es.length c8] 44 6 _ rfl)
    have b7 := ((((Ext.refl _).alloc _).alloc _).trans hb1).cell (cell_box_at w (w.heap.size) (by simp) [.slice A1 ps.length c1, .slice A2 ns.length c2, .slice A3 up.length c3, .int .i64 lic.A, .int .i64 lic.B, .int .i64 lic.C, .int .i64 dep, .int .i64 now, .slice A6 qs.length c6, .slice A7 rs.length c7, .slice A8 es.length c8] 44 7 _ rfl)
    have b8 := ((((Ext.refl _).alloc _).alloc _).trans hb1).cell (cell_box_at w (w.heap.size) (by simp) [.slice A1 ps.length c1, .slice A2 ns.length c2, .slice A3 up.length c3, .int .i64 lic.A, .int .i64 lic.B, .int .i64 lic.C, .int .i64 dep, .int .i64 now, .slice A6 qs.length c6, .slice A7 rs.length c7, .slice A8 es.length c8] 44 8 _ rfl)
    have b9 := ((((Ext.refl _).alloc _).alloc _).trans hb1).cell (cell_box_at w (w.heap.size) (by simp) [.slice A1 ps.length c1, .slice A2 ns.length c2, .slice A3 up.length c3, .int .i64 lic.A, .int .i64 lic.B, .int .i64 lic.C, .int .i64 dep, .int .i64 now, .slice A6 qs.length c6, .slice A7 rs.length c7, .slice A8 es.length c8] 44 9 _ rfl)
    have b10 := ((((Ext.refl _).alloc _).alloc _).trans hb1).cell (cell_box_at w (w.heap.size) (by simp) [.slice A1 ps.length c1, .slice A2 ns.length c2, .slice A3 up.length c3, .int .i64 lic.A, .int .i64 lic.B, .int .i64 lic.C, .int .i64 dep, .int .i64 now, .slice A6 qs.length c6, .slice A7 rs.length c7, .slice A8 es.length c8] 44 10 _ rfl)
    have bf0 := (((((Ext.refl _).alloc _).alloc _).trans hb1).frozenEq (a := ⟨w.heap.size, 0, none⟩) (by simp)).trans (frozen_box_at w (w.heap.size) (by simp) #[.slice A1 ps.length c1, .slice A2 ns.length c2, .slice A3 up.length c3, .int .i64 lic.A, .int .i64 lic.B, .int .i64 lic.C, .int .i64 dep, .int .i64 now, .slice A6 qs.length c6, .slice A7 rs.length c7, .slice A8 es.length c8] 44 0)
    have bf1 := (((((Ext.refl _).alloc _).alloc _).trans hb1).frozenEq (a := ⟨w.heap.size, 1, none⟩) (by simp)).trans (frozen_box_at w (w.heap.size) (by simp) #[.slice A1 ps.length c1, .slice A2 ns.length c2, .slice A3 up.length c3, .int .i64 lic.A, .int .i64 lic.B, .int .i64 lic.C, .int .i64 dep, .int .i64 now, .slice A6 qs.length c6, .slice A7 rs.length c7, .slice A8 es.length c8] 44 1)
    have bf2 := (((((Ext.refl _).alloc _).alloc _).trans hb1).frozenEq (a := ⟨w.heap.size, 2, none⟩) (by simp)).trans (frozen_box_at w (w.heap.size) (by simp) #[.slice A1 ps.length c1, .slice A2 ns.length c2, .slice A3 up.length c3, .int .i64 lic.A, .int .i64 lic.B, .int .i64 lic.C, .int .i64 dep, .int .i64 now, .slice A6 qs.length c6, .slice A7 rs.length c7, .slice A8 es.length c8] 44 2)
    have bf3 := (((((Ext.refl _).alloc _).alloc _).trans hb1).frozenEq (a := ⟨w.heap.size, 3, none⟩) (by simp)).trans (frozen_box_at w (w.heap.size) (by simp) #[.slice A1 ps.length c1, .slice A2 ns.length c2, .slice A3 up.length c3, .int .i64 lic.A, .int .i64 lic.B, .int .i64 lic.C, .int .i64 dep, .int .i64 now, .slice A6 qs.length c6, .slice A7 rs.length c7, .slice A8 es.length c8] 44 3)
    have bf4 := (((((Ext.refl _).alloc _).alloc _).trans hb1).frozenEq (a := ⟨w.heap.size, 4, none⟩) (by simp)).trans (frozen_box_at w (w.heap.size) (by simp) #[.slice A1 ps.length c1, .slice A2 ns.length c2, .slice A3 up.length c3, .int .i64 lic.A, .int .i64 lic.B, .int .i64 lic.C, .int .i64 dep, .int .i64 now, .slice A6 qs.length c6, .slice A7 rs.length c7, .slice A8 es.length c8] 44 4)
    have bf5 := (((((Ext.refl _).alloc _).alloc _).trans hb1).frozenEq (a := ⟨w.heap.size, 5, none⟩) (by simp)).trans (frozen_box_at w (w.heap.size) (by simp) #[.slice A1 ps.length c1, .slice A2 ns.length c2, .slice A3 up.length c3, .int .i64 lic.A, .int .i64 lic.B, .int .i64 lic.C, .int .i64 dep, .int .i64 now, .slice A6 qs.length c6, .slice A7 rs.length c7, .slice A8 es.length c8] 44 5)
    have bf6 := (((((Ext.refl _).alloc _).alloc _).trans hb1).frozenEq (a := ⟨w.heap.size, 6, none⟩) (by simp)).trans (frozen_box_at w (w.heap.size) (by simp) #[.slice A1 ps.length c1, .slice A2 ns.length c2, .slice A3 up.length c3, .int .i64 lic.A, .int .i64 lic.B, .int .i64 lic.C, .int .i64 dep, .int .i64 now, .slice A6 qs.length c6, .slice A7 rs.length c7, .slice A8 es.length c8] 44 6)
    have bf7 := (((((Ext.refl _).alloc _).alloc _).trans hb1).frozenEq (a := ⟨w.heap.size, 7, none⟩) (by simp)).trans (frozen_box_at w (w.heap.size) (by simp) #[.slice A1 ps.length c1, .slice A2 ns.length c2, .slice A3 up.length c3, .int .i64 lic.A, .int .i64 lic.B, .int .i64 lic.C, .int .i64 dep, .int .i64 now, .slice A6 qs.length c6, .slice A7 rs.length c7, .slice A8 es.length c8] 44 7)
    have bf8 := (((((Ext.refl _).alloc _).alloc _).trans hb1).frozenEq (a := ⟨w.heap.size, 8, none⟩) (by simp)).trans (frozen_box_at w (w.heap.size) (by simp) #[.slice A1 ps.length c1, .slice A2 ns.length c2, .slice A3 up.length c3, .int .i64 lic.A, .int .i64 lic.B, .int .i64 lic.C, .int .i64 dep, .int .i64 now, .slice A6 qs.length c6, .slice A7 rs.length c7, .slice A8 es.length c8] 44 8)
    have bf9 := (((((Ext.refl _).alloc _).alloc _).trans hb1).frozenEq (a := ⟨w.heap.size, 9, none⟩) (by simp)).trans (frozen_box_at w (w.heap.size) (by simp) #[.slice A1 ps.length c1, .slice A2 ns.length c2, .slice A3 up.length c3, .int .i64 lic.A, .int .i64 lic.B, .int .i64 lic.C, .int .i64 dep, .int .i64 now, .slice A6 qs.length c6, .slice A7 rs.length c7, .slice A8 es.length c8] 44 9)
    have bf10 := (((((Ext.refl _).alloc _).alloc _).trans hb1).frozenEq (a := ⟨w.heap.size, 10, none⟩) (by simp)).trans (frozen_box_at w (w.heap.size) (by simp) #[.slice A1 ps.length c1, .slice A2 ns.length c2, .slice A3 up.length c3, .int .i64 lic.A, .int .i64 lic.B, .int .i64 lic.C, .int .i64 dep, .int .i64 now, .slice A6 qs.length c6, .slice A7 rs.length c7, .slice A8 es.length c8] 44 10)
    have hbl := lt_of_cell b0
    have HXF := Lib.hid (((((Ext.refl w).alloc _).alloc _).alloc _).trans (hb1))
    have q0 := (((Ext.refl _).alloc _).trans (hb1)).cell (cell_box_at (w.alloc (.cells #[.slice A1 ps.length c1, .slice A2 ns.length c2, .slice A3 up.length c3, .int .i64 lic.A, .int .i64 lic.B, .int .i64 lic.C, .int .i64 dep, .int .i64 now, .slice A6 qs.length c6, .slice A7 rs.length c7, .slice A8 es.length c8] 44)) (w.heap.size + 1) (by simp) [.slice none 0 0, .slice none 0 0, .slice none 0 0, .slice none 0 0, .slice none 0 0] 98 0 _ rfl)
    have q1 := (((Ext.refl _).alloc _).trans (hb1)).cell (cell_box_at (w.alloc (.cells #[.slice A1 ps.length c1, .slice A2 ns.length c2, .slice A3 up.length c3, .int .i64 lic.A, .int .i64 lic.B, .int .i64 lic.C, .int .i64 dep, .int .i64 now, .slice A6 qs.length c6, .slice A7 rs.length c7, .slice A8 es.length c8] 44)) (w.heap.size + 1) (by simp) [.slice none 0 0, .slice none 0 0, .slice none 0 0, .slice none 0 0, .slice none 0 0] 98 1 _ rfl)
    have q2 := (((Ext.refl _).alloc _).trans (hb1)).cell (cell_box_at (w.alloc (.cells #[.slice A1 ps.length c1, .slice A2 ns.length c2, .slice A3 up.length c3, .int .i64 lic.A, .int .i64 lic.B, .int .i64 lic.C, .int .i64 dep, .int .i64 now, .slice A6 qs.length c6, .slice A7 rs.length c7, .slice A8 es.length c8] 44)) (w.heap.size + 1) (by simp) [.slice none 0 0, .slice none 0 0, .slice none 0 0, .slice none 0 0, .slice none 0 0] 98 2 _ rfl)
    have q3 := (((Ext.refl _).alloc _).trans (hb1)).cell (cell_box_at (w.alloc (.cells #[.slice A1 ps.length c1, .slice A2 ns.length c2, .slice A3 up.length c3, .int .i64 lic.A, .int .i64 lic.B, .int .i64 lic.C, .int .i64 dep, .int .i64 now, .slice A6 qs.length c6, .slice A7 rs.length c7, .slice A8 es.length c8] 44)) (w.heap.size + 1) (by simp) [.slice none 0 0, .slice none 0 0, .slice none 0 0, .slice none 0 0, .slice none 0 0] 98 3 _ rfl)
    have q4 := (((Ext.refl _).alloc _).trans (hb1)).cell (cell_box_at (w.alloc (.cells #[.slice A1 ps.length c1, .slice A2 ns.length c2, .slice A3 up.length c3, .int .i64 lic.A, .int .i64 lic.B, .int .i64 lic.C, .int .i64 dep, .int .i64 now, .slice A6 qs.length c6, .slice A7 rs.length c7, .slice A8 es.length c8] 44)) (w.heap.size + 1) (by simp) [.slice none 0 0, .slice none 0 0, .slice none 0 0, .slice none 0 0, .slice none 0 0] 98 4 _ rfl)
    have qf0 := ((((Ext.refl _).alloc _).trans (hb1)).frozenEq (a := ⟨w.heap.size + 1, 0, none⟩) (by simp)).trans (frozen_box_at (w.alloc (.cells #[.slice A1 ps.length c1, .slice A2 ns.length c2, .slice A3 up.length c3, .int .i64 lic.A, .int .i64 lic.B, .int .i64 lic.C, .int .i64 dep, .int .i64 now, .slice A6 qs.length c6, .slice A7 rs.length c7, .slice A8 es.length c8] 44)) (w.heap.size + 1) (by simp) #[.slice none 0 0, .slice none 0 0, .slice none 0 0, .slice none 0 0, .slice none 0 0] 98 0)
    have qf1 := ((((Ext.refl _).alloc _).trans (hb1)).frozenEq (a := ⟨w.heap.size + 1, 1, none⟩) (by simp)).trans (frozen_box_at (w.alloc (.cells #[.slice A1 ps.length c1, .slice A2 ns.length c2, .slice A3 up.length c3, .int .i64 lic.A, .int .i64 lic.B, .int .i64 lic.C, .int .i64 dep, .int .i64 now, .slice A6 qs.length c6, .slice A7 rs.length c7, .slice A8 es.length c8] 44)) (w.heap.size + 1) (by simp) #[.slice none 0 0, .slice none 0 0, .slice none 0 0, .slice none 0 0, .slice none 0 0] 98 1)
    have qf2 := ((((Ext.refl _).alloc _).trans (hb1)).frozenEq (a := ⟨w.heap.size + 1, 2, none⟩) (by simp)).trans (frozen_box_at (w.alloc (.cells #[.slice A1 ps.length c1, .slice A2 ns.length c2, .slice A3 up.length c3, .int .i64 lic.A, .int .i64 lic.B, .int .i64 lic.C, .int .i64 dep, .int .i64 now, .slice A6 qs.length c6, .slice A7 rs.length c7, .slice A8 es.length c8] 44)) (w.heap.size + 1) (by simp) #[.slice none 0 0, .slice none 0 0, .slice none 0 0, .slice none 0 0, .slice none 0 0] 98 2)
    have qf3 := ((((Ext.refl _).alloc _).trans (hb1)).frozenEq (a := ⟨w.heap.size + 1, 3, none⟩) (by simp)).trans (frozen_box_at (w.alloc (.cells #[.slice A1 ps.length c1, .slice A2 ns.length c2, .slice A3 up.length c3, .int .i64 lic.A, .int .i64 lic.B, .int .i64 lic.C, .int .i64 dep, .int .i64 now, .slice A6 qs.length c6, .slice A7 rs.length c7, .slice A8 es.length c8] 44)) (w.heap.size + 1) (by simp) #[.slice none 0 0, .slice none 0 0, .slice none 0 0, .slice none 0 0, .slice none 0 0] 98 3)
    have qf4 := ((((Ext.refl _).alloc _).trans (hb1)).frozenEq (a := ⟨w.heap.size + 1, 4, none⟩) (by simp)).trans (frozen_box_at (w.alloc (.cells #[.slice A1 ps.length c1, .slice A2 ns.length c2, .slice A3 up.length c3, .int .i64 lic.A, .int .i64 lic.B, .int .i64 lic.C, .int .i64 dep, .int .i64 now, .slice A6 qs.length c6, .slice A7 rs.length c7, .slice A8 es.length c8] 44)) (w.heap.size + 1) (by simp) #[.slice none 0 0, .slice none 0 0, .slice none 0 0, .slice none 0 0, .slice none 0 0] 98 4)
    have hql := lt_of_cell q0
    clear HT HV HPN hcr1 hfr1 hb1 bf0 bf1 bf2 bf3 bf4 bf5 bf6 bf7 bf8 bf9 bf10
    go_wp2
    exact bodyPost_ret (v := .tuple #[.agg #[.slice none 0 0, .slice none 0 0, .slice none 0 0, .slice none 0 0, .slice none 0 0], .bool false]) (by simp [results, Tryz.results76, go_sem, *]) rfl (retRoomS_none HN.out (HXF.out.five (by omega) _ _ _ _ _))
  rw [decide_eq_true hu] at HF
  have HU := Lib.hid hu
  rw [hu]
  rw [hu] at HSL
  clear hu hl3
  rcases (Bool.eq_false_or_eq_true (vecB lic)).symm with q2 | q2
  all_goals rw [q2] at HV HF
  · have HN := Lib.hid (show R = none by rw [HF.out]; rfl)
    clear HF q1 q2 HSL
    go_enter Tryz.func76, Tryz.ntmps76
    go_wp2_with fail
    refine (HT.out _ (by repeat (first | exact Ext.refl _ | assumption | apply Ext.alloc | apply Ext.drewN | apply Ext.drew | (refine Ext.setCell ?_ (by first | (simp; done) | (simp; omega) | omega) _) | (refine Ext.trans ?_ (by assumption))))).mono ?_
    rintro e w1 ⟨rfl, hb1⟩
    obtain ⟨hcr1, hfr1, hz1⟩ := hb1.rules
    (try simp at hz1)
    have hy1_w0 : w.heap.size < w1.heap.size := (by omega)
    have hy1_w1 : w.heap.size + 1 < w1.heap.size := (by omega)
    have hy1_w2 : w.heap.size + 1 + 1 < w1.heap.size := (by omega)
    go_wp2_with fail
    refine (HV.out _).mono ?_
    rintro e w2 ⟨rfl, hb2⟩
    obtain ⟨hcr2, hfr2, hz2⟩ := hb2.rules
    (try simp at hz2)
    have hy2_w0 : w.heap.size < w2.heap.size := (by omega)
    have hy2_w1 : w.heap.size + 1 < w2.heap.size := (by omega)
    have hy2_w2 : w.heap.size + 1 + 1 < w2.heap.size := (by omega)
    have HXF := Lib.hid (((((Ext.refl w).alloc _).alloc _).alloc _).trans (hb1.trans hb2))
    have q0 := (((Ext.refl _).alloc _).trans (hb1.trans hb2)).cell (cell_box_at (w.alloc (.cells #[.slice A1 ps.length c1, .slice A2 ns.length c2, .slice A3 ns.length c3, .int .i64 lic.A, .int .i64 lic.B, .int .i64 lic.C, .int .i64 dep, .int .i64 now, .slice A6 qs.length c6, .slice A7 rs.length c7, .slice A8 es.length c8] 44)) (w.heap.size + 1) (by simp) [.slice none 0 0, .slice none 0 0, .slice none 0 0, .slice none 0 0, .slice none 0 0] 98 0 _ rfl)
    have q1 := (((Ext.refl _).alloc _).trans (hb1.trans hb2)).cell (cell_box_at (w.alloc (.cells #[.slice A1 ps.length c1, .slice A2 ns.length c2, .slice A3 ns.length c3, .int .i64 lic.A, .int .i64 lic.B, .int .i64 lic.C, .int .i64 dep, .int .i64 now, .slice A6 qs.length c6, .slice A7 rs.length c7, .slice A8 es.length c8] 44)) (w.heap.size + 1) (by simp) [.slice none 0 0, .slice none 0 0, .slice none 0 0, .slice none 0 0, .slice none 0 0] 98 1 _ rfl)
    have q2 := (((Ext.refl _).alloc _).trans (hb1.trans hb2)).cell (cell_box_at (w.alloc (.cells #[.slice A1 ps.length c1, .slice A2 ns.length c2, .slice A3 ns.length c3, .int .i64 lic.A, .int .i64 lic.B, .int .i64 lic.C, .int .i64 dep, .int .i64 now, .slice A6 qs.length c6, .slice A7 rs.length c7, .slice A8 es.length c8] 44)) (w.heap.size + 1) (by simp) [.slice none 0 0, .slice none 0 0, .slice none 0 0, .slice none 0 0, .slice none 0 0] 98 2 _ rfl)
    have q3 := (((Ext.refl _).alloc _).trans (hb1.trans hb2)).cell (cell_box_at (w.alloc (.cells #[.slice A1 ps.length c1, .slice A2 ns.length c2, .slice A3 ns.length c3, .int .i64 lic.A, .int .i64 lic.B, .int .i64 lic.C, .int .i64 dep, .int .i64 now, .slice A6 qs.length c6, .slice A7 rs.length c7, .slice A8 es.length c8] 44)) (w.heap.size + 1) (by simp) [.slice none 0 0, .slice none 0 0, .slice none 0 0, .slice none 0 0, .slice none 0 0] 98 3 _ rfl)
    have q4 := (((Ext.refl _).alloc _).trans (hb1.trans hb2)).cell (cell_box_at (w.alloc (.cells #[.slice A1 ps.length c1, .slice A2 ns.length c2, .slice A3 ns.length c3, .int .i64 lic.A, .int .i64 lic.B, .int .i64 lic.C, .int .i64 dep, .int .i64 now, .slice A6 qs.length c6, .slice A7 rs.length c7, .slice A8 es.length c8] 44)) (w.heap.size + 1) (by simp) [.slice none 0 0, .slice none 0 0, .slice none 0 0, .slice none 0 0, .slice none 0 0] 98 4 _ rfl)
    have qf0 := ((((Ext.refl _).alloc _).trans (hb1.trans hb2)).frozenEq (a := ⟨w.heap.size + 1, 0, none⟩) (by simp)).trans (frozen_box_at (w.alloc (.cells #[.slice A1 ps.length c1, .slice A2 ns.length c2, .slice A3 ns.length c3, .int .i64 lic.A, .int .i64 lic.B, .int .i64 lic.C, .int .i64 dep, .int .i64 now, .slice A6 qs.length c6, .slice A7 rs.length c7, .slice A8 es.length c8] 44)) (w.heap.size + 1) (by simp) #[.slice none 0 0, .slice none 0 0, .slice none 0 0, .slice none 0 0, .slice none 0 0] 98 0)
    have qf1 := ((((Ext.refl _).alloc _).trans (hb1.trans hb2)).frozenEq (a := ⟨w.heap.size + 1, 1, none⟩) (by simp)).trans (frozen_box_at (w.alloc (.cells #[.slice A1 ps.length c1, .slice A2 ns.length c2, .slice A3 ns.length c3, .int .i64 lic.A, .int .i64 lic.B, .int .i64 lic.C, .int .i64 dep, .int .i64 now, .slice A6 qs.length c6, .slice A7 rs.length c7, .slice A8 es.length c8] 44)) (w.heap.size + 1) (by simp) #[.slice none 0 0, .slice none 0 0, .slice none 0 0, .slice none 0 0, .slice none 0 0] 98 1)
    have qf2 := ((((Ext.refl _).alloc _).trans (hb1.trans hb2)).frozenEq (a := ⟨w.heap.size + 1, 2, none⟩) (by simp)).trans (frozen_box_at (w.alloc (.cells #[.slice A1 ps.length c1, .slice A2 ns.length c2, .slice A3 ns.length c3, .int .i64 lic.A, .int .i64 lic.B, .int .i64 lic.C, .int .i64 dep, .int .i64 now, .slice A6 qs.length c6, .slice A7 rs.length c7, .slice A8 es.length c8] 44)) (w.heap.size + 1) (by simp) #[.slice none 0 0, .slice none 0 0, .slice none 0 0, .slice none 0 0, .slice none 0 0] 98 2)
    have qf3 := ((((Ext.refl _).alloc _).trans (hb1.trans hb2)).frozenEq (a := ⟨w.heap.size + 1, 3, none⟩) (by simp)).trans (frozen_box_at (w.alloc (.cells #[.slice A1 ps.length c1, .slice A2 ns.length c2, .slice A3 ns.length c3, .int .i64 lic.A, .int .i64 lic.B, .int .i64 lic.C, .int .i64 dep, .int .i64 now, .slice A6 qs.length c6, .slice A7 rs.length c7, .slice A8 es.length c8] 44)) (w.heap.size + 1) (by simp) #[.slice none 0 0, .slice none 0 0, .slice none 0 0, .slice none 0 0, .slice none 0 0] 98 3)
    have qf4 := ((((Ext.refl _).alloc _).trans (hb1.trans hb2)).frozenEq (a := ⟨w.heap.size + 1, 4, none⟩) (by simp)).trans (frozen_box_at (w.alloc (.cells #[.slice A1 ps.length c1, .slice A2 ns.length c2, .slice A3 ns.length c3, .int .i64 lic.A, .int .i64 lic.B, .int .i64 lic.C, .int .i64 dep, .int .i64 now, .slice A6 qs.length c6, .slice A7 rs.length c7, .slice A8 es.length c8] 44)) (w.heap.size + 1) (by simp) #[.slice none 0 0, .slice none 0 0, .slice none 0 0, .slice none 0 0, .slice none 0 0] 98 4)
    have hql := lt_of_cell q0
    clear HT HV HPN hcr1 hfr1 hb1 hcr2 hfr2 hb2
    go_wp2
    exact bodyPost_ret (v := .tuple #[.agg #[.slice none 0 0, .slice none 0 0, .slice none 0 0, .slice none 0 0, .slice none 0 0], .bool false]) (by simp [results, Tryz.results76, go_sem, *]) rfl (retRoomS_none HN.out (HXF.out.five (by omega) _ _ _ _ _))
  have HG := Lib.hid (show R = some (room0 ns lic) by rw [HF.out]; rfl)
  have htp := topo_parts q1
  have HOK0 := Lib.hid (room0_ok q1 q2)
  have HNV := Lib.hid (show ∀ n ∈ ns, vecB n.Cap = true from fun n hn => by have := htp.2.2.2.2.1 n hn; unfold nodeB at this; simp only [Bool.and_eq_true] at this; exact this.2.2)
  have HPL := Lib.hid htp.1.2
  have hns24 := htp.2.1
  have HLV := Lib.hid q2
  clear HF q1 q2 htp
  go_enter Tryz.func76, Tryz.ntmps76
  go_wp2_with fail
  refine (HT.out _ (by repeat (first | exact Ext.refl _ | assumption | apply Ext.alloc | apply Ext.drewN | apply Ext.drew | (refine Ext.setCell ?_ (by first | (simp; done) | (simp; omega) | omega) _) | (refine Ext.trans ?_ (by assumption))))).mono ?_
  rintro e w1 ⟨rfl, hb1⟩
  obtain ⟨hcr1, hfr1, hz1⟩ := hb1.rules
  (try simp at hz1)
  have hy1_w0 : w.heap.size < w1.heap.size := (by omega)
  have hy1_w1 : w.heap.size + 1 < w1.heap.size := (by omega)
  have hy1_w2 : w.heap.size + 1 + 1 < w1.heap.size := (by omega)
  go_wp2_with fail
  refine (HV.out _).mono ?_
  rintro e w2 ⟨rfl, hb2⟩
  obtain ⟨hcr2, hfr2, hz2⟩ := hb2.rules
  (try simp at hz2)
  have hy2_w0 : w.heap.size < w2.heap.size := (by omega)
  have hy2_w1 : w.heap.size + 1 < w2.heap.size := (by omega)
  have hy2_w2 : w.heap.size + 1 + 1 < w2.heap.size := (by omega)
  have HX2 := Lib.hid (show Ext ((w.alloc (.cells #[.slice A1 ps.length c1, .slice A2 ns.length c2, .slice A3 ns.length c3, .int .i64 lic.A, .int .i64 lic.B, .int .i64 lic.C, .int .i64 dep, .int .i64 now, .slice A6 qs.length c6, .slice A7 rs.length c7, .slice A8 es.length c8] 44)).alloc (.cells #[.slice none 0 0, .slice none 0 0, .slice none 0 0, .slice none 0 0, .slice none 0 0] 98)) w2 from ((Ext.refl _).alloc _).trans (hb1.trans hb2))
  have HBX0 := Lib.hid (show w2.ownsRow (w.heap.size + 1 + 1) 98 5 (.slice (some ⟨w.heap.size + 1 + 1, 0, none⟩) 1 1) 1 [.slice A1 ps.length c1, .slice A2 ns.length c2, .slice A3 ns.length c3, .slice none 0 0, .slice none 0 0] from by
    have h := owns_ext (gbox ((w.alloc (.cells #[.slice A1 ps.length c1, .slice A2 ns.length c2, .slice A3 ns.length c3, .int .i64 lic.A, .int .i64 lic.B, .int .i64 lic.C, .int .i64 dep, .int .i64 now, .slice A6 qs.length c6, .slice A7 rs.length c7, .slice A8 es.length c8] 44)).alloc (.cells #[.slice none 0 0, .slice none 0 0, .slice none 0 0, .slice none 0 0, .slice none 0 0] 98)) [.slice A1 ps.length c1, .slice A2 ns.length c2, .slice A3 ns.length c3, .slice none 0 0, .slice none 0 0] 98 5 rfl) (hb1.trans hb2)
    rw [show ((w.alloc (.cells #[.slice A1 ps.length c1, .slice A2 ns.length c2, .slice A3 ns.length c3, .int .i64 lic.A, .int .i64 lic.B, .int .i64 lic.C, .int .i64 dep, .int .i64 now, .slice A6 qs.length c6, .slice A7 rs.length c7, .slice A8 es.length c8] 44)).alloc (.cells #[.slice none 0 0, .slice none 0 0, .slice none 0 0, .slice none 0 0, .slice none 0 0] 98)).heap.size = w.heap.size + 1 + 1 by simp] at h
    exact h)
  have s1 := (((Ext.refl (w.alloc (.cells #[.slice A1 ps.length c1, .slice A2 ns.length c2, .slice A3 ns.length c3, .int .i64 lic.A, .int .i64 lic.B, .int .i64 lic.C, .int .i64 dep, .int .i64 now, .slice A6 qs.length c6, .slice A7 rs.length c7, .slice A8 es.length c8] 44))).alloc _).trans HX2.out).cell (cell_box_at w w.heap.size rfl [.slice A1 ps.length c1, .slice A2 ns.length c2, .slice A3 ns.length c3, .int .i64 lic.A, .int .i64 lic.B, .int .i64 lic.C, .int .i64 dep, .int .i64 now, .slice A6 qs.length c6, .slice A7 rs.length c7, .slice A8 es.length c8] 44 1 _ rfl)
  have hs1 := lt_of_cell s1
  clear hb1 hb2 hcr1 hfr1 hcr2 hfr2 HT HV
  go_wp2
  go_loopw [39] (fun iv wr => ∃ (k : Nat) (A10 : Option Addr) (c10 : Nat), k ≤ ns.length ∧ iv = .int .i64 k ∧ Hid (PO wr (w.heap.size + 1 + 1) A10 k c10 ((ns.take k).map (fun n : Node => [(⟨0, n.Cap⟩ : Pt)]))) ∧ Hid (wr.ownsRow (w.heap.size + 1 + 1) 98 5 (.slice (some ⟨w.heap.size + 1 + 1, 0, none⟩) 1 1) 1 [.slice A1 ps.length c1, .slice A2 ns.length c2, .slice A3 ns.length c3, .slice A10 k c10, .slice none 0 0]) ∧ Ext ((w.alloc (.cells #[.slice A1 ps.length c1, .slice A2 ns.length c2, .slice A3 ns.length c3, .int .i64 lic.A, .int .i64 lic.B, .int .i64 lic.C, .int .i64 dep, .int .i64 now, .slice A6 qs.length c6, .slice A7 rs.length c7, .slice A8 es.length c8] 44)).alloc (.cells #[.slice none 0 0, .slice none 0 0, .slice none 0 0, .slice none 0 0, .slice none 0 0] 98)) wr) (fun iv _ => ns.length - (intOf iv).toNat)
  case atStart => exact ⟨0, none, 0, Nat.zero_le _, rfl, Lib.hid (PO.nil _ _), HBX0, HX2.out⟩
  case round =>
    clear HBX0 HX2 s1
    obtain ⟨k, A10, c10, hk, rfl, HPO, HBX, hb⟩ := hrel
    have hxw : Ext w wr := (((Ext.refl w).alloc _).alloc _).trans hb
    have hzb := (HBX.out.lt _ rfl).2
    by_cases hlt : k < ns.length
    · obtain ⟨bq, oq, x, cs, hA2, hbw, hx2, _, hc, rfl, hok⟩ := (HSL.out wr hxw).2.1.at_ hlt
      subst hA2
      have g0 := hc 0 _ rfl
      have g1 := hc 1 _ rfl
      have g2 := hc 2 _ rfl
      have g3 := hc 3 _ rfl
      simp only [Nat.add_zero] at g0
      have HX := Lib.hid hx2
      have HVX := Lib.hid (HNV.out x (List.mem_of_getElem? hx2))
      obtain ⟨hpl1, L, hL, hLi⟩ := HPO.out
      have HTK := Lib.hid hpl1
      have HLL := Lib.hid hL
      have HLI := Lib.hid hLi
      clear hx2 hc hok hpl1 hL hLi hxw
      go_wp2_with fail
      refine (HPN.out x.Cap HVX.out _).mono ?_
      rintro e w4 ⟨A11, c11, l, rfl, hr4, ho4, hy4, hb4⟩
      obtain rfl : l = [⟨0, x.Cap⟩] := by rcases hr4 with h4 | ⟨h4, _⟩; (injection h4 with h4; exact h4.symm); (cases h4)
      have HE4 := Lib.hid (show Ext wr w4 from ((Ext.refl wr).alloc _).trans hb4)
      have hz4 := HE4.out.le
      have HO4 := Lib.hid (owns_base ho4 (show w.heap.size + 1 + 1 ≤ _ by simp; omega))
      have HY4 := Lib.hid hy4
      have x4 := HE4.out.cell (gcells5 HBX.out).2.2.2.1
      have hl4 : w.heap.size + 1 + 1 < w4.heap.size := by omega
      clear hr4 ho4 hy4 hb4
      go_wp2_with (at_builtin; go_must (refine wpList_append_r (enc := encS) (ok := fun _ => True) (.tmp 50) (.tmp 52) _ (w.heap.size + 1 + 1) 96 i1 _ 1 24 (.slice A10 k c10) k L _ 1 1 [(A11, 1, c11)] rfl rfl Tryz.underlying93 hi1 hJ0 hJ1 hJ2 rfl (by omega) rfl (owns_ext HLL.out ((HE4.out.alloc _).alloc _)) rfl (by exact sl_one_at (enc := encS) _ _ (by simp) (A11, 1, c11) 96 rfl trivial) (fun _ => rfl) encS_one (by unfold maxLen; omega) (by omega) (by simp; omega) ?_); intro A12 c12 w5 hr5; have HR5 := Lib.hid hr5; have HB5 := Lib.hid (hr5.other (owns_ext HBX.out ((HE4.out.alloc _).alloc _)) (g_apart HBX.out HLL.out (by decide))); have x5 := (gcells5 HB5.out).2.2.2.1; have xf5 := HB5.out.frozenAt 3; have hl5 := (HB5.out.lt _ rfl).2; have hz5 := hr5.size; clear hr5)
      have HRN := Lib.hid (PO.grow HTK.out (owns_ext HLL.out ((HE4.out.alloc _).alloc _)) (fun j p hj => by obtain ⟨Ap, cp, e1, e2, e3⟩ := HLI.out j p hj; exact ⟨Ap, cp, e1, owns_ext e2 ((HE4.out.alloc _).alloc _), e3⟩) HR5.out (p := [⟨0, x.Cap⟩]) (by simp [encS]) (owns_ext HO4.out (((Ext.refl w4).alloc _).alloc _)) HY4.out)
      have HXT := Lib.hid (ext_turned (hb.trans ((HE4.out.alloc _).alloc _)) (HR5.out.turned (lo := w.heap.size + 1 + 1) (fun q hq => (HLL.out.lt q hq).1)) (by simp))
      clear x4
      go_wp2
      go_roundw
      case rel => exact ⟨k + 1, A12, c12, by omega, by go_num, Lib.hid (by rw [take_succ HX.out, List.map_append]; exact HRN.out.far HB5.out (by decide) (by decide)), Lib.hid (HB5.out.stored 3 _).1, HXT.out.setCell (by simp) _⟩
      case measure => simp [intOf]; omega
    · obtain ⟨hkn, HKN⟩ : k = ns.length ∧ Hid (k = ns.length) := ⟨by omega, Lib.hid (by omega)⟩
      have HMP := Lib.hid (show ((ns.take k).map (fun n : Node => [(⟨0, n.Cap⟩ : Pt)])) = ns.map (fun n : Node => [(⟨0, n.Cap⟩ : Pt)]) by rw [List.take_of_length_le (by have := HKN.out; omega)])
      rw [HMP.out] at HPO
      clear hkn
      have b0 := (((Ext.refl _).alloc _).trans hb).cell (cell_box_at w (w.heap.size) (by simp) [.slice A1 ps.length c1, .slice A2 ns.length c2, .slice A3 ns.length c3, .int .i64 lic.A, .int .i64 lic.B, .int .i64 lic.C, .int .i64 dep, .int .i64 now, .slice A6 qs.length c6, .slice A7 rs.length c7, .slice A8 es.length c8] 44 0 _ rfl)
      have b1 := (((Ext.refl _).alloc _).trans hb).cell (cell_box_at w (w.heap.size) (by simp) [.slice A1 ps.length c1, .slice A2 ns.length c2, .slice A3 ns.length c3, .int .i64 lic.A, .int .i64 lic.B, .int .i64 lic.C, .int .i64 dep, .int .i64 now, .slice A6 qs.length c6, .slice A7 rs.length c7, .slice A8 es.length c8] 44 1 _ rfl)
      have b2 := (((Ext.refl _).alloc _).trans hb).cell (cell_box_at w (w.heap.size) (by simp) [.slice A1 ps.length c1, .slice A2 ns.length c2, .slice A3 ns.length c3, .int .i64 lic.A, .int .i64 lic.B, .int .i64 lic.C, .int .i64 dep, .int .i64 now, .slice A6 qs.length c6, .slice A7 rs.length c7, .slice A8 es.length c8] 44 2 _ rfl)
      have b3 := (((Ext.refl _).alloc _).trans hb).cell (cell_box_at w (w.heap.size) (by simp) [.slice A1 ps.length c1, .slice A2 ns.length c2, .slice A3 ns.length c3, .int .i64 lic.A, .int .i64 lic.B, .int .i64 lic.C, .int .i64 dep, .int .i64 now, .slice A6 qs.length c6, .slice A7 rs.length c7, .slice A8 es.length c8] 44 3 _ rfl)
      have b4 := (((Ext.refl _).alloc _).trans hb).cell (cell_box_at w (w.heap.size) (by simp) [.slice A1 ps.length c1, .slice A2 ns.length c2, .slice A3 ns.length c3, .int .i64 lic.A, .int .i64 lic.B, .int .i64 lic.C, .int .i64 dep, .int .i64 now, .slice A6 qs.length c6, .slice A7 rs.length c7, .slice A8 es.length c8] 44 4 _ rfl)
      have b5 := (((Ext.refl _).alloc _).trans hb).cell (cell_box_at w (w.heap.size) (by simp) [.slice A1 ps.length c1, .slice A2 ns.length c2, .slice A3 ns.length c3, .int .i64 lic.A, .int .i64 lic.B, .int .i64 lic.C, .int .i64 dep, .int .i64 now, .slice A6 qs.length c6, .slice A7 rs.length c7, .slice A8 es.length c8] 44 5 _ rfl)
      have b6 := (((Ext.refl _).alloc _).trans hb).cell (cell_box_at w (w.heap.size) (by simp) [.slice A1 ps.length c1, .slice A2 ns.length c2, .slice A3 ns.length c3, .int .i64 lic.A, .int .i64 lic.B, .int .i64 lic.C, .int .i64 dep, .int .i64 now, .slice A6 qs.length c6, .slice A7 rs.length c7, .slice A8 es.length c8] 44 6 _ rfl)
      have b7 := (((Ext.refl _).alloc _).trans hb).cell (cell_box_at w (w.heap.size) (by simp) [.slice A1 ps.length c1, .slice A2 ns.length c2, .slice A3 ns.length c3, .int .i64 lic.A, .int .i64 lic.B, .int .i64 lic.C, .int .i64 dep, .int .i64 now, .slice A6 qs.length c6, .slice A7 rs.length c7, .slice A8 es.length c8] 44 7 _ rfl)
      have b8 := (((Ext.refl _).alloc _).trans hb).cell (cell_box_at w (w.heap.size) (by simp) [.slice A1 ps.length c1, .slice A2 ns.length c2, .slice A3 ns.length c3, .int .i64 lic.A, .int .i64 lic.B, .int .i64 lic.C, .int .i64 dep, .int .i64 now, .slice A6 qs.length c6, .slice A7 rs.length c7, .slice A8 es.length c8] 44 8 _ rfl)
      have b9 := (((Ext.refl _).alloc _).trans hb).cell (cell_box_at w (w.heap.size) (by simp) [.slice A1 ps.length c1, .slice A2 ns.length c2, .slice A3 ns.length c3, .int .i64 lic.A, .int .i64 lic.B, .int .i64 lic.C, .int .i64 dep, .int .i64 now, .slice A6 qs.length c6, .slice A7 rs.length c7, .slice A8 es.length c8] 44 9 _ rfl)
      have b10 := (((Ext.refl _).alloc _).trans hb).cell (cell_box_at w (w.heap.size) (by simp) [.slice A1 ps.length c1, .slice A2 ns.length c2, .slice A3 ns.length c3, .int .i64 lic.A, .int .i64 lic.B, .int .i64 lic.C, .int .i64 dep, .int .i64 now, .slice A6 qs.length c6, .slice A7 rs.length c7, .slice A8 es.length c8] 44 10 _ rfl)
      have bf0 := ((((Ext.refl _).alloc _).trans hb).frozenEq (a := ⟨w.heap.size, 0, none⟩) (by simp)).trans (frozen_box_at w (w.heap.size) (by simp) #[.slice A1 ps.length c1, .slice A2 ns.length c2, .slice A3 ns.length c3, .int .i64 lic.A, .int .i64 lic.B, .int .i64 lic.C, .int .i64 dep, .int .i64 now, .slice A6 qs.length c6, .slice A7 rs.length c7, .slice A8 es.length c8] 44 0)
      have bf1 := ((((Ext.refl _).alloc _).trans hb).frozenEq (a := ⟨w.heap.size, 1, none⟩) (by simp)).trans (frozen_box_at w (w.heap.size) (by simp) #[.slice A1 ps.length c1, .slice A2 ns.length c2, .slice A3 ns.length c3, .int .i64 lic.A, .int .i64 lic.B, .int .i64 lic.C, .int .i64 dep, .int .i64 now, .slice A6 qs.length c6, .slice A7 rs.length c7, .slice A8 es.length c8] 44 1)
      have bf2 := ((((Ext.refl _).alloc _).trans hb).frozenEq (a := ⟨w.heap.size, 2, none⟩) (by simp)).trans (frozen_box_at w (w.heap.size) (by simp) #[.slice A1 ps.length c1, .slice A2 ns.length c2, .slice A3 ns.length c3, .int .i64 lic.A, .int .i64 lic.B, .int .i64 lic.C, .int .i64 dep, .int .i64 now, .slice A6 qs.length c6, .slice A7 rs.length c7, .slice A8 es.length c8] 44 2)
      have bf3 := ((((Ext.refl _).alloc _).trans hb).frozenEq (a := ⟨w.heap.size, 3, none⟩) (by simp)).trans (frozen_box_at w (w.heap.size) (by simp) #[.slice A1 ps.length c1, .slice A2 ns.length c2, .slice A3 ns.length c3, .int .i64 lic.A, .int .i64 lic.B, .int .i64 lic.C, .int .i64 dep, .int .i64 now, .slice A6 qs.length c6, .slice A7 rs.length c7, .slice A8 es.length c8] 44 3)
      have bf4 := ((((Ext.refl _).alloc _).trans hb).frozenEq (a := ⟨w.heap.size, 4, none⟩) (by simp)).trans (frozen_box_at w (w.heap.size) (by simp) #[.slice A1 ps.length c1, .slice A2 ns.length c2, .slice A3 ns.length c3, .int .i64 lic.A, .int .i64 lic.B, .int .i64 lic.C, .int .i64 dep, .int .i64 now, .slice A6 qs.length c6, .slice A7 rs.length c7, .slice A8 es.length c8] 44 4)
      have bf5 := ((((Ext.refl _).alloc _).trans hb).frozenEq (a := ⟨w.heap.size, 5, none⟩) (by simp)).trans (frozen_box_at w (w.heap.size) (by simp) #[.slice A1 ps.length c1, .slice A2 ns.length c2, .slice A3 ns.length c3, .int .i64 lic.A, .int .i64 lic.B, .int .i64 lic.C, .int .i64 dep, .int .i64 now, .slice A6 qs.length c6, .slice A7 rs.length c7, .slice A8 es.length c8] 44 5)
      have bf6 := ((((Ext.refl _).alloc _).trans hb).frozenEq (a := ⟨w.heap.size, 6, none⟩) (by simp)).trans (frozen_box_at w (w.heap.size) (by simp) #[.slice A1 ps.length c1, .slice A2 ns.length c2, .slice A3 ns.length c3, .int .i64 lic.A, .int .i64 lic.B, .int .i64 lic.C, .int .i64 dep, .int .i64 now, .slice A6 qs.length c6, .slice A7 rs.length c7, .slice A8 es.length c8] 44 6)
      have bf7 := ((((Ext.refl _).alloc _).trans hb).frozenEq (a := ⟨w.heap.size, 7, none⟩) (by simp)).trans (frozen_box_at w (w.heap.size) (by simp) #[.slice A1 ps.length c1, .slice A2 ns.length c2, .slice A3 ns.length c3, .int .i64 lic.A, .int .i64 lic.B, .int .i64 lic.C, .int .i64 dep, .int .i64 now, .slice A6 qs.length c6, .slice A7 rs.length c7, .slice A8 es.length c8] 44 7)
      have bf8 := ((((Ext.refl _).alloc _).trans hb).frozenEq (a := ⟨w.heap.size, 8, none⟩) (by simp)).trans (frozen_box_at w (w.heap.size) (by simp) #[.slice A1 ps.length c1, .slice A2 ns.length c2, .slice A3 ns.length c3, .int .i64 lic.A, .int .i64 lic.B, .int .i64 lic.C, .int .i64 dep, .int .i64 now, .slice A6 qs.length c6, .slice A7 rs.length c7, .slice A8 es.length c8] 44 8)
      have bf9 := ((((Ext.refl _).alloc _).trans hb).frozenEq (a := ⟨w.heap.size, 9, none⟩) (by simp)).trans (frozen_box_at w (w.heap.size) (by simp) #[.slice A1 ps.length c1, .slice A2 ns.length c2, .slice A3 ns.length c3, .int .i64 lic.A, .int .i64 lic.B, .int .i64 lic.C, .int .i64 dep, .int .i64 now, .slice A6 qs.length c6, .slice A7 rs.length c7, .slice A8 es.length c8] 44 9)
      have bf10 := ((((Ext.refl _).alloc _).trans hb).frozenEq (a := ⟨w.heap.size, 10, none⟩) (by simp)).trans (frozen_box_at w (w.heap.size) (by simp) #[.slice A1 ps.length c1, .slice A2 ns.length c2, .slice A3 ns.length c3, .int .i64 lic.A, .int .i64 lic.B, .int .i64 lic.C, .int .i64 dep, .int .i64 now, .slice A6 qs.length c6, .slice A7 rs.length c7, .slice A8 es.length c8] 44 10)
      have hbl := lt_of_cell b0
      clear b0 b1 b2 b6 b7 b8 b9 b10 bf0 bf1 bf2 bf3 bf4 bf5 bf6 bf7 bf8 bf9 bf10
      go_wp2_with fail
      refine (HPN.out lic HLV.out _).mono ?_
      rintro e w4 ⟨A11, c11, l, rfl, hr4, ho4, hy4, hb4⟩
      obtain rfl : l = [⟨0, lic⟩] := by rcases hr4 with h4 | ⟨h4, _⟩; (injection h4 with h4; exact h4.symm); (cases h4)
      have hz4 := hb4.le
      have HBY := Lib.hid (owns_ext HBX.out hb4)
      have HBZ := Lib.hid (HBY.out.stored 4 (.slice A11 1 c11)).1
      have hxs : Ext ((w.alloc (.cells #[.slice A1 ps.length c1, .slice A2 ns.length c2, .slice A3 ns.length c3, .int .i64 lic.A, .int .i64 lic.B, .int .i64 lic.C, .int .i64 dep, .int .i64 now, .slice A6 qs.length c6, .slice A7 rs.length c7, .slice A8 es.length c8] 44)).alloc (.cells #[.slice none 0 0, .slice none 0 0, .slice none 0 0, .slice none 0 0, .slice none 0 0] 98)) (w4.setCell ⟨w.heap.size + 1 + 1, 4, none⟩ (.slice A11 1 c11)) := (hb.trans hb4).setCell (by simp) _
      have HXS := Lib.hid hxs
      have hws : Ext w (w4.setCell ⟨w.heap.size + 1 + 1, 4, none⟩ (.slice A11 1 c11)) := (((Ext.refl w).alloc _).alloc _).trans hxs
      have HOL := Lib.hid (owns_base ho4 (show w.heap.size + 1 + 1 ≤ _ by omega))
      have HRA := Lib.hid (show RoomAt (w4.setCell ⟨w.heap.size + 1 + 1, 4, none⟩ (.slice A11 1 c11)) ps ns up (ns.map (fun n => [⟨0, n.Cap⟩]), [⟨0, lic⟩]) (.agg #[.slice A1 ps.length c1, .slice A2 ns.length c2, .slice A3 ns.length c3, .slice A10 k c10, .slice A11 1 c11]) from
        ⟨A1, c1, A2, c2, A3, c3, A10, c10, A11, c11, by rw [HU.out, HKN.out]; simp, (HSL.out _ hws).1, (HSL.out _ hws).2.1, by rw [HU.out]; exact (HSL.out _ hws).2.2, by have := ((HPO.out.ext hb4).far HBY.out (p := 4) (u := .slice A11 1 c11) (by decide) (by decide)).sl; rw [HKN.out] at this; simpa using this, owns_sl Pt.size (g_far HOL.out (fun e => g_apart HOL.out HBY.out (by decide) _ e rfl)) hy4⟩)
      have HCC := Lib.hid (l04Copy_c ps ns up (ns.map (fun n => [⟨0, n.Cap⟩])) [⟨0, lic⟩] _ _ HRA.out HPL.out hns24 (by have := HU.out; omega) (by simpa using hns24) (fun p hp => by obtain ⟨y, _, rfl⟩ := List.mem_map.1 hp; simp) (by simp))
      obtain ⟨t0, t1, t2, t3, t4, tf0, tf1, tf2, tf3, tf4, tl⟩ := gcells5 HBY.out
      clear hb4 ho4 hy4 hr4 b3 b4 b5 HRA HOL hxs hws
      go_wp2_with fail
      refine HCC.out.mono ?_
      rintro e w6 ⟨E1, f1, E2, f2, E3, f3, E4, f4, E5, f5, rfl, hro, hb6⟩
      have hz6 := hb6.le
      simp at hz6
      have hx6 : Ext w w6 := ((((Ext.refl w).alloc _).alloc _).trans HXS.out).trans hb6
      have q0 := (HXS.out.trans hb6).cell (cell_box_at (w.alloc (.cells #[.slice A1 ps.length c1, .slice A2 ns.length c2, .slice A3 ns.length c3, .int .i64 lic.A, .int .i64 lic.B, .int .i64 lic.C, .int .i64 dep, .int .i64 now, .slice A6 qs.length c6, .slice A7 rs.length c7, .slice A8 es.length c8] 44)) (w.heap.size + 1) (by simp) [.slice none 0 0, .slice none 0 0, .slice none 0 0, .slice none 0 0, .slice none 0 0] 98 0 _ rfl)
      have q1 := (HXS.out.trans hb6).cell (cell_box_at (w.alloc (.cells #[.slice A1 ps.length c1, .slice A2 ns.length c2, .slice A3 ns.length c3, .int .i64 lic.A, .int .i64 lic.B, .int .i64 lic.C, .int .i64 dep, .int .i64 now, .slice A6 qs.length c6, .slice A7 rs.length c7, .slice A8 es.length c8] 44)) (w.heap.size + 1) (by simp) [.slice none 0 0, .slice none 0 0, .slice none 0 0, .slice none 0 0, .slice none 0 0] 98 1 _ rfl)
      have q2 := (HXS.out.trans hb6).cell (cell_box_at (w.alloc (.cells #[.slice A1 ps.length c1, .slice A2 ns.length c2, .slice A3 ns.length c3, .int .i64 lic.A, .int .i64 lic.B, .int .i64 lic.C, .int .i64 dep, .int .i64 now, .slice A6 qs.length c6, .slice A7 rs.length c7, .slice A8 es.length c8] 44)) (w.heap.size + 1) (by simp) [.slice none 0 0, .slice none 0 0, .slice none 0 0, .slice none 0 0, .slice none 0 0] 98 2 _ rfl)
      have q3 := (HXS.out.trans hb6).cell (cell_box_at (w.alloc (.cells #[.slice A1 ps.length c1, .slice A2 ns.length c2, .slice A3 ns.length c3, .int .i64 lic.A, .int .i64 lic.B, .int .i64 lic.C, .int .i64 dep, .int .i64 now, .slice A6 qs.length c6, .slice A7 rs.length c7, .slice A8 es.length c8] 44)) (w.heap.size + 1) (by simp) [.slice none 0 0, .slice none 0 0, .slice none 0 0, .slice none 0 0, .slice none 0 0] 98 3 _ rfl)
      have q4 := (HXS.out.trans hb6).cell (cell_box_at (w.alloc (.cells #[.slice A1 ps.length c1, .slice A2 ns.length c2, .slice A3 ns.length c3, .int .i64 lic.A, .int .i64 lic.B, .int .i64 lic.C, .int .i64 dep, .int .i64 now, .slice A6 qs.length c6, .slice A7 rs.length c7, .slice A8 es.length c8] 44)) (w.heap.size + 1) (by simp) [.slice none 0 0, .slice none 0 0, .slice none 0 0, .slice none 0 0, .slice none 0 0] 98 4 _ rfl)
      have qf0 := ((HXS.out.trans hb6).frozenEq (a := ⟨w.heap.size + 1, 0, none⟩) (by simp)).trans (frozen_box_at (w.alloc (.cells #[.slice A1 ps.length c1, .slice A2 ns.length c2, .slice A3 ns.length c3, .int .i64 lic.A, .int .i64 lic.B, .int .i64 lic.C, .int .i64 dep, .int .i64 now, .slice A6 qs.length c6, .slice A7 rs.length c7, .slice A8 es.length c8] 44)) (w.heap.size + 1) (by simp) #[.slice none 0 0, .slice none 0 0, .slice none 0 0, .slice none 0 0, .slice none 0 0] 98 0)
      have qf1 := ((HXS.out.trans hb6).frozenEq (a := ⟨w.heap.size + 1, 1, none⟩) (by simp)).trans (frozen_box_at (w.alloc (.cells #[.slice A1 ps.length c1, .slice A2 ns.length c2, .slice A3 ns.length c3, .int .i64 lic.A, .int .i64 lic.B, .int .i64 lic.C, .int .i64 dep, .int .i64 now, .slice A6 qs.length c6, .slice A7 rs.length c7, .slice A8 es.length c8] 44)) (w.heap.size + 1) (by simp) #[.slice none 0 0, .slice none 0 0, .slice none 0 0, .slice none 0 0, .slice none 0 0] 98 1)
      have qf2 := ((HXS.out.trans hb6).frozenEq (a := ⟨w.heap.size + 1, 2, none⟩) (by simp)).trans (frozen_box_at (w.alloc (.cells #[.slice A1 ps.length c1, .slice A2 ns.length c2, .slice A3 ns.length c3, .int .i64 lic.A, .int .i64 lic.B, .int .i64 lic.C, .int .i64 dep, .int .i64 now, .slice A6 qs.length c6, .slice A7 rs.length c7, .slice A8 es.length c8] 44)) (w.heap.size + 1) (by simp) #[.slice none 0 0, .slice none 0 0, .slice none 0 0, .slice none 0 0, .slice none 0 0] 98 2)
      have qf3 := ((HXS.out.trans hb6).frozenEq (a := ⟨w.heap.size + 1, 3, none⟩) (by simp)).trans (frozen_box_at (w.alloc (.cells #[.slice A1 ps.length c1, .slice A2 ns.length c2, .slice A3 ns.length c3, .int .i64 lic.A, .int .i64 lic.B, .int .i64 lic.C, .int .i64 dep, .int .i64 now, .slice A6 qs.length c6, .slice A7 rs.length c7, .slice A8 es.length c8] 44)) (w.heap.size + 1) (by simp) #[.slice none 0 0, .slice none 0 0, .slice none 0 0, .slice none 0 0, .slice none 0 0] 98 3)
      have qf4 := ((HXS.out.trans hb6).frozenEq (a := ⟨w.heap.size + 1, 4, none⟩) (by simp)).trans (frozen_box_at (w.alloc (.cells #[.slice A1 ps.length c1, .slice A2 ns.length c2, .slice A3 ns.length c3, .int .i64 lic.A, .int .i64 lic.B, .int .i64 lic.C, .int .i64 dep, .int .i64 now, .slice A6 qs.length c6, .slice A7 rs.length c7, .slice A8 es.length c8] 44)) (w.heap.size + 1) (by simp) #[.slice none 0 0, .slice none 0 0, .slice none 0 0, .slice none 0 0, .slice none 0 0] 98 4)
      have hql := lt_of_cell q0
      have HRB := Lib.hid (hro.base (lo' := w.heap.size + 1 + 1) (by simp; omega))
      have HRO4 := Lib.hid (((((HRB.out.low (b := w.heap.size + 1) (p := 0) (u := .slice E1 ps.length f1) (by omega)).low (b := w.heap.size + 1) (p := 1) (u := .slice E2 ns.length f2) (by omega)).low (b := w.heap.size + 1) (p := 2) (u := .slice E3 up.length f3) (by omega)).low (b := w.heap.size + 1) (p := 3) (u := .slice E4 ns.length f4) (by omega)).low (b := w.heap.size + 1) (p := 4) (u := .slice E5 1 f5) (by omega))
      have HXF := Lib.hid hx6
      clear hro hb6 hb hxw hx6 HBX HBY HBZ HPO HCC t0 t1 t2 t3 t4 tf0 tf1 tf2 tf3 tf4 tl HXS HRB HSL
      go_wp2
      exact bodyPost_ret (v := .tuple #[.agg #[.slice E1 ps.length f1, .slice E2 ns.length f2, .slice E3 up.length f3, .slice E4 ns.length f4, .slice E5 1 f5], .bool true]) (by simp [results, Tryz.results76, go_sem, *]) rfl ⟨E1, ps.length, f1, E2, ns.length, f2, E3, up.length, f3, E4, ns.length, f4, E5, 1, f5, by rw [HG.out]; rfl, fun r hr => by rw [HG.out] at hr; injection hr with hr; subst hr; exact ⟨rfl, rfl, rfl, (by simp [room0]), rfl, HRO4.out.base (by omega)⟩, HXF.out.five (by omega) _ _ _ _ _⟩
end Go.Proofs.YtfcffcgdbmkfgaaGreat
