/- Contract: a right state, the other way. Written by gensstok.py out of StOk.tpl. -/
import Derived.Test.YtfcffcgdbmkfgaaGreatSRoomOf
import Derived.Test.YtfcffcgdbmkfgaaGreatMStOk
namespace Go.Proofs.YtfcffcgdbmkfgaaGreat
open Go.RowKit
set_option linter.unusedVariables false
theorem chk_zero {p : Int → Bool} {l : List Int} {y : Int} (hy : l[0]? = some y) : ((l.drop 0).all p && ascGo (l.drop (0 - 1))) = (p y && ((l.drop (0 + 1)).all p && ascGo (l.drop (0 + 1 - 1)))) := by
  cases l with
  | nil => simp at hy
  | cons a r => simp at hy; subst hy; simp [Bool.and_assoc]
theorem chk_succ {p : Int → Bool} {l : List Int} {j : Nat} {y z : Int} (hz : l[j]? = some z) (hy : l[j + 1]? = some y) : ((l.drop (j + 1)).all p && ascGo (l.drop (j + 1 - 1))) = (p y && (decide (z < y) && ((l.drop (j + 1 + 1)).all p && ascGo (l.drop (j + 1 + 1 - 1))))) := by
  rw [show j + 1 - 1 = j by omega, show j + 1 + 1 - 1 = j + 1 by omega, drop_cons hz, drop_cons hy, List.all_cons, ascGo]
  cases p y <;> cases decide (z < y) <;> simp
theorem asc_last {l : List Int} {m : Nat} (h : l.length = m) : ascGo (l.drop (m - 1)) = true := by
  have h1 : (l.drop (m - 1)).length ≤ 1 := by rw [List.length_drop]; omega
  generalize l.drop (m - 1) = q at h1
  match q, h1 with
  | [], _ => rfl
  | [_], _ => rfl
  | _ :: _ :: _, h => simp at h
set_option maxHeartbeats 32000000 in
set_option maxRecDepth 10000 in
theorem sStateOk_c (s : State) (v : Value) (w : World) (h : StateAt w s v) (hlen : stateLen s) : Calls Tryz.prog 25 #[v] w (Ret w (.bool (stateB s))) := by
  have HRF := Lib.hid (fun hh : (roomF s).isSome = true => roomF_some hh)
  have HRM := Lib.hid (fun (u : World) (e : Ext w u) => sRoomOf_c s v u (h.ext e) hlen)
  have HAL := Lib.hid (fun (u : World) (e : Ext w u) => l06Jobs_c s v u (h.ext e) hlen)
  have HQL := Lib.hid (show (s.Queue ++ s.Runs.map Run.Job).length ≤ 2097152 by obtain ⟨_, _, _, h6, h7, _⟩ := hlen; simp; omega)
  have HSB := Lib.hid (show stateB s = ((roomF s).isSome && withinB s.Depth 0 60 && queueB (s.Queue ++ s.Runs.map Run.Job) && decide (s.Ends.length ≤ 300) && s.Runs.all (runLevB s) && s.Ends.all (endB s.Now)) from rfl)
  have HLV := Lib.hid (fun x : Run => show runLevB s x = (x.Nodes.all (fun n => s.Up.getD n.toNat false) && ascGo x.Nodes && decide (levT s.Topo.Parents (lowestI s.Topo.Parents s.Topo.Nodes x.Nodes).toNat ≤ x.Job.Level)) from rfl)
  generalize (s.Queue ++ s.Runs.map Run.Job) = jobs at *
  generalize roomF s = rf at *
  generalize stateB s = R at *
  generalize hrl : runLevB s = rl at *
  clear hrl
  obtain ⟨⟨ps, ns⟩, up, lic, dep, now, qs, rs, es⟩ := s
  obtain ⟨A1, c1, A2, c2, A3, c3, A6, c6, A7, c7, A8, c8, rfl, h1, h2, h3, h6, h7, h8⟩ := h
  obtain ⟨hl1, hl2, hl3, hl6, hl7, hl8⟩ := hlen
  simp only [] at h1 h2 h3 h6 h7 h8 hl1 hl2 hl3 hl6 hl7 hl8 HRF HRM HAL HSB HLV ⊢
  have HSL := Lib.hid (show SlAt RInt 1 w A1 ps.length ps ∧ SlAt RNode 4 w A2 ns.length ns ∧ SlAt RB 1 w A3 up.length up ∧ SlAt RRun 13 w A7 rs.length rs ∧ SlAt REnd 3 w A8 es.length es from ⟨h1, h2, h3, h7, h8⟩)
  clear h1 h2 h3 h6 h7 h8
  generalize hok : rf.isSome = ok at *
  go_enter Tryz.func25, Tryz.ntmps25
  go_wp2_with fail
  refine (HRM.out _ ((Ext.refl w).alloc _)).mono ?_
  rintro e w1 ⟨B1, n1, d1, B2, n2, d2, B3, n3, d3, B4, n4, d4, B5, n5, d5, rfl, _, hb1⟩
  simp only [hok]
  have hx1 : Ext w w1 := ((Ext.refl w).alloc _).trans hb1
  have b0 := (hb1).cell (cell_box_at w (w.heap.size) (by simp) [.slice A1 ps.length c1, .slice A2 ns.length c2, .slice A3 up.length c3, .int .i64 lic.A, .int .i64 lic.B, .int .i64 lic.C, .int .i64 dep, .int .i64 now, .slice A6 qs.length c6, .slice A7 rs.length c7, .slice A8 es.length c8] 44 0 _ rfl)
  have b1 := (hb1).cell (cell_box_at w (w.heap.size) (by simp) [.slice A1 ps.length c1, .slice A2 ns.length c2, .slice A3 up.length c3, .int .i64 lic.A, .int .i64 lic.B, .int .i64 lic.C, .int .i64 dep, .int .i64 now, .slice A6 qs.length c6, .slice A7 rs.length c7, .slice A8 es.length c8] 44 1 _ rfl)
  have b2 := (hb1).cell (cell_box_at w (w.heap.size) (by simp) [.slice A1 ps.length c1, .slice A2 ns.length c2, .slice A3 up.length c3, .int .i64 lic.A, .int .i64 lic.B, .int .i64 lic.C, .int .i64 dep, .int .i64 now, .slice A6 qs.length c6, .slice A7 rs.length c7, .slice A8 es.length c8] 44 2 _ rfl)
  have b3 := (hb1).cell (cell_box_at w (w.heap.size) (by simp) [.slice A1 ps.length c1, .slice A2 ns.length c2, .slice A3 up.length c3, .int .i64 lic.A, .int .i64 lic.B, .int .i64 lic.C, .int .i64 dep, .int .i64 now, .slice A6 qs.length c6, .slice A7 rs.length c7, .slice A8 es.length c8] 44 3 _ rfl)
  have b4 := (hb1).cell (cell_box_at w (w.heap.size) (by simp) [.slice A1 ps.length c1, .slice A2 ns.length c2, .slice A3 up.length c3, .int .i64 lic.A, .int .i64 lic.B, .int .i64 lic.C, .int .i64 dep, .int .i64 now, .slice A6 qs.length c6, .slice A7 rs.length c7, .slice A8 es.length c8] 44 4 _ rfl)
  have b5 := (hb1).cell (cell_box_at w (w.heap.size) (by simp) [.slice A1 ps.length c1, .slice A2 ns.length c2, .slice A3 up.length c3, .int .i64 lic.A, .int .i64 lic.B, .int .i64 lic.C, .int .i64 dep, .int .i64 now, .slice A6 qs.length c6, .slice A7 rs.length c7, .slice A8 es.length c8] 44 5 _ rfl)
  have b6 := (hb1).cell (cell_box_at w (w.heap.size) (by simp) [.slice A1 ps.length c1, .slice A2 ns.length c2, .slice A3 up.length c3, .int .i64 lic.A, .int .i64 lic.B, .int .i64 lic.C, .int .i64 dep, .int .i64 now, .slice A6 qs.length c6, .slice A7 rs.length c7, .slice A8 es.length c8] 44 6 _ rfl)
  have b7 := (hb1).cell (cell_box_at w (w.heap.size) (by simp) [.slice A1 ps.length c1, .slice A2 ns.length c2, .slice A3 up.length c3, .int .i64 lic.A, .int .i64 lic.B, .int .i64 lic.C, .int .i64 dep, .int .i64 now, .slice A6 qs.length c6, .slice A7 rs.length c7, .slice A8 es.length c8] 44 7 _ rfl)
  have b8 := (hb1).cell (cell_box_at w (w.heap.size) (by simp) [.slice A1 ps.length c1, .slice A2 ns.length c2, .slice A3 up.length c3, .int .i64 lic.A, .int .i64 lic.B, .int .i64 lic.C, .int .i64 dep, .int .i64 now, .slice A6 qs.length c6, .slice A7 rs.length c7, .slice A8 es.length c8] 44 8 _ rfl)
  have b9 := (hb1).cell (cell_box_at w (w.heap.size) (by simp) [.slice A1 ps.length c1, .slice A2 ns.length c2, .slice A3 up.length c3, .int .i64 lic.A, .int .i64 lic.B, .int .i64 lic.C, .int .i64 dep, .int .i64 now, .slice A6 qs.length c6, .slice A7 rs.length c7, .slice A8 es.length c8] 44 9 _ rfl)
  have b10 := (hb1).cell (cell_box_at w (w.heap.size) (by simp) [.slice A1 ps.length c1, .slice A2 ns.length c2, .slice A3 up.length c3, .int .i64 lic.A, .int .i64 lic.B, .int .i64 lic.C, .int .i64 dep, .int .i64 now, .slice A6 qs.length c6, .slice A7 rs.length c7, .slice A8 es.length c8] 44 10 _ rfl)
  have bf0 := ((hb1).frozenEq (a := ⟨w.heap.size, 0, none⟩) (by simp)).trans (frozen_box_at w (w.heap.size) (by simp) #[.slice A1 ps.length c1, .slice A2 ns.length c2, .slice A3 up.length c3, .int .i64 lic.A, .int .i64 lic.B, .int .i64 lic.C, .int .i64 dep, .int .i64 now, .slice A6 qs.length c6, .slice A7 rs.length c7, .slice A8 es.length c8] 44 0)
  have bf1 := ((hb1).frozenEq (a := ⟨w.heap.size, 1, none⟩) (by simp)).trans (frozen_box_at w (w.heap.size) (by simp) #[.slice A1 ps.length c1, .slice A2 ns.length c2, .slice A3 up.length c3, .int .i64 lic.A, .int .i64 lic.B, .int .i64 lic.C, .int .i64 dep, .int .i64 now, .slice A6 qs.length c6, .slice A7 rs.length c7, .slice A8 es.length c8] 44 1)
  have bf2 := ((hb1).frozenEq (a := ⟨w.heap.size, 2, none⟩) (by simp)).trans (frozen_box_at w (w.heap.size) (by simp) #[.slice A1 ps.length c1, .slice A2 ns.length c2, .slice A3 up.length c3, .int .i64 lic.A, .int .i64 lic.B, .int .i64 lic.C, .int .i64 dep, .int .i64 now, .slice A6 qs.length c6, .slice A7 rs.length c7, .slice A8 es.length c8] 44 2)
  have bf3 := ((hb1).frozenEq (a := ⟨w.heap.size, 3, none⟩) (by simp)).trans (frozen_box_at w (w.heap.size) (by simp) #[.slice A1 ps.length c1, .slice A2 ns.length c2, .slice A3 up.length c3, .int .i64 lic.A, .int .i64 lic.B, .int .i64 lic.C, .int .i64 dep, .int .i64 now, .slice A6 qs.length c6, .slice A7 rs.length c7, .slice A8 es.length c8] 44 3)
  have bf4 := ((hb1).frozenEq (a := ⟨w.heap.size, 4, none⟩) (by simp)).trans (frozen_box_at w (w.heap.size) (by simp) #[.slice A1 ps.length c1, .slice A2 ns.length c2, .slice A3 up.length c3, .int .i64 lic.A, .int .i64 lic.B, .int .i64 lic.C, .int .i64 dep, .int .i64 now, .slice A6 qs.length c6, .slice A7 rs.length c7, .slice A8 es.length c8] 44 4)
  have bf5 := ((hb1).frozenEq (a := ⟨w.heap.size, 5, none⟩) (by simp)).trans (frozen_box_at w (w.heap.size) (by simp) #[.slice A1 ps.length c1, .slice A2 ns.length c2, .slice A3 up.length c3, .int .i64 lic.A, .int .i64 lic.B, .int .i64 lic.C, .int .i64 dep, .int .i64 now, .slice A6 qs.length c6, .slice A7 rs.length c7, .slice A8 es.length c8] 44 5)
  have bf6 := ((hb1).frozenEq (a := ⟨w.heap.size, 6, none⟩) (by simp)).trans (frozen_box_at w (w.heap.size) (by simp) #[.slice A1 ps.length c1, .slice A2 ns.length c2, .slice A3 up.length c3, .int .i64 lic.A, .int .i64 lic.B, .int .i64 lic.C, .int .i64 dep, .int .i64 now, .slice A6 qs.length c6, .slice A7 rs.length c7, .slice A8 es.length c8] 44 6)
  have bf7 := ((hb1).frozenEq (a := ⟨w.heap.size, 7, none⟩) (by simp)).trans (frozen_box_at w (w.heap.size) (by simp) #[.slice A1 ps.length c1, .slice A2 ns.length c2, .slice A3 up.length c3, .int .i64 lic.A, .int .i64 lic.B, .int .i64 lic.C, .int .i64 dep, .int .i64 now, .slice A6 qs.length c6, .slice A7 rs.length c7, .slice A8 es.length c8] 44 7)
  have bf8 := ((hb1).frozenEq (a := ⟨w.heap.size, 8, none⟩) (by simp)).trans (frozen_box_at w (w.heap.size) (by simp) #[.slice A1 ps.length c1, .slice A2 ns.length c2, .slice A3 up.length c3, .int .i64 lic.A, .int .i64 lic.B, .int .i64 lic.C, .int .i64 dep, .int .i64 now, .slice A6 qs.length c6, .slice A7 rs.length c7, .slice A8 es.length c8] 44 8)
  have bf9 := ((hb1).frozenEq (a := ⟨w.heap.size, 9, none⟩) (by simp)).trans (frozen_box_at w (w.heap.size) (by simp) #[.slice A1 ps.length c1, .slice A2 ns.length c2, .slice A3 up.length c3, .int .i64 lic.A, .int .i64 lic.B, .int .i64 lic.C, .int .i64 dep, .int .i64 now, .slice A6 qs.length c6, .slice A7 rs.length c7, .slice A8 es.length c8] 44 9)
  have bf10 := ((hb1).frozenEq (a := ⟨w.heap.size, 10, none⟩) (by simp)).trans (frozen_box_at w (w.heap.size) (by simp) #[.slice A1 ps.length c1, .slice A2 ns.length c2, .slice A3 up.length c3, .int .i64 lic.A, .int .i64 lic.B, .int .i64 lic.C, .int .i64 dep, .int .i64 now, .slice A6 qs.length c6, .slice A7 rs.length c7, .slice A8 es.length c8] 44 10)
  have hbl := lt_of_cell b0
  clear bf0 bf1 bf2 bf3 bf4 bf5 bf6 bf7 bf8 bf9 bf10
  rcases ok with _ | _
  · go_wp2
    exact ret_bool rfl rfl rfl (by rw [HSB.out]; rfl) (hx1.alloc _)
  have hdep : (dep < 0) ∨ (60 < dep) ∨ (0 ≤ dep ∧ dep ≤ 60) := by omega
  rcases hdep with p1 | p1 | ⟨p1, p2⟩
  · have q1 : withinB dep 0 60 = false := by unfold withinB; exact decide_eq_false (by omega)
    rw [q1] at HSB
    have d1 : decide (dep < 0) = true := decide_eq_true p1
    clear q1
    go_wp2
    exact ret_bool rfl rfl rfl (by rw [HSB.out]; rfl) (hx1.alloc _)
  · have q1 : withinB dep 0 60 = false := by unfold withinB; exact decide_eq_false (by omega)
    rw [q1] at HSB
    have d1 : decide (dep < 0) = false := decide_eq_false (by omega)
    have d2 : decide (60 < dep) = true := decide_eq_true p1
    clear q1
    go_wp2
    exact ret_bool rfl rfl rfl (by rw [HSB.out]; rfl) (hx1.alloc _)
  have q1 : withinB dep 0 60 = true := by unfold withinB; exact decide_eq_true ⟨p1, p2⟩
  rw [q1] at HSB
  have d1 : decide (dep < 0) = false := decide_eq_false (by omega)
  have d2 : decide (60 < dep) = false := decide_eq_false (by omega)
  clear q1
  go_wp2_with fail
  refine (HAL.out _ (hx1.alloc _)).mono ?_
  rintro e w3 ⟨B6, d6, rfl, ho3, hok3, hb3⟩
  have hx3 : Ext w w3 := (hx1.alloc _).trans hb3
  have HQK := Lib.hid (sQueueOk_c jobs B6 jobs.length d6 w3 (owns_sl Job.size ho3 hok3) (by have := HQL.out; unfold maxLen; omega))
  clear ho3 hok3
  go_wp2_with fail
  refine HQK.out.mono ?_
  rintro e w4 ⟨rfl, hb4⟩
  have hx4 : Ext w w4 := hx3.trans hb4
  have HX4 := Lib.hid (show Ext (w.alloc (.cells #[.slice A1 ps.length c1, .slice A2 ns.length c2, .slice A3 up.length c3, .int .i64 lic.A, .int .i64 lic.B, .int .i64 lic.C, .int .i64 dep, .int .i64 now, .slice A6 qs.length c6, .slice A7 rs.length c7, .slice A8 es.length c8] 44)) w4 from ((hb1.alloc _).trans hb3).trans hb4)
  have b9 := HX4.out.cell (cell_box_at w w.heap.size rfl [.slice A1 ps.length c1, .slice A2 ns.length c2, .slice A3 up.length c3, .int .i64 lic.A, .int .i64 lic.B, .int .i64 lic.C, .int .i64 dep, .int .i64 now, .slice A6 qs.length c6, .slice A7 rs.length c7, .slice A8 es.length c8] 44 9 _ rfl)
  have b10 := HX4.out.cell (cell_box_at w w.heap.size rfl [.slice A1 ps.length c1, .slice A2 ns.length c2, .slice A3 up.length c3, .int .i64 lic.A, .int .i64 lic.B, .int .i64 lic.C, .int .i64 dep, .int .i64 now, .slice A6 qs.length c6, .slice A7 rs.length c7, .slice A8 es.length c8] 44 10 _ rfl)
  have hbl4 := lt_of_cell b9
  clear b0 b1 b2 b3 b4 b5 b6 b7 b8 HQK HAL HRM hb1 hb3 hb4 hx1 hx3 hbl
  rcases (Bool.eq_false_or_eq_true (queueB jobs)).symm with q2 | q2
  all_goals rw [q2] at HSB ⊢
  · clear q2
    go_wp2
    exact ret_bool rfl rfl rfl (by rw [HSB.out]; rfl) hx4
  clear q2
  by_cases he : es.length ≤ 300
  rotate_left
  · have hd := decide_eq_false he
    go_wp2
    exact ret_bool rfl rfl rfl (by rw [HSB.out, hd]; rfl) hx4
  rw [decide_eq_true he] at HSB
  have HSC := Lib.hid (show R = (rs.all rl && es.all (endB now)) by rw [HSB.out]; simp)
  obtain ⟨hhd, hruns⟩ := HRF.out (by trivial)
  obtain ⟨ht, hup, hlc, htm⟩ := head_parts hhd
  simp only [] at ht hup hlc htm hruns
  have HT := Lib.hid ht
  have HUP := Lib.hid hup
  have HRU := Lib.hid hruns
  have hnow : 0 ≤ now ∧ now ≤ 1000000000 := by unfold timeB at htm; rw [decide_eq_true_iff] at htm; exact htm
  have HNOW := Lib.hid hnow
  have HTP := Lib.hid (topo_parts ht)
  clear hhd ht hup hlc htm hruns hnow HRF HSB
  go_wp2
  go_loopw [43] (fun iv wr => ∃ k : Nat, k ≤ rs.length ∧ iv = .int .i64 k ∧ Hid (rs.all rl = (rs.drop k).all rl) ∧ Ext (w.alloc (.cells #[.slice A1 ps.length c1, .slice A2 ns.length c2, .slice A3 up.length c3, .int .i64 lic.A, .int .i64 lic.B, .int .i64 lic.C, .int .i64 dep, .int .i64 now, .slice A6 qs.length c6, .slice A7 rs.length c7, .slice A8 es.length c8] 44)) wr) (fun iv _ => rs.length - (intOf iv).toNat)
  case atStart => exact ⟨0, Nat.zero_le _, rfl, Lib.hid rfl, HX4.out⟩
  case round =>
    clear b9 b10 hx4 HX4 hbl4
    obtain ⟨k, hk, rfl, HE, hb⟩ := hrel
    have hxw : Ext w wr := ((Ext.refl w).alloc _).trans hb
    by_cases hlt : k < rs.length
    · obtain ⟨bq, oq, x, cs, hA7, hbw, hx, _, hc, Ar, cr, rfl, hs, hcr, hnl, hat64, hjok⟩ := (HSL.out.2.2.2.1.ext RRun.mono hxw).at_ hlt
      subst hA7
      have g0 := hc 0 _ rfl
      have g1 := hc 1 _ rfl
      have g2 := hc 2 _ rfl
      have g3 := hc 3 _ rfl
      have g4 := hc 4 _ rfl
      have g5 := hc 5 _ rfl
      have g6 := hc 6 _ rfl
      have g7 := hc 7 _ rfl
      have g8 := hc 8 _ rfl
      have g9 := hc 9 _ rfl
      have g10 := hc 10 _ rfl
      have g11 := hc 11 _ rfl
      have g12 := hc 12 _ rfl
      simp only [Nat.add_zero] at g0
      have HST := Lib.hid (all_drop (p := rl) hx)
      have HRP := Lib.hid (runOk_parts (HRU.out x (List.mem_of_getElem? hx)))
      have HN3 := Lib.hid (fun (u : World) (e : Ext wr u) => hs.ext (Flat.mono encInt In64) e)
      have HX3 := Lib.hid (HLV.out x)
      have HLR := Lib.hid (lowest_range HT.out HRP.out.2.1 HRP.out.2.2)
      clear hx hc hs hcr hat64 hjok
      generalize hq : x.Nodes.length = nl at *
      have HNL := Lib.hid hq
      clear hq
      have HB0 := Lib.hid (fun (u : World) (e : Ext (wr.alloc (.cells #[.int .i64 x.Job.Id, .int .i64 x.Job.Prio, .int .i64 x.Job.Nodes, .int .i64 x.Job.Need.A, .int .i64 x.Job.Need.B, .int .i64 x.Job.Need.C, .int .i64 x.Job.Lic.A, .int .i64 x.Job.Lic.B, .int .i64 x.Job.Lic.C, .int .i64 x.Job.Wall, .int .i64 x.Job.Level, .int .i64 x.At, .slice Ar nl cr] 64)) u) => show (u.cell? ⟨w.heap.size, 0, none⟩ = some (.slice A1 ps.length c1) ∧ u.cell? ⟨w.heap.size, 1, none⟩ = some (.slice A2 ns.length c2) ∧ u.cell? ⟨w.heap.size, 2, none⟩ = some (.slice A3 up.length c3)) ∧ u.cell? ⟨wr.heap.size, 12, none⟩ = some (.slice Ar nl cr) ∧ u.cell? ⟨wr.heap.size, 10, none⟩ = some (.int .i64 x.Job.Level) from ⟨⟨((hb.alloc _).trans e).cell (cell_box_at w w.heap.size rfl [.slice A1 ps.length c1, .slice A2 ns.length c2, .slice A3 up.length c3, .int .i64 lic.A, .int .i64 lic.B, .int .i64 lic.C, .int .i64 dep, .int .i64 now, .slice A6 qs.length c6, .slice (some ⟨bq, oq, none⟩) rs.length c7, .slice A8 es.length c8] 44 0 _ rfl), ((hb.alloc _).trans e).cell (cell_box_at w w.heap.size rfl [.slice A1 ps.length c1, .slice A2 ns.length c2, .slice A3 up.length c3, .int .i64 lic.A, .int .i64 lic.B, .int .i64 lic.C, .int .i64 dep, .int .i64 now, .slice A6 qs.length c6, .slice (some ⟨bq, oq, none⟩) rs.length c7, .slice A8 es.length c8] 44 1 _ rfl), ((hb.alloc _).trans e).cell (cell_box_at w w.heap.size rfl [.slice A1 ps.length c1, .slice A2 ns.length c2, .slice A3 up.length c3, .int .i64 lic.A, .int .i64 lic.B, .int .i64 lic.C, .int .i64 dep, .int .i64 now, .slice A6 qs.length c6, .slice (some ⟨bq, oq, none⟩) rs.length c7, .slice A8 es.length c8] 44 2 _ rfl)⟩, e.cell (cell_box_at wr wr.heap.size rfl [.int .i64 x.Job.Id, .int .i64 x.Job.Prio, .int .i64 x.Job.Nodes, .int .i64 x.Job.Need.A, .int .i64 x.Job.Need.B, .int .i64 x.Job.Need.C, .int .i64 x.Job.Lic.A, .int .i64 x.Job.Lic.B, .int .i64 x.Job.Lic.C, .int .i64 x.Job.Wall, .int .i64 x.Job.Level, .int .i64 x.At, .slice Ar nl cr] 64 12 _ rfl), e.cell (cell_box_at wr wr.heap.size rfl [.int .i64 x.Job.Id, .int .i64 x.Job.Prio, .int .i64 x.Job.Nodes, .int .i64 x.Job.Need.A, .int .i64 x.Job.Need.B, .int .i64 x.Job.Need.C, .int .i64 x.Job.Lic.A, .int .i64 x.Job.Lic.B, .int .i64 x.Job.Lic.C, .int .i64 x.Job.Wall, .int .i64 x.Job.Level, .int .i64 x.At, .slice Ar nl cr] 64 10 _ rfl)⟩)
      have HEW := Lib.hid (fun (u : World) (e : Ext (wr.alloc (.cells #[.int .i64 x.Job.Id, .int .i64 x.Job.Prio, .int .i64 x.Job.Nodes, .int .i64 x.Job.Need.A, .int .i64 x.Job.Need.B, .int .i64 x.Job.Need.C, .int .i64 x.Job.Lic.A, .int .i64 x.Job.Lic.B, .int .i64 x.Job.Lic.C, .int .i64 x.Job.Wall, .int .i64 x.Job.Level, .int .i64 x.At, .slice Ar nl cr] 64)) u) => show Ext wr u from ((Ext.refl _).alloc _).trans e)
      have HXW := Lib.hid (fun (u : World) (e : Ext (wr.alloc (.cells #[.int .i64 x.Job.Id, .int .i64 x.Job.Prio, .int .i64 x.Job.Nodes, .int .i64 x.Job.Need.A, .int .i64 x.Job.Need.B, .int .i64 x.Job.Need.C, .int .i64 x.Job.Lic.A, .int .i64 x.Job.Lic.B, .int .i64 x.Job.Lic.C, .int .i64 x.Job.Wall, .int .i64 x.Job.Level, .int .i64 x.At, .slice Ar nl cr] 64)) u) => hxw.trans (HEW.out u e))
      obtain ⟨tl, htl⟩ : ∃ tl : Nat, lowestI ps ns x.Nodes = tl := ⟨(lowestI ps ns x.Nodes).toNat, by have := HLR.out; omega⟩
      have htl2 : tl < ps.length := by have := HLR.out; omega
      rw [htl] at HX3
      rw [show ((tl : Int)).toNat = tl by omega] at HX3
      have hn1 : 1 ≤ nl := HRP.out.2.2
      have HLW := Lib.hid (fun (u : World) (e : Ext (wr.alloc (.cells #[.int .i64 x.Job.Id, .int .i64 x.Job.Prio, .int .i64 x.Job.Nodes, .int .i64 x.Job.Need.A, .int .i64 x.Job.Need.B, .int .i64 x.Job.Need.C, .int .i64 x.Job.Lic.A, .int .i64 x.Job.Lic.B, .int .i64 x.Job.Lic.C, .int .i64 x.Job.Wall, .int .i64 x.Job.Level, .int .i64 x.At, .slice Ar nl cr] 64)) u) => show Calls Tryz.prog 57 #[.agg #[.slice A1 ps.length c1, .slice A2 ns.length c2], .slice Ar nl cr] u (Ret u (.int .i64 tl)) from by
        obtain ⟨m, hm⟩ : ∃ m, ps.length = m + 1 := ⟨ps.length - 1, by have := HTP.out.1.1; omega⟩
        have h1 := HSL.out.1.ext (Flat.mono _ _) (HXW.out u e)
        rw [hm] at h1
        rw [← htl, hm]
        exact sLowest_c ps ns x.Nodes A1 m c1 A2 ns.length c2 Ar nl cr u h1 (HSL.out.2.1.ext (Flat.mono _ _) (HXW.out u e)) (HN3.out u (HEW.out u e)) (by omega) (by omega) HT.out HRP.out.2.1)
      have HLE := Lib.hid (fun (u : World) (e : Ext (wr.alloc (.cells #[.int .i64 x.Job.Id, .int .i64 x.Job.Prio, .int .i64 x.Job.Nodes, .int .i64 x.Job.Need.A, .int .i64 x.Job.Need.B, .int .i64 x.Job.Need.C, .int .i64 x.Job.Lic.A, .int .i64 x.Job.Lic.B, .int .i64 x.Job.Lic.C, .int .i64 x.Job.Wall, .int .i64 x.Job.Level, .int .i64 x.At, .slice Ar nl cr] 64)) u) => show Calls Tryz.prog 56 #[.agg #[.slice A1 ps.length c1, .slice A2 ns.length c2], .int .i64 tl] u (Ret u (.int .i64 (levT ps tl))) from by
        have h1 := l02Level_c ps A1 ps.length c1 A2 ns.length c2 HTP.out.1.2 rfl HTP.out.2.2.1 24 tl u htl2 (by have := HTP.out.1.2; omega) (HSL.out.1.ext (Flat.mono _ _) (HXW.out u e)) (Nat.le_refl _)
        rw [lev_eq HT.out htl2 (by have := HTP.out.1.2; omega)] at h1
        exact h1)
      go_wp2
      go_loopw [50] (fun jv wq => ∃ j : Nat, j ≤ nl ∧ jv = .int .i64 j ∧ Hid ((x.Nodes.all (fun n => up.getD n.toNat false) && ascGo x.Nodes) = ((x.Nodes.drop j).all (fun n => up.getD n.toNat false) && ascGo (x.Nodes.drop (j - 1)))) ∧ Ext (wr.alloc (.cells #[.int .i64 x.Job.Id, .int .i64 x.Job.Prio, .int .i64 x.Job.Nodes, .int .i64 x.Job.Need.A, .int .i64 x.Job.Need.B, .int .i64 x.Job.Need.C, .int .i64 x.Job.Lic.A, .int .i64 x.Job.Lic.B, .int .i64 x.Job.Lic.C, .int .i64 x.Job.Wall, .int .i64 x.Job.Level, .int .i64 x.At, .slice Ar nl cr] 64)) wq) (fun jv _ => nl - (intOf jv).toNat)
      case atStart => exact ⟨0, Nat.zero_le _, rfl, Lib.hid rfl, Ext.refl _⟩
      case round =>
        clear g0 g1 g2 g3 g4 g5 g6 g7 g8 g9 g10 g11 g12
        obtain ⟨j, hj, rfl, HU, hbq⟩ := hrel
        obtain ⟨⟨z0, z1, z2⟩, z12, z10⟩ := HB0.out _ hbq
        have hz0 := lt_of_cell z0
        have hz12 := lt_of_cell z12
        by_cases hlt2 : j < nl
        · obtain ⟨bo, oo, y, cs2, hD, hbw2, hy, _, hc2, rfl, _⟩ := (HN3.out _ (HEW.out _ hbq)).at_ hlt2
          have hc3 := hc2
          subst hD
          have y0 := hc2 0 _ rfl
          simp only [Nat.mul_one, Nat.add_zero] at y0
          have HY := Lib.hid hy
          obtain ⟨hya, hyb⟩ := nodesIn_at HRP.out.2.1 (List.mem_of_getElem? hy)
          obtain ⟨i, rfl⟩ := Int.eq_ofNat_of_zero_le hya
          have hiu : i < up.length := by have := HUP.out; omega
          obtain ⟨bu, ou, ub, cs3, hA3, hbw3, hub, _, hcu, rfl, _⟩ := (HSL.out.2.2.1.ext (Flat.mono encB (fun _ => True)) (HXW.out _ hbq)).at_ hiu
          subst hA3
          have p0 := hcu 0 _ rfl
          simp only [Nat.mul_one, Nat.add_zero] at p0
          have HOV := Lib.hid (show up.getD ((i : Int)).toNat false = ub by rw [show ((i : Int)).toNat = i by omega, List.getD_eq_getElem?_getD, hub]; rfl)
          clear hy hc2 hc3 hub hcu
          rcases ub with _ | _
          · have HN := Lib.hid (show R = false by rw [HSC.out, HE.out, HST.out, HX3.out, HU.out, all_drop HY.out, HOV.out]; simp)
            go_wp2
            exact ret_bool rfl rfl rfl (by rw [HN.out]) (HXW.out _ hbq)
          rcases j with _ | j
          · have HO := Lib.hid (chk_zero (p := fun n : Int => up.getD n.toNat false) HY.out)
            have hg1 : decide ((0 : Int) < 0) = false := rfl
            simp only [Nat.add_zero] at y0
            go_wp2
            go_roundw
            case rel => exact ⟨0 + 1, by omega, by go_num, Lib.hid (by rw [HU.out, HO.out, HOV.out]; rfl), hbq⟩
            case measure => simp [intOf]; omega
          · obtain ⟨bo2, oo2, z, cs4, hD2, hbw4, hz, _, hc4, rfl, _⟩ := (HN3.out _ (HEW.out _ hbq)).at_ (k := j) (by omega)
            obtain ⟨rfl, rfl⟩ : bo = bo2 ∧ oo = oo2 := by injection hD2 with hD2; injection hD2 with h1 h2 _; exact ⟨h1, h2⟩
            have zz0 := hc4 0 _ rfl
            simp only [Nat.mul_one, Nat.add_zero] at zz0
            have HO := Lib.hid (chk_succ (p := fun n : Int => up.getD n.toNat false) hz HY.out)
            clear hz hc4
            have hg1 : decide ((0 : Int) < (j : Int) + 1) = true := by rw [decide_eq_true_iff]; omega
            have hg2 : IntKind.i64.wrap ((j : Int) + 1 - 1) = (j : Int) := by rw [show (j : Int) + 1 - 1 = j by omega]; exact IntWalk.i64_in _ ⟨by omega, by omega⟩
            by_cases hzy : z < (i : Int)
            · have hg3 : decide ((i : Int) ≤ z) = false := decide_eq_false (by omega)
              go_wp2
              go_roundw
              case rel => exact ⟨j + 1 + 1, by omega, by go_num, Lib.hid (by rw [HU.out, HO.out, HOV.out, decide_eq_true hzy]; rfl), hbq⟩
              case measure => simp [intOf]; omega
            · have HN := Lib.hid (show R = false by rw [HSC.out, HE.out, HST.out, HX3.out, HU.out, HO.out, decide_eq_false hzy]; simp)
              have hg3 : decide ((i : Int) ≤ z) = true := decide_eq_true (by omega)
              go_wp2
              exact ret_bool rfl rfl rfl (by rw [HN.out]) (HXW.out _ hbq)
        · obtain rfl : j = nl := by omega
          have HUT := Lib.hid (show (x.Nodes.all (fun n => up.getD n.toNat false) && ascGo x.Nodes) = true by rw [HU.out, show x.Nodes.drop j = [] from List.drop_eq_nil_of_le (by have := HNL.out; omega), asc_last HNL.out]; rfl)
          have HXL := Lib.hid (fun y : Later wr => hbq.trans y.ext)
          have hcx := @Later.cell wr
          generalize levT ps tl = lv at *
          · by_cases hle : lv ≤ x.Job.Level
            · have HO := Lib.hid (show rs.all rl = (rs.drop (k + 1)).all rl by rw [HE.out, HST.out, HX3.out, HUT.out, decide_eq_true hle]; rfl)
              have hgl : decide (x.Job.Level < lv) = false := decide_eq_false (by omega)
              go_wp2
              refine wp_region_ext (by kernel_rfl) (by kernel_rfl) ?_
              repeat (go_big_quiet_step (first | (go_at_call 57; with_reducible exact Calls.quiet_ext (HLW.out _ (HXL.out _))) | (go_at_call 56; with_reducible exact Calls.quiet_ext (HLE.out _ (HXL.out _)))))
              refine wpQuiet_nil ?_
              intro w7 hb7
              clear hcx z0 z1 z2 z12 z10
              go_wp2
              go_roundw
              case rel => exact ⟨k + 1, by omega, by go_num, HO, (hb.alloc _).trans (hbq.trans hb7)⟩
              case measure => simp [intOf]; omega
            · have HN := Lib.hid (show R = false by rw [HSC.out, HE.out, HST.out, HX3.out, decide_eq_false hle]; simp)
              have hgl : decide (x.Job.Level < lv) = true := decide_eq_true (by omega)
              go_wp2
              refine wp_region_ext (by kernel_rfl) (by kernel_rfl) ?_
              repeat (go_big_quiet_step (first | (go_at_call 57; with_reducible exact Calls.quiet_ext (HLW.out _ (HXL.out _))) | (go_at_call 56; with_reducible exact Calls.quiet_ext (HLE.out _ (HXL.out _)))))
              refine wpQuiet_nil ?_
              intro w7 hb7
              clear hcx z0 z1 z2 z12 z10
              go_wp2
              exact ret_bool rfl rfl rfl (by rw [HN.out]) (HXW.out _ (hbq.trans hb7))
    · have HR := Lib.hid (show R = es.all (endB now) by rw [HSC.out, HE.out, List.drop_eq_nil_of_le (by omega)]; rfl)
      have b10 := hb.cell (cell_box_at w w.heap.size rfl [.slice A1 ps.length c1, .slice A2 ns.length c2, .slice A3 up.length c3, .int .i64 lic.A, .int .i64 lic.B, .int .i64 lic.C, .int .i64 dep, .int .i64 now, .slice A6 qs.length c6, .slice A7 rs.length c7, .slice A8 es.length c8] 44 10 _ rfl)
      have hbl := lt_of_cell b10
      go_wp2
      go_loopw [92] (fun iv wq => ∃ j : Nat, j ≤ es.length ∧ iv = .int .i64 j ∧ Hid (es.all (endB now) = (es.drop j).all (endB now)) ∧ Ext (w.alloc (.cells #[.slice A1 ps.length c1, .slice A2 ns.length c2, .slice A3 up.length c3, .int .i64 lic.A, .int .i64 lic.B, .int .i64 lic.C, .int .i64 dep, .int .i64 now, .slice A6 qs.length c6, .slice A7 rs.length c7, .slice A8 es.length c8] 44)) wq) (fun iv _ => es.length - (intOf iv).toNat)
      case atStart => exact ⟨0, Nat.zero_le _, rfl, Lib.hid rfl, hb⟩
      case round =>
        clear b10 hbl
        obtain ⟨j, hj, rfl, HU, hbq⟩ := hrel
        have hxq : Ext w wr := ((Ext.refl w).alloc _).trans hbq
        by_cases hlt2 : j < es.length
        · obtain ⟨bo, oo, y, cs2, hD, hbw2, hy, _, hc2, rfl, _⟩ := (HSL.out.2.2.2.2.ext (Flat.mono End.enc End.ok) hxq).at_ hlt2
          have b7 := hbq.cell (cell_box_at w w.heap.size rfl [.slice A1 ps.length c1, .slice A2 ns.length c2, .slice A3 up.length c3, .int .i64 lic.A, .int .i64 lic.B, .int .i64 lic.C, .int .i64 dep, .int .i64 now, .slice A6 qs.length c6, .slice A7 rs.length c7, .slice A8 es.length c8] 44 7 _ rfl)
          have hbl := lt_of_cell b7
          subst hD
          have y0 := hc2 0 _ rfl
          have y1 := hc2 1 _ rfl
          have y2 := hc2 2 _ rfl
          simp only [Nat.add_zero] at y0
          have HSU := Lib.hid (all_drop (p := endB now) hy)
          have HEB := Lib.hid (show endB now y = (withinB y.Id 1 999 && withinB y.At 0 now && withinB y.Why 1 4) from rfl)
          clear hy hc2
          have hall : (y.Id < 1) ∨ (1 ≤ y.Id ∧ 999 < y.Id) ∨ ((1 ≤ y.Id ∧ y.Id ≤ 999) ∧ y.At < 0) ∨ ((1 ≤ y.Id ∧ y.Id ≤ 999) ∧ 0 ≤ y.At ∧ now < y.At) ∨ ((1 ≤ y.Id ∧ y.Id ≤ 999) ∧ (0 ≤ y.At ∧ y.At ≤ now) ∧ y.Why < 1) ∨ ((1 ≤ y.Id ∧ y.Id ≤ 999) ∧ (0 ≤ y.At ∧ y.At ≤ now) ∧ 1 ≤ y.Why ∧ 4 < y.Why) ∨ ((1 ≤ y.Id ∧ y.Id ≤ 999) ∧ (0 ≤ y.At ∧ y.At ≤ now) ∧ 1 ≤ y.Why ∧ y.Why ≤ 4) := by omega
          have HDD := Lib.hid (show (decide (y.Id < 1) = !decide (1 ≤ y.Id)) from (by by_cases h : y.Id < 1 <;> simp [h] <;> omega))
          rcases hall with p1 | ⟨p1, p2⟩ | ⟨⟨p1, p2⟩, p3⟩ | ⟨⟨p1, p2⟩, p3, p4⟩ | ⟨⟨p1, p2⟩, ⟨p3, p4⟩, p5⟩ | ⟨⟨p1, p2⟩, ⟨p3, p4⟩, p5, p6⟩ | ⟨⟨p1, p2⟩, ⟨p3, p4⟩, p5, p6⟩
          rotate_left 6
          · have HEQ := Lib.hid (show endB now y = true by rw [HEB.out]; unfold withinB; rw [decide_eq_true ⟨p1, p2⟩, decide_eq_true ⟨p3, p4⟩, decide_eq_true ⟨p5, p6⟩]; rfl)
            have d1 : decide (y.Id < 1) = false := decide_eq_false (by omega)
            have d2 : decide (999 < y.Id) = false := decide_eq_false (by omega)
            have d3 : decide (y.At < 0) = false := decide_eq_false (by omega)
            have d4 : decide (now < y.At) = false := decide_eq_false (by omega)
            have d5 : decide (y.Why < 1) = false := decide_eq_false (by omega)
            have d6 : decide (4 < y.Why) = false := decide_eq_false (by omega)
            go_wp2
            go_roundw
            case rel => exact ⟨j + 1, by omega, by go_num, Lib.hid (by rw [HU.out, HSU.out, HEQ.out]; rfl), hbq.alloc _⟩
            case measure => simp [intOf]; omega
          all_goals
            have HN := Lib.hid (show R = false by
              rw [HR.out, HU.out, HSU.out, show endB now y = false by
                rw [HEB.out]; unfold withinB; rw [← Bool.not_eq_true, Bool.and_eq_true, Bool.and_eq_true, decide_eq_true_iff, decide_eq_true_iff, decide_eq_true_iff]; omega]
              rfl)
            go_wp2
            exact ret_bool rfl rfl rfl (by rw [HN.out]) (hxq.alloc _)
        · have HN := Lib.hid (show R = true by rw [HR.out, HU.out, List.drop_eq_nil_of_le (by omega)]; rfl)
          go_wp2
          exact ret_bool rfl rfl rfl (by rw [HN.out]) hxq
end Go.Proofs.YtfcffcgdbmkfgaaGreat
