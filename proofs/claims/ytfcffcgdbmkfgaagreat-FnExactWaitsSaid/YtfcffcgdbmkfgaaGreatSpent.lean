/- What each run has spent: both ways. Written by genspent.py. -/
import Derived.Test.YtfcffcgdbmkfgaaGreatMUse
import Derived.Test.YtfcffcgdbmkfgaaGreatMOver
namespace Go.Proofs.YtfcffcgdbmkfgaaGreat
open Go.RowKit
set_option linter.unusedVariables false
def spentF (now : Int) (x : Run) : Int := (now - x.At) * x.Nodes.length
def spentL (s : State) : List Int := if stateB s = true then s.Runs.map (spentF s.Now) else []
theorem spentL_len (s : State) : (spentL s).length ≤ s.Runs.length := by
  unfold spentL; split <;> simp
theorem spent_in {now : Int} {x : Run} (h0 : 0 ≤ x.At) (h1 : x.At ≤ now) (h2 : now ≤ 1000000000) (h3 : x.Nodes.length ≤ 24) : 0 ≤ spentF now x ∧ spentF now x ≤ 24000000000 := by
  unfold spentF
  refine ⟨Int.mul_nonneg (by omega) (by omega), ?_⟩
  have := Int.mul_le_mul (a := now - x.At) (b := x.Nodes.length) (c := 1000000000) (d := 24) (by omega) (by omega) (by omega) (by omega)
  omega
theorem ret_ints {w w' : World} {A : Option Addr} {c : Nat} {xs : List Int} {base n : Nat} (h : w'.ownsRow base 3 1 (.slice A n c) n (xs.flatMap encInt)) (hn : n = xs.length) (hb : w.heap.size ≤ base) (hok : ∀ y ∈ xs, In64 y) (hx : Ext w w') : RetOwn RInt 3 1 w xs (.returned (.slice A n c)) w' := by
  subst hn
  exact ⟨A, c, rfl, (OwnAt.flat (enc := encInt) (ok := In64) (fun _ => rfl) hok h).mono hb, hx⟩
theorem ret_nil {w w' : World} (hx : Ext w w') : RetOwn RInt 3 1 w [] (.returned (.slice none 0 0)) w' := ret_ints (xs := []) (base := w.heap.size) (World.ownsRow_nil _ _ _ _) rfl (Nat.le_refl _) (fun y hy => by cases hy) hx
set_option maxHeartbeats 8000000 in
set_option maxRecDepth 8000 in
theorem Spent_c (s : State) (v : Value) (w : World) (h : StateAt w s v) (hlen : stateLen s) : Calls Tryz.prog 9 #[v] w (RetOwn RInt 3 1 w (spentL s)) := by
  obtain ⟨i0, hi, hI0, hI1, hI2⟩ := info_parts OInt.info
  have HOKC := Lib.hid (fun (u : World) (e : Ext w u) => StateOk_c s v u (h.ext e) hlen)
  have HSR := Lib.hid (fun (h : stateB s = true) => state_runs h)
  have HSP := Lib.hid (show spentL s = if stateB s = true then s.Runs.map (spentF s.Now) else [] from rfl)
  generalize spentL s = R at *
  generalize stateB s = ok at *
  obtain ⟨⟨ps, ns⟩, up, lic, dep, now, qs, rs, es⟩ := s
  obtain ⟨A1, c1, A2, c2, A3, c3, A6, c6, A7, c7, A8, c8, rfl, h1, h2, h3, h6, h7, h8⟩ := h
  obtain ⟨hl1, hl2, hl3, hl6, hl7, hl8⟩ := hlen
  simp only [] at hl7 HOKC HSR HSP ⊢
  have HRS := Lib.hid (fun (u : World) (e : Ext w u) => h7.ext RRun.mono e)
  clear h1 h2 h3 h6 h7 h8 hl1 hl2 hl3 hl6 hl8
  go_enter Tryz.func9, Tryz.ntmps9
  go_wp2_with fail
  refine (HOKC.out _ ((Ext.refl w).alloc _)).mono ?_
  rintro e w1 ⟨rfl, hb1⟩
  have HX1 := Lib.hid (show Ext (w.alloc (.cells #[.slice A1 ps.length c1, .slice A2 ns.length c2, .slice A3 up.length c3, .int .i64 lic.A, .int .i64 lic.B, .int .i64 lic.C, .int .i64 dep, .int .i64 now, .slice A6 qs.length c6, .slice A7 rs.length c7, .slice A8 es.length c8] 44)) w1 from hb1)
  have hx1 : Ext w w1 := ((Ext.refl w).alloc _).trans HX1.out
  have hz1 : w.heap.size + 1 ≤ w1.heap.size := by have := HX1.out.le; simpa using this
  rcases ok with _ | _
  · go_wp2
    exact bodyPost_ret (results_tmp rfl _ _ _) rfl (by rw [HSP.out]; exact ret_nil hx1)
  obtain ⟨hruns, hnow, _⟩ := HSR.out (by trivial)
  have HRU := Lib.hid hruns
  have HR := Lib.hid (show R = rs.map (spentF now) by rw [HSP.out]; rfl)
  have s9 := HX1.out.cell (cell_box_at w w.heap.size rfl [.slice A1 ps.length c1, .slice A2 ns.length c2, .slice A3 up.length c3, .int .i64 lic.A, .int .i64 lic.B, .int .i64 lic.C, .int .i64 dep, .int .i64 now, .slice A6 qs.length c6, .slice A7 rs.length c7, .slice A8 es.length c8] 44 9 _ rfl)
  have hs9 := lt_of_cell s9
  try simp only [] at hnow
  have HS0 := Lib.hid (show (w1.alloc (.cells #[] 3)).ownsRow (w.heap.size + 1) 3 1 (.slice (some ⟨w1.heap.size, 0, none⟩) 0 0) 0 [] from (owns_base (owns_empty w1 3 1) hz1))
  clear hb1 hruns
  go_wp2
  go_loopw [3, 13] (fun v i wr => ∃ (k : Nat) (A4 : Option Addr) (c4 : Nat), k ≤ rs.length ∧ i = .int .i64 k ∧ v = .slice A4 k c4 ∧ Hid (wr.ownsRow (w.heap.size + 1) 3 1 (.slice A4 k c4) k (((rs.take k).map (spentF now)).flatMap encInt)) ∧ Ext (w.alloc (.cells #[.slice A1 ps.length c1, .slice A2 ns.length c2, .slice A3 up.length c3, .int .i64 lic.A, .int .i64 lic.B, .int .i64 lic.C, .int .i64 dep, .int .i64 now, .slice A6 qs.length c6, .slice A7 rs.length c7, .slice A8 es.length c8] 44)) wr) (fun _ i _ => rs.length - (intOf i).toNat)
  case atStart => exact ⟨0, _, 0, Nat.zero_le _, rfl, rfl, by simpa using HS0, HX1.out.alloc _⟩
  case round =>
    clear s9 hs9 HS0 hx1 hz1 HX1
    obtain ⟨k, A4, c4, hk, rfl, rfl, HO, hb⟩ := hrel
    have hxw : Ext w wr := ((Ext.refl w).alloc _).trans hb
    by_cases hlt : k < rs.length
    · obtain ⟨bq, oq, x, cs, hA7, hbw, hx, _, hc, Ar, cr, rfl, hs, hcr, hnl, hat64, hjok⟩ := (HRS.out wr hxw).at_ hlt
      subst hA7
      have g0 := hc 0 _ rfl
      have g1 := hc 1 _ rfl
      have g2 := hc 2 _ rfl
      have g3 := hc 3 _ rfl
      have g4 := hc 4 _ rfl
      have g5 := hc 5 _ rfl
      have g6 := hc 6 _ rfl
      have g7 := hc 7 _ rfl
      have g8 := hc 8 _ rfl
      have g9 := hc 9 _ rfl
      have g10 := hc 10 _ rfl
      have g11 := hc 11 _ rfl
      have g12 := hc 12 _ rfl
      simp only [Nat.add_zero] at g0
      have HX := Lib.hid hx
      obtain ⟨_, _, hnl24, hat0, hat1⟩ := HRU.out x (List.mem_of_getElem? hx)
      try simp only [] at hat1
      have s7 := hb.cell (cell_box_at w w.heap.size rfl [.slice A1 ps.length c1, .slice A2 ns.length c2, .slice A3 up.length c3, .int .i64 lic.A, .int .i64 lic.B, .int .i64 lic.C, .int .i64 dep, .int .i64 now, .slice A6 qs.length c6, .slice (some ⟨bq, oq, none⟩) rs.length c7, .slice A8 es.length c8] 44 7 _ rfl)
      have hs7 := lt_of_cell s7
      obtain ⟨p0, p1⟩ := spent_in hat0 hat1 hnow.2 hnl24
      have hw1 : IntKind.i64.wrap (now - x.At) = now - x.At := IntWalk.i64_in _ ⟨by omega, by omega⟩
      have hw2 : IntKind.i64.wrap ((now - x.At) * (x.Nodes.length : Int)) = spentF now x := IntWalk.i64_in _ ⟨Int.le_trans (by omega) p0, Int.le_trans p1 (by omega)⟩
      generalize hsp : spentF now x = P at *
      have HSPX := Lib.hid hsp
      have HO2 := Lib.hid (HO.out.alloc (.cells #[.int .i64 x.Job.Id, .int .i64 x.Job.Prio, .int .i64 x.Job.Nodes, .int .i64 x.Job.Need.A, .int .i64 x.Job.Need.B, .int .i64 x.Job.Need.C, .int .i64 x.Job.Lic.A, .int .i64 x.Job.Lic.B, .int .i64 x.Job.Lic.C, .int .i64 x.Job.Wall, .int .i64 x.Job.Level, .int .i64 x.At, .slice Ar x.Nodes.length cr] 64))
      have hzw : w.heap.size + 1 ≤ wr.heap.size := by have := hb.le; simpa using this
      clear hx hc hs hcr hnl hat64 hjok hsp
      go_wp2_with (at_builtin; go_must (refine wpList_append_one (w0 := (w.alloc (.cells #[.slice A1 ps.length c1, .slice A2 ns.length c2, .slice A3 up.length c3, .int .i64 lic.A, .int .i64 lic.B, .int .i64 lic.C, .int .i64 dep, .int .i64 now, .slice A6 qs.length c6, .slice (some ⟨bq, oq, none⟩) rs.length c7, .slice A8 es.length c8] 44))) (.tmp 17) (.tmp 27) _ (w.heap.size + 1) 3 i0 _ 1 8 (.slice A4 k c4) k _ (encInt P) rfl rfl Tryz.underlying22 hi hI0 hI1 hI2 rfl (by omega) rfl (HO2.out) _ rfl (by first | rfl | simp) rfl (OInt.one _) (by unfold maxLen; omega) (by omega) (hb.alloc _) (by simp) (by simp; omega) ?_); intro A5 c5 w5 ho5 hb5 hs5)
      have HO5 := Lib.hid ho5
      clear ho5
      go_wp2
      go_roundw
      case rel => exact ⟨k + 1, A5, c5, by omega, by go_num, rfl, Lib.hid (by rw [take_succ HX.out, List.map_append, List.flatMap_append]; simpa [HSPX.out, encInt] using HO5.out), hb5⟩
      case measure => simp [intOf]; omega
    · have HKN := Lib.hid (show (rs.take k).map (spentF now) = R by rw [HR.out, List.take_of_length_le (by omega)])
      have HON := Lib.hid (show wr.ownsRow (w.heap.size + 1) 3 1 (.slice A4 k c4) k (R.flatMap encInt) by rw [← HKN.out]; exact HO.out)
      have HKL := Lib.hid (show k = R.length by rw [← HKN.out, List.length_map, List.length_take]; omega)
      have HIN := Lib.hid (show ∀ y ∈ R, In64 y from fun y hy => by
        rw [HR.out] at hy
        obtain ⟨x, hx, rfl⟩ := List.mem_map.1 hy
        obtain ⟨_, _, h3, h4, h5⟩ := HRU.out x hx
        obtain ⟨p0, p1⟩ := spent_in h4 h5 hnow.2 h3
        exact in64_if (by omega) (by omega))
      go_wp2
      exact bodyPost_ret (results_tmp rfl _ _ _) rfl (by exact ret_ints HON.out HKL.out (by omega) HIN.out hxw)
set_option maxHeartbeats 8000000 in
set_option maxRecDepth 8000 in
theorem sSpent_c (s : State) (v : Value) (w : World) (h : StateAt w s v) (hlen : stateLen s) : Calls Tryz.prog 7 #[v] w (RetOwn RInt 3 1 w (spentL s)) := by
  obtain ⟨i0, hi, hI0, hI1, hI2⟩ := info_parts OInt.info
  have HOKC := Lib.hid (fun (u : World) (e : Ext w u) => sStateOk_c s v u (h.ext e) hlen)
  have HSR := Lib.hid (fun (h : stateB s = true) => state_runs h)
  have HSP := Lib.hid (show spentL s = if stateB s = true then s.Runs.map (spentF s.Now) else [] from rfl)
  generalize spentL s = R at *
  generalize stateB s = ok at *
  obtain ⟨⟨ps, ns⟩, up, lic, dep, now, qs, rs, es⟩ := s
  obtain ⟨A1, c1, A2, c2, A3, c3, A6, c6, A7, c7, A8, c8, rfl, h1, h2, h3, h6, h7, h8⟩ := h
  obtain ⟨hl1, hl2, hl3, hl6, hl7, hl8⟩ := hlen
  simp only [] at hl7 HOKC HSR HSP ⊢
  have HRS := Lib.hid (fun (u : World) (e : Ext w u) => h7.ext RRun.mono e)
  clear h1 h2 h3 h6 h7 h8 hl1 hl2 hl3 hl6 hl8
  have HE0 := Lib.hid (owns_empty (w.alloc (.cells #[.slice A1 ps.length c1, .slice A2 ns.length c2, .slice A3 up.length c3, .int .i64 lic.A, .int .i64 lic.B, .int .i64 lic.C, .int .i64 dep, .int .i64 now, .slice A6 qs.length c6, .slice A7 rs.length c7, .slice A8 es.length c8] 44)) 3 1)
  go_enter Tryz.func7, Tryz.ntmps7
  go_wp2_with fail
  refine (HOKC.out _ (((Ext.refl w).alloc _).alloc _)).mono ?_
  rintro e w1 ⟨rfl, hb1⟩
  have HX1 := Lib.hid (show Ext (w.alloc (.cells #[.slice A1 ps.length c1, .slice A2 ns.length c2, .slice A3 up.length c3, .int .i64 lic.A, .int .i64 lic.B, .int .i64 lic.C, .int .i64 dep, .int .i64 now, .slice A6 qs.length c6, .slice A7 rs.length c7, .slice A8 es.length c8] 44)) w1 from ((Ext.refl _).alloc _).trans hb1)
  have hx1 : Ext w w1 := ((Ext.refl w).alloc _).trans HX1.out
  have hz1 : w.heap.size + 1 ≤ w1.heap.size := by have := HX1.out.le; simpa using this
  have HE1 := Lib.hid (owns_ext HE0.out hb1)
  simp only [World.size_alloc] at HE1
  rcases ok with _ | _
  · go_wp2
    exact bodyPost_ret (results_tmp rfl _ _ _) rfl (by rw [HSP.out]; exact ret_ints (xs := []) HE1.out rfl (by omega) (fun y hy => by cases hy) hx1)
  obtain ⟨hruns, hnow, _⟩ := HSR.out (by trivial)
  have HRU := Lib.hid hruns
  have HR := Lib.hid (show R = rs.map (spentF now) by rw [HSP.out]; rfl)
  have s9 := HX1.out.cell (cell_box_at w w.heap.size rfl [.slice A1 ps.length c1, .slice A2 ns.length c2, .slice A3 up.length c3, .int .i64 lic.A, .int .i64 lic.B, .int .i64 lic.C, .int .i64 dep, .int .i64 now, .slice A6 qs.length c6, .slice A7 rs.length c7, .slice A8 es.length c8] 44 9 _ rfl)
  have hs9 := lt_of_cell s9
  try simp only [] at hnow
  have HS0 := Lib.hid (show (w1).ownsRow (w.heap.size + 1) 3 1 (.slice (some ⟨w.heap.size + 1, 0, none⟩) 0 0) 0 [] from HE1.out)
  clear hb1 hruns
  go_wp2
  go_loopw [3, 14] (fun v i wr => ∃ (k : Nat) (A4 : Option Addr) (c4 : Nat), k ≤ rs.length ∧ i = .int .i64 k ∧ v = .slice A4 k c4 ∧ Hid (wr.ownsRow (w.heap.size + 1) 3 1 (.slice A4 k c4) k (((rs.take k).map (spentF now)).flatMap encInt)) ∧ Ext (w.alloc (.cells #[.slice A1 ps.length c1, .slice A2 ns.length c2, .slice A3 up.length c3, .int .i64 lic.A, .int .i64 lic.B, .int .i64 lic.C, .int .i64 dep, .int .i64 now, .slice A6 qs.length c6, .slice A7 rs.length c7, .slice A8 es.length c8] 44)) wr) (fun _ i _ => rs.length - (intOf i).toNat)
  case atStart => exact ⟨0, _, 0, Nat.zero_le _, rfl, rfl, by simpa using HS0, HX1.out⟩
  case round =>
    clear s9 hs9 HS0 hx1 hz1 HX1
    obtain ⟨k, A4, c4, hk, rfl, rfl, HO, hb⟩ := hrel
    have hxw : Ext w wr := ((Ext.refl w).alloc _).trans hb
    by_cases hlt : k < rs.length
    · obtain ⟨bq, oq, x, cs, hA7, hbw, hx, _, hc, Ar, cr, rfl, hs, hcr, hnl, hat64, hjok⟩ := (HRS.out wr hxw).at_ hlt
      subst hA7
      have g0 := hc 0 _ rfl
      have g1 := hc 1 _ rfl
      have g2 := hc 2 _ rfl
      have g3 := hc 3 _ rfl
      have g4 := hc 4 _ rfl
      have g5 := hc 5 _ rfl
      have g6 := hc 6 _ rfl
      have g7 := hc 7 _ rfl
      have g8 := hc 8 _ rfl
      have g9 := hc 9 _ rfl
      have g10 := hc 10 _ rfl
      have g11 := hc 11 _ rfl
      have g12 := hc 12 _ rfl
      simp only [Nat.add_zero] at g0
      have HX := Lib.hid hx
      obtain ⟨_, _, hnl24, hat0, hat1⟩ := HRU.out x (List.mem_of_getElem? hx)
      try simp only [] at hat1
      have s7 := hb.cell (cell_box_at w w.heap.size rfl [.slice A1 ps.length c1, .slice A2 ns.length c2, .slice A3 up.length c3, .int .i64 lic.A, .int .i64 lic.B, .int .i64 lic.C, .int .i64 dep, .int .i64 now, .slice A6 qs.length c6, .slice (some ⟨bq, oq, none⟩) rs.length c7, .slice A8 es.length c8] 44 7 _ rfl)
      have hs7 := lt_of_cell s7
      obtain ⟨p0, p1⟩ := spent_in hat0 hat1 hnow.2 hnl24
      have hw1 : IntKind.i64.wrap (now - x.At) = now - x.At := IntWalk.i64_in _ ⟨by omega, by omega⟩
      have hw2 : IntKind.i64.wrap ((now - x.At) * (x.Nodes.length : Int)) = spentF now x := IntWalk.i64_in _ ⟨Int.le_trans (by omega) p0, Int.le_trans p1 (by omega)⟩
      generalize hsp : spentF now x = P at *
      have HSPX := Lib.hid hsp
      have HO2 := Lib.hid (HO.out.alloc (.cells #[.int .i64 x.Job.Id, .int .i64 x.Job.Prio, .int .i64 x.Job.Nodes, .int .i64 x.Job.Need.A, .int .i64 x.Job.Need.B, .int .i64 x.Job.Need.C, .int .i64 x.Job.Lic.A, .int .i64 x.Job.Lic.B, .int .i64 x.Job.Lic.C, .int .i64 x.Job.Wall, .int .i64 x.Job.Level, .int .i64 x.At, .slice Ar x.Nodes.length cr] 64))
      have hzw : w.heap.size + 1 ≤ wr.heap.size := by have := hb.le; simpa using this
      clear hx hc hs hcr hnl hat64 hjok hsp
      go_wp2_with (at_builtin; go_must (refine wpList_append_one (w0 := (w.alloc (.cells #[.slice A1 ps.length c1, .slice A2 ns.length c2, .slice A3 up.length c3, .int .i64 lic.A, .int .i64 lic.B, .int .i64 lic.C, .int .i64 dep, .int .i64 now, .slice A6 qs.length c6, .slice (some ⟨bq, oq, none⟩) rs.length c7, .slice A8 es.length c8] 44))) (.tmp 18) (.tmp 28) _ (w.heap.size + 1) 3 i0 _ 1 8 (.slice A4 k c4) k _ (encInt P) rfl rfl Tryz.underlying22 hi hI0 hI1 hI2 rfl (by omega) rfl (HO2.out) _ rfl (by first | rfl | simp) rfl (OInt.one _) (by unfold maxLen; omega) (by omega) (hb.alloc _) (by simp) (by simp; omega) ?_); intro A5 c5 w5 ho5 hb5 hs5)
      have HO5 := Lib.hid ho5
      clear ho5
      go_wp2
      go_roundw
      case rel => exact ⟨k + 1, A5, c5, by omega, by go_num, rfl, Lib.hid (by rw [take_succ HX.out, List.map_append, List.flatMap_append]; simpa [HSPX.out, encInt] using HO5.out), hb5⟩
      case measure => simp [intOf]; omega
    · have HKN := Lib.hid (show (rs.take k).map (spentF now) = R by rw [HR.out, List.take_of_length_le (by omega)])
      have HON := Lib.hid (show wr.ownsRow (w.heap.size + 1) 3 1 (.slice A4 k c4) k (R.flatMap encInt) by rw [← HKN.out]; exact HO.out)
      have HKL := Lib.hid (show k = R.length by rw [← HKN.out, List.length_map, List.length_take]; omega)
      have HIN := Lib.hid (show ∀ y ∈ R, In64 y from fun y hy => by
        rw [HR.out] at hy
        obtain ⟨x, hx, rfl⟩ := List.mem_map.1 hy
        obtain ⟨_, _, h3, h4, h5⟩ := HRU.out x hx
        obtain ⟨p0, p1⟩ := spent_in h4 h5 hnow.2 h3
        exact in64_if (by omega) (by omega))
      go_wp2
      exact bodyPost_ret (results_tmp rfl _ _ _) rfl (by exact ret_ints HON.out HKL.out (by omega) HIN.out hxw)
end Go.Proofs.YtfcffcgdbmkfgaaGreat
