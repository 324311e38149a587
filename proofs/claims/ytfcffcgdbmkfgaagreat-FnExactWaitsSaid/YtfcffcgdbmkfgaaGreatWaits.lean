/- How long each run has waited: both ways. Written by genwaits.py. -/
import Derived.Test.YtfcffcgdbmkfgaaGreatSpent
import Derived.Test.YtfcffcgdbmkfgaaGreatSmall
import Derived.Deep.RegionLaw
namespace Go.Proofs.YtfcffcgdbmkfgaaGreat
open Go.RowKit
set_option linter.unusedVariables false
def waitF (t : Int) (x : Run) : Int := if t < x.At then x.At - t else 0
def waitsL (s : State) (ts : List Int) : List Int := if (stateB s && decide (ts.length = s.Runs.length) && ts.all timeB) = true then List.zipWith (fun x t => waitF t x) s.Runs ts else []
theorem waitsL_len (s : State) (ts : List Int) : (waitsL s ts).length ≤ s.Runs.length := by
  unfold waitsL; split <;> simp [List.length_zipWith] <;> omega
theorem zip_take {α β γ : Type} {f : α → β → γ} {xs : List α} {ys : List β} {k : Nat} {x : α} {y : β} (hx : xs[k]? = some x) (hy : ys[k]? = some y) : List.zipWith f (xs.take (k + 1)) (ys.take (k + 1)) = List.zipWith f (xs.take k) (ys.take k) ++ [f x y] := by
  have h1 : k < xs.length := (List.getElem?_eq_some_iff.1 hx).1
  have h2 : k < ys.length := (List.getElem?_eq_some_iff.1 hy).1
  rw [take_succ hx, take_succ hy, List.zipWith_append (by rw [List.length_take, List.length_take]; omega)]
  rfl
theorem all_take {l : List Int} {p : Int → Bool} {k : Nat} {x : Int} (hx : l[k]? = some x) (h : (l.take k).all p = true) (hp : p x = true) : (l.take (k + 1)).all p = true := by
  rw [take_succ hx, List.all_append, h]; simp [hp]
theorem all_false {l : List Int} {p : Int → Bool} {k : Nat} {x : Int} (hx : l[k]? = some x) (hp : p x = false) : l.all p = false := by
  rw [Bool.eq_false_iff]
  intro h
  have := List.all_eq_true.1 h x (List.mem_of_getElem? hx)
  rw [hp] at this; cases this
theorem wait_in {t : Int} {x : Run} (h0 : 0 ≤ x.At) (h1 : x.At ≤ 1000000000) (h2 : 0 ≤ t) : 0 ≤ waitF t x ∧ waitF t x ≤ 1000000000 := by
  unfold waitF; split <;> omega
set_option maxHeartbeats 8000000 in
set_option maxRecDepth 8000 in
theorem Waits_c (s : State) (ts : List Int) (v : Value) (T : Option Addr) (n tc : Nat) (w : World) (h : StateAt w s v) (hlen : stateLen s) (ht : SlAt RInt 1 w T n ts) (htn : n ≤ 1048576) : Calls Tryz.prog 17 #[v, .slice T n tc] w (RetOwn RInt 3 1 w (waitsL s ts)) := by
  obtain ⟨i0, hi, hI0, hI1, hI2⟩ := info_parts OInt.info
  have HOKC := Lib.hid (fun (u : World) (e : Ext w u) => StateOk_c s v u (h.ext e) hlen)
  have HSR := Lib.hid (fun (h : stateB s = true) => state_runs h)
  have HSP := Lib.hid (show waitsL s ts = if (stateB s && decide (ts.length = s.Runs.length) && ts.all timeB) = true then List.zipWith (fun x t => waitF t x) s.Runs ts else [] from rfl)
  generalize waitsL s ts = R at *
  generalize stateB s = ok at *
  obtain ⟨⟨ps, ns⟩, up, lic, dep, now, qs, rs, es⟩ := s
  obtain ⟨A1, c1, A2, c2, A3, c3, A6, c6, A7, c7, A8, c8, rfl, h1, h2, h3, h6, h7, h8⟩ := h
  obtain ⟨hl1, hl2, hl3, hl6, hl7, hl8⟩ := hlen
  simp only [] at hl7 HOKC HSR HSP ⊢
  have HRS := Lib.hid (fun (u : World) (e : Ext w u) => h7.ext RRun.mono e)
  have HTS := Lib.hid (fun (u : World) (e : Ext w u) => ht.ext (Flat.mono encInt In64) e)
  have HTL := Lib.hid ht.len
  clear h1 h2 h3 h6 h7 h8 hl1 hl2 hl3 hl6 hl8 ht
  go_enter Tryz.func17, Tryz.ntmps17
  go_wp2_with fail
  refine (HOKC.out _ ((Ext.refl w).alloc _)).mono ?_
  rintro e w1 ⟨rfl, hb1⟩
  have HX1 := Lib.hid (show Ext (w.alloc (.cells #[.slice A1 ps.length c1, .slice A2 ns.length c2, .slice A3 up.length c3, .int .i64 lic.A, .int .i64 lic.B, .int .i64 lic.C, .int .i64 dep, .int .i64 now, .slice A6 qs.length c6, .slice A7 rs.length c7, .slice A8 es.length c8] 44)) w1 from hb1)
  have hx1 : Ext w w1 := ((Ext.refl w).alloc _).trans HX1.out
  have hz1 : w.heap.size + 1 ≤ w1.heap.size := by have := HX1.out.le; simpa using this
  have s9 := HX1.out.cell (cell_box_at w w.heap.size rfl [.slice A1 ps.length c1, .slice A2 ns.length c2, .slice A3 up.length c3, .int .i64 lic.A, .int .i64 lic.B, .int .i64 lic.C, .int .i64 dep, .int .i64 now, .slice A6 qs.length c6, .slice A7 rs.length c7, .slice A8 es.length c8] 44 9 _ rfl)
  have hs9 := lt_of_cell s9
  rcases ok with _ | _
  · go_wp2
    exact bodyPost_ret (results_tmp rfl _ _ _) rfl (by rw [HSP.out]; exact ret_nil hx1)
  by_cases hnl : n = rs.length
  rotate_left
  · have HN := Lib.hid (show R = [] by rw [HSP.out, HTL.out, decide_eq_false hnl]; rfl)
    have hd : ((n : Int) != (rs.length : Int)) = true := by rw [bne_iff_ne]; omega
    have hd2 : decide (n = rs.length) = false := decide_eq_false hnl
    have hd3 : decide ((n : Int) = (rs.length : Int)) = false := decide_eq_false (by omega)
    go_wp2
    exact bodyPost_ret (results_tmp rfl _ _ _) rfl (by rw [HN.out]; exact ret_nil hx1)
  subst hnl
  obtain ⟨hruns, hnow, _⟩ := HSR.out (by trivial)
  have HRU := Lib.hid hruns
  have HR := Lib.hid (show R = if ts.all timeB = true then List.zipWith (fun x t => waitF t x) rs ts else [] by rw [HSP.out, HTL.out, decide_eq_true rfl]; rfl)
  try simp only [] at hnow
  have HS0 := Lib.hid (show (w1.alloc (.cells #[] 3)).ownsRow (w.heap.size + 1) 3 1 (.slice (some ⟨w1.heap.size, 0, none⟩) 0 0) 0 [] from (owns_base (owns_empty w1 3 1) hz1))
  clear hb1 hruns
  go_wp2
  go_loopw [5, 23] (fun v i wr => ∃ (k : Nat) (A4 : Option Addr) (c4 : Nat), k ≤ rs.length ∧ i = .int .i64 k ∧ v = .slice A4 k c4 ∧ Hid ((ts.take k).all timeB = true) ∧ Hid (wr.ownsRow (w.heap.size + 1) 3 1 (.slice A4 k c4) k ((List.zipWith (fun x t => waitF t x) (rs.take k) (ts.take k)).flatMap encInt)) ∧ Ext (w.alloc (.cells #[.slice A1 ps.length c1, .slice A2 ns.length c2, .slice A3 up.length c3, .int .i64 lic.A, .int .i64 lic.B, .int .i64 lic.C, .int .i64 dep, .int .i64 now, .slice A6 qs.length c6, .slice A7 rs.length c7, .slice A8 es.length c8] 44)) wr) (fun _ i _ => rs.length - (intOf i).toNat)
  case atStart => exact ⟨0, _, 0, Nat.zero_le _, rfl, rfl, Lib.hid rfl, by simpa using HS0, HX1.out.alloc _⟩
  case round =>
    clear s9 hs9 HS0 hx1 hz1 HX1
    obtain ⟨k, A4, c4, hk, rfl, rfl, HAL, HO, hb⟩ := hrel
    have hxw : Ext w wr := ((Ext.refl w).alloc _).trans hb
    by_cases hlt : k < rs.length
    · obtain ⟨bq, oq, x, cs, hA7, hbw, hx, _, hc, Ar, cr, rfl, hs, hcr, hnl, hat64, hjok⟩ := (HRS.out wr hxw).at_ hlt
      subst hA7
      have g0 := hc 0 _ rfl
      have g1 := hc 1 _ rfl
      have g2 := hc 2 _ rfl
      have g3 := hc 3 _ rfl
      have g4 := hc 4 _ rfl
      have g5 := hc 5 _ rfl
      have g6 := hc 6 _ rfl
      have g7 := hc 7 _ rfl
      have g8 := hc 8 _ rfl
      have g9 := hc 9 _ rfl
      have g10 := hc 10 _ rfl
      have g11 := hc 11 _ rfl
      have g12 := hc 12 _ rfl
      simp only [Nat.add_zero] at g0
      obtain ⟨bt, ot, t, cs2, hT, hbt, hty, _, hct, rfl, ht64⟩ := (HTS.out wr hxw).at_ hlt
      subst hT
      have q0 := hct 0 _ rfl
      simp only [Nat.mul_one, Nat.add_zero] at q0
      have HX := Lib.hid hx
      have HTY := Lib.hid hty
      obtain ⟨_, _, hnl24, hat0, hat1⟩ := HRU.out x (List.mem_of_getElem? hx)
      try simp only [] at hat1
      have hzw : w.heap.size + 1 ≤ wr.heap.size := by have := hb.le; simpa using this
      clear hx hty hc hct hs hcr hnl hat64 hjok ht64
      have HTI := Lib.hid (fun u : World => isTime_c t u)
      have HO2 := Lib.hid (HO.out.alloc (.cells #[.int .i64 x.Job.Id, .int .i64 x.Job.Prio, .int .i64 x.Job.Nodes, .int .i64 x.Job.Need.A, .int .i64 x.Job.Need.B, .int .i64 x.Job.Need.C, .int .i64 x.Job.Lic.A, .int .i64 x.Job.Lic.B, .int .i64 x.Job.Lic.C, .int .i64 x.Job.Wall, .int .i64 x.Job.Level, .int .i64 x.At, .slice Ar x.Nodes.length cr] 64))
      go_wp2_with fail
      refine (HTI.out _).mono ?_
      rintro e w2 ⟨rfl, rfl⟩
      rcases (Bool.eq_false_or_eq_true (timeB t)).symm with q1 | q1
      all_goals rw [q1]
      · have HN := Lib.hid (show R = [] by rw [HR.out, if_neg (by rw [all_false HTY.out q1]; simp)])
        clear q1
        go_wp2
        exact bodyPost_ret (results_tmp rfl _ _ _) rfl (by rw [HN.out]; exact ret_nil (hxw.alloc _))
      have HAL2 := Lib.hid (all_take HTY.out HAL.out q1)
      have htb : 0 ≤ t ∧ t ≤ 1000000000 := by unfold timeB at q1; rw [decide_eq_true_iff] at q1; exact q1
      have hw1 : IntKind.i64.wrap (x.At - t) = x.At - t := IntWalk.i64_in _ ⟨by omega, by omega⟩
      have HWF := Lib.hid (show waitF t x = if t < x.At then x.At - t else 0 from rfl)
      clear q1
      have HP2 := Lib.hid (show waitF t x = max 0 (x.At - t) by rw [HWF.out]; split <;> omega)
      have HIN := Lib.hid (show In64 (max 0 (x.At - t)) from in64_if (by omega) (by omega))
      go_wp2
      go_region_law ((refine step_append_r (enc := encInt) (ok := In64) (by rfl) _ _ _ (by rfl) (w.heap.size + 1) 3 i0 _ 1 8 Tryz.underlying22 hi hI0 hI1 hI2 rfl (by omega) (.slice A4 k c4) k _ _ 1 1 [max 0 (x.At - t)] (k + 1) rfl (by rfl) (by rfl) (owns_ext HO2.out (by repeat (first | exact Ext.refl _ | assumption | apply Ext.alloc | apply Ext.drewN | apply Ext.drew | (refine Ext.setCell ?_ (by first | (simp; done) | (simp; omega) | omega) _) | (refine Ext.trans ?_ (by assumption))))) (by first | exact sl_one_at (enc := encInt) _ _ (by simp) (max 0 (x.At - t)) 3 rfl HIN.out | (refine SlAt.ext ?_ (Flat.mono _ _) ((Ext.refl _).drew); exact sl_one_at (enc := encInt) _ _ (by simp) (max 0 (x.At - t)) 3 rfl HIN.out)) (fun _ => rfl) OInt.one (by unfold maxLen; omega) (by omega) (by simp; omega) ?_; intro A5 c5 w5 hr5; have HXT := Lib.hid (ext_turned (Ext.trans hb (by repeat (first | exact Ext.refl _ | assumption | apply Ext.alloc | apply Ext.drewN | apply Ext.drew | (refine Ext.setCell ?_ (by first | (simp; done) | (simp; omega) | omega) _) | (refine Ext.trans ?_ (by assumption))))) (hr5.turned (lo := w.heap.size + 1) (fun q hq => (HO2.out.lt q hq).1)) (by simp))))
      all_goals
        have HR5 := Lib.hid hr5.row
        clear hr5
        go_wp2
        go_roundw
        case rel => exact ⟨k + 1, A5, c5, by omega, by go_num, rfl, HAL2, Lib.hid (by rw [zip_take HX.out HTY.out, List.flatMap_append]; simpa [HP2.out, encInt] using HR5.out), HXT.out⟩
        case measure => simp [intOf]; omega
    · have HALL := Lib.hid (show ts.all timeB = true by have := HAL.out; rw [List.take_of_length_le (by have := HTL.out; omega)] at this; exact this)
      have HKN := Lib.hid (show List.zipWith (fun x t => waitF t x) (rs.take k) (ts.take k) = R by rw [HR.out, if_pos HALL.out, List.take_of_length_le (by omega), List.take_of_length_le (by have := HTL.out; omega)])
      have HON := Lib.hid (show wr.ownsRow (w.heap.size + 1) 3 1 (.slice A4 k c4) k (R.flatMap encInt) by rw [← HKN.out]; exact HO.out)
      have HKL := Lib.hid (show k = R.length by rw [← HKN.out, List.length_zipWith, List.length_take, List.length_take]; have := HTL.out; omega)
      have HIN := Lib.hid (show ∀ y ∈ R, In64 y from fun y hy => by
        rw [← HKN.out] at hy
        obtain ⟨j, hj⟩ := List.mem_iff_getElem?.1 hy
        rw [List.getElem?_zipWith] at hj
        cases h1 : (rs.take k)[j]? with
        | none => rw [h1] at hj; cases hj
        | some x =>
          cases h2 : (ts.take k)[j]? with
          | none => rw [h1, h2] at hj; cases hj
          | some t =>
            rw [h1, h2] at hj
            simp at hj
            subst hj
            obtain ⟨_, _, _, h4, h5⟩ := HRU.out x (List.mem_of_mem_take (List.mem_of_getElem? h1))
            have h6 := List.all_eq_true.1 HALL.out t (List.mem_of_mem_take (List.mem_of_getElem? h2))
            unfold timeB at h6
            rw [decide_eq_true_iff] at h6
            try simp only [] at h5
            obtain ⟨p0, p1⟩ := wait_in (t := t) h4 (by omega) h6.1
            exact in64_if (by omega) (by omega))
      go_wp2
      exact bodyPost_ret (results_tmp rfl _ _ _) rfl (by exact ret_ints HON.out HKL.out (by omega) HIN.out hxw)
set_option maxHeartbeats 8000000 in
set_option maxRecDepth 8000 in
theorem sWaits_c (s : State) (ts : List Int) (v : Value) (T : Option Addr) (n tc : Nat) (w : World) (h : StateAt w s v) (hlen : stateLen s) (ht : SlAt RInt 1 w T n ts) (htn : n ≤ 1048576) : Calls Tryz.prog 15 #[v, .slice T n tc] w (RetOwn RInt 3 1 w (waitsL s ts)) := by
  obtain ⟨i0, hi, hI0, hI1, hI2⟩ := info_parts OInt.info
  have HOKC := Lib.hid (fun (u : World) (e : Ext w u) => sStateOk_c s v u (h.ext e) hlen)
  have HSR := Lib.hid (fun (h : stateB s = true) => state_runs h)
  have HSP := Lib.hid (show waitsL s ts = if (stateB s && decide (ts.length = s.Runs.length) && ts.all timeB) = true then List.zipWith (fun x t => waitF t x) s.Runs ts else [] from rfl)
  generalize waitsL s ts = R at *
  generalize stateB s = ok at *
  obtain ⟨⟨ps, ns⟩, up, lic, dep, now, qs, rs, es⟩ := s
  obtain ⟨A1, c1, A2, c2, A3, c3, A6, c6, A7, c7, A8, c8, rfl, h1, h2, h3, h6, h7, h8⟩ := h
  obtain ⟨hl1, hl2, hl3, hl6, hl7, hl8⟩ := hlen
  simp only [] at hl7 HOKC HSR HSP ⊢
  have HRS := Lib.hid (fun (u : World) (e : Ext w u) => h7.ext RRun.mono e)
  have HTS := Lib.hid (fun (u : World) (e : Ext w u) => ht.ext (Flat.mono encInt In64) e)
  have HTL := Lib.hid ht.len
  clear h1 h2 h3 h6 h7 h8 hl1 hl2 hl3 hl6 hl8 ht
  have HE0 := Lib.hid (owns_empty (w.alloc (.cells #[.slice A1 ps.length c1, .slice A2 ns.length c2, .slice A3 up.length c3, .int .i64 lic.A, .int .i64 lic.B, .int .i64 lic.C, .int .i64 dep, .int .i64 now, .slice A6 qs.length c6, .slice A7 rs.length c7, .slice A8 es.length c8] 44)) 3 1)
  go_enter Tryz.func15, Tryz.ntmps15
  go_wp2_with fail
  refine (HOKC.out _ (((Ext.refl w).alloc _).alloc _)).mono ?_
  rintro e w1 ⟨rfl, hb1⟩
  have HX1 := Lib.hid (show Ext (w.alloc (.cells #[.slice A1 ps.length c1, .slice A2 ns.length c2, .slice A3 up.length c3, .int .i64 lic.A, .int .i64 lic.B, .int .i64 lic.C, .int .i64 dep, .int .i64 now, .slice A6 qs.length c6, .slice A7 rs.length c7, .slice A8 es.length c8] 44)) w1 from ((Ext.refl _).alloc _).trans hb1)
  have hx1 : Ext w w1 := ((Ext.refl w).alloc _).trans HX1.out
  have hz1 : w.heap.size + 1 ≤ w1.heap.size := by have := HX1.out.le; simpa using this
  have s9 := HX1.out.cell (cell_box_at w w.heap.size rfl [.slice A1 ps.length c1, .slice A2 ns.length c2, .slice A3 up.length c3, .int .i64 lic.A, .int .i64 lic.B, .int .i64 lic.C, .int .i64 dep, .int .i64 now, .slice A6 qs.length c6, .slice A7 rs.length c7, .slice A8 es.length c8] 44 9 _ rfl)
  have hs9 := lt_of_cell s9
  have HE1 := Lib.hid (owns_ext HE0.out hb1)
  simp only [World.size_alloc] at HE1
  rcases ok with _ | _
  · go_wp2
    exact bodyPost_ret (results_tmp rfl _ _ _) rfl (by rw [HSP.out]; exact ret_ints (xs := []) HE1.out rfl (by omega) (fun y hy => by cases hy) hx1)
  by_cases hnl : n = rs.length
  rotate_left
  · have HN := Lib.hid (show R = [] by rw [HSP.out, HTL.out, decide_eq_false hnl]; rfl)
    have hd : ((n : Int) != (rs.length : Int)) = true := by rw [bne_iff_ne]; omega
    have hd2 : decide (n = rs.length) = false := decide_eq_false hnl
    have hd3 : decide ((n : Int) = (rs.length : Int)) = false := decide_eq_false (by omega)
    go_wp2
    exact bodyPost_ret (results_tmp rfl _ _ _) rfl (by rw [HN.out]; exact ret_ints (xs := []) HE1.out rfl (by omega) (fun y hy => by cases hy) hx1)
  subst hnl
  obtain ⟨hruns, hnow, _⟩ := HSR.out (by trivial)
  have HRU := Lib.hid hruns
  have HR := Lib.hid (show R = if ts.all timeB = true then List.zipWith (fun x t => waitF t x) rs ts else [] by rw [HSP.out, HTL.out, decide_eq_true rfl]; rfl)
  try simp only [] at hnow
  clear hb1 hruns
  go_wp2
  go_loopw [26] (fun i wr => ∃ (k : Nat), k ≤ rs.length ∧ i = .int .i64 k ∧ Hid ((ts.take k).all timeB = true) ∧ Ext w1 wr) (fun i _ => rs.length - (intOf i).toNat)
  case atStart => exact ⟨0, Nat.zero_le _, rfl, Lib.hid rfl, Ext.refl _⟩
  case round =>
    clear s9 hs9
    obtain ⟨k, hk, rfl, HAL, hb⟩ := hrel
    by_cases hlt : k < rs.length
    · obtain ⟨bt, ot, t, cs2, hT, hbt, hty, _, hct, rfl, ht64⟩ := (HTS.out wr (hx1.trans hb)).at_ hlt
      subst hT
      have q0 := hct 0 _ rfl
      simp only [Nat.mul_one, Nat.add_zero] at q0
      have HTY := Lib.hid hty
      have HTI := Lib.hid (fun u : World => sTime_c t u)
      clear hty hct ht64
      go_wp2_with fail
      refine (HTI.out _).mono ?_
      rintro e w2 ⟨rfl, rfl⟩
      rcases (Bool.eq_false_or_eq_true (timeB t)).symm with q1 | q1
      all_goals rw [q1]
      · have HN := Lib.hid (show R = [] by rw [HR.out, if_neg (by rw [all_false HTY.out q1]; simp)])
        clear q1
        go_wp2
        exact bodyPost_ret (results_tmp rfl _ _ _) rfl (by rw [HN.out]; exact ret_ints (xs := []) (owns_ext HE1.out hb) rfl (by omega) (fun y hy => by cases hy) (hx1.trans hb))
      · have HAL2 := Lib.hid (all_take HTY.out HAL.out q1)
        clear q1
        go_wp2
        go_roundw
        case rel => exact ⟨k + 1, by omega, by go_num, HAL2, hb⟩
        case measure => simp [intOf]; omega
    have HALL := Lib.hid (show ts.all timeB = true by have := HAL.out; rw [List.take_of_length_le (by have := HTL.out; omega)] at this; exact this)
    have HX2 := Lib.hid (HX1.out.trans hb)
    have HE2 := Lib.hid (owns_ext HE1.out hb)
    have s9 := HX2.out.cell (cell_box_at w w.heap.size rfl [.slice A1 ps.length c1, .slice A2 ns.length c2, .slice A3 up.length c3, .int .i64 lic.A, .int .i64 lic.B, .int .i64 lic.C, .int .i64 dep, .int .i64 now, .slice A6 qs.length c6, .slice A7 rs.length c7, .slice A8 es.length c8] 44 9 _ rfl)
    have hs9 := lt_of_cell s9
    have hkk : k = rs.length := by omega
    clear hlt HAL hb
    go_wp2
    go_loopw [5, 38] (fun v i wr => ∃ (k : Nat) (A4 : Option Addr) (c4 : Nat), k ≤ rs.length ∧ i = .int .i64 k ∧ v = .slice A4 k c4 ∧ Hid (wr.ownsRow (w.heap.size + 1) 3 1 (.slice A4 k c4) k ((List.zipWith (fun x t => waitF t x) (rs.take k) (ts.take k)).flatMap encInt)) ∧ Ext (w.alloc (.cells #[.slice A1 ps.length c1, .slice A2 ns.length c2, .slice A3 up.length c3, .int .i64 lic.A, .int .i64 lic.B, .int .i64 lic.C, .int .i64 dep, .int .i64 now, .slice A6 qs.length c6, .slice A7 rs.length c7, .slice A8 es.length c8] 44)) wr) (fun _ i _ => rs.length - (intOf i).toNat)
    case atStart => exact ⟨0, _, 0, Nat.zero_le _, rfl, rfl, by simpa using HE2, HX2.out⟩
    case round =>
      clear s9 hs9 HE2 hx1 hz1 HX1 HX2 hkk
      obtain ⟨k, A4, c4, hk, rfl, rfl, HO, hb⟩ := hrel
      have hxw : Ext w wr := ((Ext.refl w).alloc _).trans hb
      by_cases hlt : k < rs.length
      · obtain ⟨bq, oq, x, cs, hA7, hbw, hx, _, hc, Ar, cr, rfl, hs, hcr, hnl, hat64, hjok⟩ := (HRS.out wr hxw).at_ hlt
        subst hA7
        have g0 := hc 0 _ rfl
        have g1 := hc 1 _ rfl
        have g2 := hc 2 _ rfl
        have g3 := hc 3 _ rfl
        have g4 := hc 4 _ rfl
        have g5 := hc 5 _ rfl
        have g6 := hc 6 _ rfl
        have g7 := hc 7 _ rfl
        have g8 := hc 8 _ rfl
        have g9 := hc 9 _ rfl
        have g10 := hc 10 _ rfl
        have g11 := hc 11 _ rfl
        have g12 := hc 12 _ rfl
        simp only [Nat.add_zero] at g0
        obtain ⟨bt, ot, t, cs2, hT, hbt, hty, _, hct, rfl, ht64⟩ := (HTS.out wr hxw).at_ hlt
        subst hT
        have q0 := hct 0 _ rfl
        simp only [Nat.mul_one, Nat.add_zero] at q0
        have HX := Lib.hid hx
        have HTY := Lib.hid hty
        obtain ⟨_, _, hnl24, hat0, hat1⟩ := HRU.out x (List.mem_of_getElem? hx)
        try simp only [] at hat1
        have hzw : w.heap.size + 1 ≤ wr.heap.size := by have := hb.le; simpa using this
        clear hx hty hc hct hs hcr hnl hat64 hjok ht64
        have HO2 := Lib.hid (HO.out.alloc (.cells #[.int .i64 x.Job.Id, .int .i64 x.Job.Prio, .int .i64 x.Job.Nodes, .int .i64 x.Job.Need.A, .int .i64 x.Job.Need.B, .int .i64 x.Job.Need.C, .int .i64 x.Job.Lic.A, .int .i64 x.Job.Lic.B, .int .i64 x.Job.Lic.C, .int .i64 x.Job.Wall, .int .i64 x.Job.Level, .int .i64 x.At, .slice Ar x.Nodes.length cr] 64))
        have htb : 0 ≤ t ∧ t ≤ 1000000000 := by have := List.all_eq_true.1 HALL.out t (List.mem_of_getElem? HTY.out); unfold timeB at this; rw [decide_eq_true_iff] at this; exact this
        have hw1 : IntKind.i64.wrap (x.At - t) = x.At - t := IntWalk.i64_in _ ⟨by omega, by omega⟩
        by_cases hh : t < x.At
        · have HP2 := Lib.hid (show waitF t x = x.At - t from if_pos hh)
          have hd : decide (t < x.At) = true := decide_eq_true hh
          go_wp2
          go_quiet (fail)
          go_wp2_with fail
          go_quiet (fail)
          go_wp2_with (at_builtin; go_must (refine wpList_append_one (w0 := (w.alloc (.cells #[.slice A1 ps.length c1, .slice A2 ns.length c2, .slice A3 up.length c3, .int .i64 lic.A, .int .i64 lic.B, .int .i64 lic.C, .int .i64 dep, .int .i64 now, .slice A6 qs.length c6, .slice (some ⟨bq, oq, none⟩) rs.length c7, .slice A8 es.length c8] 44))) (.tmp 57) (.tmp 59) _ (w.heap.size + 1) 3 i0 _ 1 8 (.slice A4 k c4) k _ (encInt (x.At - t)) rfl rfl Tryz.underlying22 hi hI0 hI1 hI2 rfl (by omega) rfl (owns_ext HO2.out (by repeat (first | exact Ext.refl _ | assumption | apply Ext.alloc | apply Ext.drewN | apply Ext.drew | (refine Ext.setCell ?_ (by first | (simp; done) | (simp; omega) | omega) _) | (refine Ext.trans ?_ (by assumption))))) _ rfl (by first | rfl | simp) rfl (OInt.one _) (by unfold maxLen; omega) (by omega) (Ext.trans hb (by repeat (first | exact Ext.refl _ | assumption | apply Ext.alloc | apply Ext.drewN | apply Ext.drew | (refine Ext.setCell ?_ (by first | (simp; done) | (simp; omega) | omega) _) | (refine Ext.trans ?_ (by assumption))))) (by simp) (by simp; omega) ?_); intro A5 c5 w5 ho5 hb5 hs5)
          have HO5 := Lib.hid ho5
          clear ho5
          go_wp2
          go_roundw
          case rel => exact ⟨k + 1, A5, c5, by omega, by go_num, rfl, Lib.hid (by rw [zip_take HX.out HTY.out, List.flatMap_append]; simpa [HP2.out, encInt] using HO5.out), hb5⟩
          case measure => simp [intOf]; omega
        · have HP2 := Lib.hid (show waitF t x = 0 from if_neg hh)
          have hd : decide (t < x.At) = false := decide_eq_false hh
          go_wp2
          go_quiet (fail)
          go_wp2_with (at_builtin; go_must (refine wpList_append_one (w0 := (w.alloc (.cells #[.slice A1 ps.length c1, .slice A2 ns.length c2, .slice A3 up.length c3, .int .i64 lic.A, .int .i64 lic.B, .int .i64 lic.C, .int .i64 dep, .int .i64 now, .slice A6 qs.length c6, .slice (some ⟨bq, oq, none⟩) rs.length c7, .slice A8 es.length c8] 44))) (.tmp 57) (.tmp 59) _ (w.heap.size + 1) 3 i0 _ 1 8 (.slice A4 k c4) k _ (encInt 0) rfl rfl Tryz.underlying22 hi hI0 hI1 hI2 rfl (by omega) rfl (owns_ext HO2.out (by repeat (first | exact Ext.refl _ | assumption | apply Ext.alloc | apply Ext.drewN | apply Ext.drew | (refine Ext.setCell ?_ (by first | (simp; done) | (simp; omega) | omega) _) | (refine Ext.trans ?_ (by assumption))))) _ rfl (by first | rfl | simp) rfl (OInt.one _) (by unfold maxLen; omega) (by omega) (Ext.trans hb (by repeat (first | exact Ext.refl _ | assumption | apply Ext.alloc | apply Ext.drewN | apply Ext.drew | (refine Ext.setCell ?_ (by first | (simp; done) | (simp; omega) | omega) _) | (refine Ext.trans ?_ (by assumption))))) (by simp) (by simp; omega) ?_); intro A5 c5 w5 ho5 hb5 hs5)
          have HO5 := Lib.hid ho5
          clear ho5
          go_wp2
          go_roundw
          case rel => exact ⟨k + 1, A5, c5, by omega, by go_num, rfl, Lib.hid (by rw [zip_take HX.out HTY.out, List.flatMap_append]; simpa [HP2.out, encInt] using HO5.out), hb5⟩
          case measure => simp [intOf]; omega
      · skip
        have HKN := Lib.hid (show List.zipWith (fun x t => waitF t x) (rs.take k) (ts.take k) = R by rw [HR.out, if_pos HALL.out, List.take_of_length_le (by omega), List.take_of_length_le (by have := HTL.out; omega)])
        have HON := Lib.hid (show wr.ownsRow (w.heap.size + 1) 3 1 (.slice A4 k c4) k (R.flatMap encInt) by rw [← HKN.out]; exact HO.out)
        have HKL := Lib.hid (show k = R.length by rw [← HKN.out, List.length_zipWith, List.length_take, List.length_take]; have := HTL.out; omega)
        have HIN := Lib.hid (show ∀ y ∈ R, In64 y from fun y hy => by
          rw [← HKN.out] at hy
          obtain ⟨j, hj⟩ := List.mem_iff_getElem?.1 hy
          rw [List.getElem?_zipWith] at hj
          cases h1 : (rs.take k)[j]? with
          | none => rw [h1] at hj; cases hj
          | some x =>
            cases h2 : (ts.take k)[j]? with
            | none => rw [h1, h2] at hj; cases hj
            | some t =>
              rw [h1, h2] at hj
              simp at hj
              subst hj
              obtain ⟨_, _, _, h4, h5⟩ := HRU.out x (List.mem_of_mem_take (List.mem_of_getElem? h1))
              have h6 := List.all_eq_true.1 HALL.out t (List.mem_of_mem_take (List.mem_of_getElem? h2))
              unfold timeB at h6
              rw [decide_eq_true_iff] at h6
              try simp only [] at h5
              obtain ⟨p0, p1⟩ := wait_in (t := t) h4 (by omega) h6.1
              exact in64_if (by omega) (by omega))
        go_wp2
        exact bodyPost_ret (results_tmp rfl _ _ _) rfl (by exact ret_ints HON.out HKL.out (by omega) HIN.out hxw)
end Go.Proofs.YtfcffcgdbmkfgaaGreat
