/- Merged by mergelean.py: StLaw, JobAll, Lev, SLev, Low, SLow, SQueue, StOk. -/
import Derived.Test.YtfcffcgdbmkfgaaGreatStateLaw
import Derived.Test.YtfcffcgdbmkfgaaGreatAsc
import Derived.Test.YtfcffcgdbmkfgaaGreatMSt
import Derived.Test.YtfcffcgdbmkfgaaGreatTopo2
import Derived.Deep.RegionHeld3
import Derived.Test.YtfcffcgdbmkfgaaGreatRoomOf
/-! StLaw -/
namespace Go.Proofs.YtfcffcgdbmkfgaaGreat
open Go.RowKit
set_option linter.unusedVariables false
theorem roomGo_runs {m : Nat} {now : Int} : ∀ (l : List Run) (r o : List (List Pt) × List Pt), roomGo m now l r = some o → ∀ x ∈ l, runOkB m now x = true := by
  intro l
  induction l with
  | nil => intro r o _ x hx; cases hx
  | cons a q ih =>
    intro r o h x hx
    rw [roomGo] at h
    split at h
    · rename_i ha
      split at h
      · cases h
      · rcases List.mem_cons.1 hx with rfl | hx
        · exact ha
        · exact ih _ _ h x hx
    · cases h
theorem roomF_some {s : State} (h : (roomF s).isSome = true) : stateHeadB s = true ∧ ∀ x ∈ s.Runs, runOkB s.Topo.Nodes.length s.Now x = true := by
  unfold roomF at h
  split at h
  · rename_i hh
    obtain ⟨o, ho⟩ := Option.isSome_iff_exists.1 h
    exact ⟨hh, roomGo_runs _ _ _ ho⟩
  · cases h
theorem head_parts {s : State} (h : stateHeadB s = true) : topoB s.Topo.Parents s.Topo.Nodes = true ∧ s.Up.length = s.Topo.Nodes.length ∧ vecB s.Lic = true ∧ timeB s.Now = true := by
  unfold stateHeadB at h
  simp only [Bool.and_eq_true, decide_eq_true_iff] at h
  exact ⟨h.1.1.1, h.1.1.2, h.1.2, h.2⟩
theorem runOk_parts {m : Nat} {now : Int} {x : Run} (h : runOkB m now x = true) : jobB x.Job = true ∧ nodesIn m x.Nodes = true ∧ 1 ≤ x.Nodes.length := by
  unfold runOkB jobNodesB at h
  simp only [Bool.and_eq_true, decide_eq_true_iff] at h
  have h1 := h.1.1
  have h2 := h.1.2.2
  refine ⟨h1, h.1.2.1.2, ?_⟩
  have h3 := (jobB_iff x.Job).1 h1
  omega
theorem upL_root {ps : List Int} (h : upGo (ps.drop 1) 1 = true) : ∀ s, s < ps.length → (0 : Int) ∈ upL ps s := by
  intro s
  induction s using Nat.strongRecOn with
  | ind s ih =>
    intro hs
    by_cases h0 : s = 0
    · subst h0; rw [upL_zero]; simp
    · rw [upL_succ h (by omega) hs]
      have := (par_lt h (show 1 ≤ s by omega) hs).2
      exact List.mem_cons_of_mem _ (ih _ this (by omega))
theorem low_range (ps : List Int) (ns : List Node) (nodes : List Int) : ∀ (r s : Nat) (b : Int), (0 ≤ b ∧ b < (s + r : Nat)) → 0 ≤ lowGo ps ns nodes r s b ∧ lowGo ps ns nodes r s b < (s + r : Nat) := by
  intro r
  induction r with
  | zero => intro s b h; exact h
  | succ r ih =>
    intro s b h
    rw [lowGo]
    have := ih (s + 1) (if (overAll ps ns nodes s && (decide (b < 0) || decide (levT ps s ≤ levT ps b.toNat))) = true then (s : Int) else b) (by split <;> omega)
    omega
theorem lowest_range {ps : List Int} {ns : List Node} {nodes : List Int} (ht : topoB ps ns = true) (hv : nodesIn ns.length nodes = true) (h0 : 0 < nodes.length) : 0 ≤ lowestI ps ns nodes ∧ lowestI ps ns nodes < ps.length := by
  have htp := topo_parts ht
  unfold lowestI
  rw [if_pos (by rw [ht, hv, decide_eq_true h0]; rfl)]
  obtain ⟨r, hr⟩ : ∃ r, ps.length = r + 1 := ⟨ps.length - 1, by have := htp.1.1; omega⟩
  rw [hr, lowGo]
  have hov : overAll ps ns nodes ((0 : Nat) : Int) = true := by
    unfold overAll
    rw [List.all_eq_true]
    intro n hn
    rw [List.contains_iff_mem]
    have hn2 : 0 ≤ n ∧ n < ns.length := by
      unfold nodesIn at hv
      rw [List.all_eq_true] at hv
      have := hv n hn
      unfold withinB at this
      simp at this
      omega
    obtain ⟨i, rfl⟩ := Int.eq_ofNat_of_zero_le hn2.1
    have hi : i < ns.length := by omega
    rw [show ((i : Int)).toNat = i by omega, List.getD_eq_getElem?_getD, List.getElem?_eq_getElem hi]
    have hnb := htp.2.2.2.2.1 ns[i] (List.getElem_mem hi)
    unfold nodeB withinB at hnb
    simp only [Bool.and_eq_true, decide_eq_true_iff] at hnb
    exact upL_root htp.2.2.1 _ (by simp only [Option.getD_some]; omega)
  rw [hov]
  have := low_range ps ns nodes r 1 0 (by omega)
  simp only [Bool.true_and]
  rw [if_pos (by simp)]
  simpa [Nat.add_comm] using this
theorem asc_eq : ∀ l : List Int, ascB l = ascGo l := by
  have key : ∀ (l : List Int) (p : Int), chainGo (fun _ => true) ltI (some p) l = ascGo (p :: l) := by
    intro l
    induction l with
    | nil => intro p; rfl
    | cons a r ih => intro p; rw [chainGo, ih a]; rw [ascGo]; simp [ltI]
  intro l
  cases l with
  | nil => rfl
  | cons a r => unfold ascB; rw [chainGo, key]; simp
end Go.Proofs.YtfcffcgdbmkfgaaGreat
/-! JobAll -/
namespace Go.Proofs.YtfcffcgdbmkfgaaGreat
open Go.RowKit
set_option linter.unusedVariables false
theorem CJob.info : (Tryz.prog.info? 62).map (fun i => (i.zero, i.size, i.bytes)) = some (some (.agg #[.int .i64 0, .int .i64 0, .int .i64 0, .int .i64 0, .int .i64 0, .int .i64 0, .int .i64 0, .int .i64 0, .int .i64 0, .int .i64 0, .int .i64 0]), 11, 88) := by kernel_rfl
theorem job_one (y : Job) : ∀ u ∈ y.enc, u.oneCell' = true := by
  intro u hu; simp [Job.enc] at hu; rcases hu with rfl | rfl | rfl | rfl | rfl | rfl | rfl | rfl | rfl | rfl | rfl <;> rfl
def RetJobs (w : World) (xs : List Job) : Ending → World → Prop := fun e w' => ∃ A c, e = .returned (.slice A xs.length c) ∧ w'.ownsRow w.heap.size 62 11 (.slice A xs.length c) xs.length (xs.flatMap Job.enc) ∧ (∀ x ∈ xs, x.ok) ∧ Ext w w'
set_option maxHeartbeats 16000000 in
set_option maxRecDepth 10000 in
theorem all_c (s : State) (v : Value) (w : World) (h : StateAt w s v) (hlen : stateLen s) : Calls Tryz.prog 64 #[v] w (RetJobs w (s.Queue ++ s.Runs.map Run.Job)) := by
  obtain ⟨⟨ps, ns⟩, up, lic, dep, now, qs, rs, es⟩ := s
  obtain ⟨A1, c1, A2, c2, A3, c3, A6, c6, A7, c7, A8, c8, rfl, h1, h2, h3, h6, h7, h8⟩ := h
  obtain ⟨hl1, hl2, hl3, hl6, hl7, hl8⟩ := hlen
  simp only [] at h1 h2 h3 h6 h7 h8 hl1 hl2 hl3 hl6 hl7 hl8 ⊢
  obtain ⟨i0, hi, hI0, hI1, hI2⟩ := info_parts CJob.info
  have HQ := Lib.hid (fun (u : World) (e : Ext w u) => h6.ext (Flat.mono Job.enc Job.ok) e)
  have HRS := Lib.hid (fun (u : World) (e : Ext w u) => h7.ext RRun.mono e)
  have HQK := Lib.hid h6.all
  clear h1 h2 h3 h6 h7 h8
  have HE0 := Lib.hid (show ((w.alloc (.cells #[.slice A1 ps.length c1, .slice A2 ns.length c2, .slice A3 up.length c3, .int .i64 lic.A, .int .i64 lic.B, .int .i64 lic.C, .int .i64 dep, .int .i64 now, .slice A6 qs.length c6, .slice A7 rs.length c7, .slice A8 es.length c8] 44)).alloc (.cells #[] 62)).ownsRow (w.heap.size + 1) 62 11 (.slice (some ⟨w.heap.size + 1, 0, none⟩) 0 0) 0 [] from by
    have h := owns_empty (w.alloc (.cells #[.slice A1 ps.length c1, .slice A2 ns.length c2, .slice A3 up.length c3, .int .i64 lic.A, .int .i64 lic.B, .int .i64 lic.C, .int .i64 dep, .int .i64 now, .slice A6 qs.length c6, .slice A7 rs.length c7, .slice A8 es.length c8] 44)) 62 11
    rw [show (w.alloc (.cells #[.slice A1 ps.length c1, .slice A2 ns.length c2, .slice A3 up.length c3, .int .i64 lic.A, .int .i64 lic.B, .int .i64 lic.C, .int .i64 dep, .int .i64 now, .slice A6 qs.length c6, .slice A7 rs.length c7, .slice A8 es.length c8] 44)).heap.size = w.heap.size + 1 by simp] at h
    exact h)
  go_enter Tryz.func64, Tryz.ntmps64
  go_wp2_with (at_builtin; go_must (refine wpList_append_r (enc := Job.enc) (ok := Job.ok) (.tmp 6) (.tmp 8) _ (w.heap.size + 1) 62 i0 _ 11 88 (.slice (some ⟨w.heap.size + 1, 0, none⟩) 0 0) 0 [] A6 qs.length c6 qs rfl rfl Tryz.underlying40 hi hI0 hI1 hI2 rfl (by omega) rfl HE0.out rfl (HQ.out _ (((Ext.refl w).alloc _).alloc _)) Job.size job_one (by unfold maxLen; omega) (by omega) (by simp) ?_); intro A4 c4 w3 hr3; have HR3 := Lib.hid hr3.row; have HX3 := Lib.hid (ext_turned (w := (w.alloc (.cells #[.slice A1 ps.length c1, .slice A2 ns.length c2, .slice A3 up.length c3, .int .i64 lic.A, .int .i64 lic.B, .int .i64 lic.C, .int .i64 dep, .int .i64 now, .slice A6 qs.length c6, .slice A7 rs.length c7, .slice A8 es.length c8] 44))) ((Ext.refl _).alloc _) (hr3.turned (lo := w.heap.size + 1) (fun q hq => by have h2 : w.heap.size + 1 = q := Option.some.inj hq; omega)) (by simp)); have s9 := HX3.out.cell (cell_box_at w w.heap.size rfl [.slice A1 ps.length c1, .slice A2 ns.length c2, .slice A3 up.length c3, .int .i64 lic.A, .int .i64 lic.B, .int .i64 lic.C, .int .i64 dep, .int .i64 now, .slice A6 qs.length c6, .slice A7 rs.length c7, .slice A8 es.length c8] 44 9 _ rfl); have hs9 := lt_of_cell s9; clear hr3)
  simp only [Nat.zero_add, List.nil_append] at HR3 ⊢
  go_wp2
  go_loopw [3, 13] (fun l iv wr => ∃ (k : Nat) (A5 : Option Addr) (c5 : Nat), k ≤ rs.length ∧ l = .slice A5 (qs.length + k) c5 ∧ iv = .int .i64 k ∧ Hid (wr.ownsRow (w.heap.size + 1) 62 11 (.slice A5 (qs.length + k) c5) (qs.length + k) ((qs ++ (rs.take k).map Run.Job).flatMap Job.enc)) ∧ Hid (∀ x ∈ qs ++ (rs.take k).map Run.Job, x.ok) ∧ Ext (w.alloc (.cells #[.slice A1 ps.length c1, .slice A2 ns.length c2, .slice A3 up.length c3, .int .i64 lic.A, .int .i64 lic.B, .int .i64 lic.C, .int .i64 dep, .int .i64 now, .slice A6 qs.length c6, .slice A7 rs.length c7, .slice A8 es.length c8] 44)) wr) (fun _ iv _ => rs.length - (intOf iv).toNat)
  case atStart => exact ⟨0, A4, c4, Nat.zero_le _, rfl, rfl, Lib.hid (by simpa using HR3.out), Lib.hid (by simpa using HQK.out), HX3.out⟩
  case round =>
    clear s9 hs9 HX3 HR3
    obtain ⟨k, A5, c5, hk, rfl, rfl, HO, HOK, hb⟩ := hrel
    by_cases hlt : k < rs.length
    · obtain ⟨bq, oq, x, cs, hA7, hbw, hx, _, hc, Ar, cr, rfl, hs, hcr, hnl, hat64, hjok⟩ := (HRS.out wr (((Ext.refl w).alloc _).trans hb)).at_ hlt
      subst hA7
      have g0 := hc 0 _ rfl
      have g1 := hc 1 _ rfl
      have g2 := hc 2 _ rfl
      have g3 := hc 3 _ rfl
      have g4 := hc 4 _ rfl
      have g5 := hc 5 _ rfl
      have g6 := hc 6 _ rfl
      have g7 := hc 7 _ rfl
      have g8 := hc 8 _ rfl
      have g9 := hc 9 _ rfl
      have g10 := hc 10 _ rfl
      have g11 := hc 11 _ rfl
      have g12 := hc 12 _ rfl
      simp only [Nat.add_zero] at g0
      have HX := Lib.hid hx
      have HJK := Lib.hid hjok
      have hz := hb.le
      simp at hz
      clear hx hc hs hcr hnl hat64 hjok
      go_wp2_with (at_builtin; go_must (refine wpList_append_r (enc := Job.enc) (ok := Job.ok) (.tmp 17) (.tmp 20) _ (w.heap.size + 1) 62 i0 _ 11 88 (.slice A5 (qs.length + k) c5) (qs.length + k) _ (some ⟨wr.heap.size + 1, 0, none⟩) 1 1 [x.Job] rfl rfl Tryz.underlying40 hi hI0 hI1 hI2 rfl (by omega) rfl (owns_ext HO.out (((Ext.refl _).alloc _).alloc _)) rfl (by exact sl_one_at (enc := Job.enc) _ _ (by simp) x.Job 62 rfl HJK.out) Job.size job_one (by unfold maxLen; omega) (by omega) (by simp; omega) ?_); intro A9 c9 w5 hr5; have HR5 := Lib.hid hr5; clear hr5)
      have HXT := Lib.hid (ext_turned ((hb.alloc _).alloc _) (HR5.out.turned (lo := w.heap.size + 1) (fun q hq => (HO.out.lt q hq).1)) (by simp))
      go_wp2
      go_roundw
      case rel => exact ⟨k + 1, A9, c9, by omega, rfl, by go_num, Lib.hid (by have h := HR5.out.row; rw [take_succ HX.out, List.map_append, ← List.append_assoc, List.flatMap_append]; simpa [Nat.add_assoc] using h), Lib.hid (fun y hy => by rw [take_succ HX.out, List.map_append, ← List.append_assoc] at hy; rcases List.mem_append.1 hy with hy | hy; exact HOK.out y hy; (simp at hy; rw [hy]; exact HJK.out)), HXT.out⟩
      case measure => simp [intOf]; omega
    · obtain rfl : k = rs.length := by omega
      have HT := Lib.hid (show rs.take rs.length = rs from List.take_length)
      rw [HT.out] at HO HOK
      have HLN := Lib.hid (show (qs ++ rs.map Run.Job).length = qs.length + rs.length by simp)
      go_wp2
      exact bodyPost_ret (results_tmp rfl _ _ _) rfl ⟨A5, c5, by rw [HLN.out]; rfl, by rw [HLN.out]; exact owns_base HO.out (by omega), HOK.out, ((Ext.refl w).alloc _).trans hb⟩
end Go.Proofs.YtfcffcgdbmkfgaaGreat
/-! Lev -/
namespace Go.Proofs.YtfcffcgdbmkfgaaGreat
open Go.RowKit
set_option linter.unusedVariables false
theorem height_c (ps : List Int) (A : Option Addr) (m c : Nat) (w : World) (h : SlAt RInt 1 w A (m + 1) ps) (hl : m ≤ 1000) (hup : upGo (ps.drop 1) 1 = true) : Calls Tryz.prog 92 #[.slice A (m + 1) c] w (Same w (.int .i64 (dep ps m))) := by
  have HD := Lib.hid (depth_c ps m A (m + 1) c w h (by unfold maxLen; omega) (by omega) hup)
  clear h hup
  have hg2 : IntKind.i64.wrap ((m : Int) + 1 - 1) = (m : Int) := by rw [show (m : Int) + 1 - 1 = m by omega]; exact IntWalk.i64_in _ ⟨by omega, by omega⟩
  generalize (dep ps m : Int) = d at *
  go_enter Tryz.func92, Tryz.ntmps92
  go_wp2_with fail
  refine HD.out.mono ?_
  rintro e w1 ⟨rfl, rfl⟩
  go_wp2
  exact same_int rfl rfl rfl rfl
set_option maxHeartbeats 4000000 in
theorem level_c (ps : List Int) (ns : List Node) (s : Nat) (A : Option Addr) (m c : Nat) (B : Option Addr) (q d : Nat) (w : World) (h : SlAt RInt 1 w A (m + 1) ps) (hl : m ≤ 1000) (hs : s < m + 1) (hup : upGo (ps.drop 1) 1 = true) : Calls Tryz.prog 66 #[.agg #[.slice A (m + 1) c, .slice B q d], .int .i64 s] w (Ret w (.int .i64 (levT ps s))) := by
  have HH := Lib.hid (fun (u : World) (e : Ext w u) => Same.ret (height_c ps A m c u (h.ext (Flat.mono _ _) e) hl hup))
  have HD := Lib.hid (fun (u : World) (e : Ext w u) => Same.ret (depth_c ps s A (m + 1) c u (h.ext (Flat.mono _ _) e) (by unfold maxLen; omega) hs hup))
  have HL := Lib.hid (show levT ps s = (dep ps m : Int) - dep ps s by unfold levT; rw [h.len]; rfl)
  have hd1 := dep_le ps m
  have hd2 := dep_le ps s
  clear h hup
  rw [HL.out]
  generalize dep ps m = d1 at *
  generalize dep ps s = d2 at *
  go_enter Tryz.func66, Tryz.ntmps66
  have hcx := @Later.cell (w.alloc (.cells #[.slice A (m + 1) c, .slice B q d] 38))
  have HXW := Lib.hid (fun x : Later (w.alloc (.cells #[.slice A (m + 1) c, .slice B q d] 38)) => ((Ext.refl w).alloc _).trans x.ext)
  go_wp2
  refine wp_region_ext (by kernel_rfl) (by kernel_rfl) ?_
  repeat (go_big_quiet_step (first | ((go_at_call 92; exact Calls.quiet_ext ((HH.out _ (HXW.out _))))) | ((go_at_call 93; exact Calls.quiet_ext ((HD.out _ (HXW.out _)))))))
  refine wpQuiet_nil ?_
  intro w1 hb1
  have HB1 := Lib.hid hb1
  clear hcx  hb1
  go_wp2
  exact ret_int rfl rfl rfl (by go_num) (((Ext.refl w).alloc _).trans HB1.out)
theorem up_zero (ps : List Int) : upL ps 0 = [0] := upL_zero ps
set_option maxHeartbeats 4000000 in
set_option maxRecDepth 8000 in
theorem above_c (ps : List Int) (ns : List Node) (s : Nat) (A : Option Addr) (n c : Nat) (B : Option Addr) (m d : Nat) (w : World) (h : SlAt RInt 1 w A n ps) (hn : n ≤ 24) (hs : s < n) (hup : upGo (ps.drop 1) 1 = true) : Calls Tryz.prog 96 #[.agg #[.slice A n c, .slice B m d], .int .i64 s] w (RetOwn RInt 3 1 w (upL ps s)) := by
  obtain ⟨i0, hi, hI0, hI1, hI2⟩ := info_parts (show (Tryz.prog.info? 3).map (fun i => (i.zero, i.size, i.bytes)) = some (some (.int .i64 0), 1, 8) by kernel_rfl)
  have HN := Lib.hid h.len
  have HP := Lib.hid (fun (u : World) (e : Ext w u) => h.ext (Flat.mono encInt In64) e)
  have HUP := Lib.hid hup
  clear h hup
  have HE0 := Lib.hid (show ((w.alloc (.cells #[.slice A n c, .slice B m d] 38)).alloc (.cells #[.int .i64 s] 3)).ownsRow (w.heap.size + 1) 3 1 (.slice (some ⟨w.heap.size + 1, 0, none⟩) 1 1) 1 [.int .i64 s] from by
    have h := gbox1 (w.alloc (.cells #[.slice A n c, .slice B m d] 38)) (.int .i64 s) 3
    rw [show (w.alloc (.cells #[.slice A n c, .slice B m d] 38)).heap.size = w.heap.size + 1 by simp] at h
    exact h)
  go_enter Tryz.func96, Tryz.ntmps96
  go_wp2
  go_loopw [1, 5] (fun sv l wr => ∃ (t k : Nat) (pre : List Int) (A1 : Option Addr) (c1 : Nat), sv = .int .i64 t ∧ t ≤ s ∧ Hid (k = pre.length) ∧ l = .slice A1 (k + 1) c1 ∧ k + t ≤ s ∧ Hid (upL ps s = pre ++ upL ps t) ∧ Hid (∀ x ∈ pre, In64 x) ∧ Hid (wr.ownsRow (w.heap.size + 1) 3 1 (.slice A1 (k + 1) c1) (k + 1) ((pre ++ [(t : Int)]).flatMap encInt)) ∧ Ext (w.alloc (.cells #[.slice A n c, .slice B m d] 38)) wr) (fun sv _ _ => (intOf sv).toNat)
  case atStart => exact ⟨s, 0, [], _, _, rfl, Nat.le_refl _, Lib.hid rfl, rfl, by omega, Lib.hid rfl, Lib.hid (fun x hx => by cases hx), HE0, (Ext.refl _).alloc _⟩
  case round =>
    clear HE0
    obtain ⟨t, k, pre, A1, c1, rfl, ht, HKL, rfl, hkt, HU, HI, HO, hb⟩ := hrel
    by_cases h0 : 0 < t
    · obtain ⟨b, o, x, cs, hA, hbw, hx, _, hc, rfl, _⟩ := (HP.out wr (((Ext.refl w).alloc _).trans hb)).at_ (show t < n by omega)
      subst hA
      have g0 := hc 0 _ rfl
      simp only [Nat.mul_one, Nat.add_zero] at g0
      have hp := par_lt HUP.out h0 (by rw [HN.out]; omega)
      have hxe : x = (parN ps t : Int) := by
        obtain ⟨h1, h2⟩ := List.getElem?_eq_some_iff.1 hx
        rw [← hp.1]; exact h2.symm
      subst hxe
      have hp2 := hp.2
      have HQ := Lib.hid (upL_succ HUP.out h0 (show t < ps.length by rw [HN.out]; omega))
      generalize parN ps t = q at *
      have z0 := hb.cell (cell_box_at w w.heap.size rfl [.slice (some ⟨b, o, none⟩) n c, .slice B m d] 38 0 _ rfl)
      have hz0 := lt_of_cell z0
      have hzl := hb.le
      simp at hzl
      clear hc hx hp
      go_wp2_with (at_builtin; go_must (refine wpList_append_r (enc := encInt) (ok := In64) (.tmp 15) (.tmp 17) _ (w.heap.size + 1) 3 i0 _ 1 8 (.slice A1 (k + 1) c1) (k + 1) _ (some ⟨wr.heap.size, 0, none⟩) 1 1 [(q : Int)] rfl rfl Tryz.underlying22 hi hI0 hI1 hI2 rfl (by omega) rfl (owns_ext HO.out ((Ext.refl _).alloc _)) rfl (by exact sl_one_at (enc := encInt) _ _ rfl (q : Int) 3 rfl ⟨by omega, by omega⟩) (fun _ => rfl) cInt_one (by unfold maxLen; omega) (by omega) (by simp; omega) ?_); intro A9 c9 w5 hr5; have HR5 := Lib.hid hr5; clear hr5)
      have HXT := Lib.hid (ext_turned (hb.alloc _) (HR5.out.turned (lo := w.heap.size + 1) (fun q hq => (HO.out.lt q hq).1)) (by simp))
      go_wp2
      go_roundw
      case rel => exact ⟨q, k + 1, pre ++ [(t : Int)], A9, c9, rfl, by omega, Lib.hid (by rw [List.length_append, ← HKL.out]; rfl), rfl, by omega, Lib.hid (by rw [HU.out, HQ.out]; simp), Lib.hid (fun y hy => by rcases List.mem_append.1 hy with hy | hy; exact HI.out y hy; (rw [List.mem_singleton.1 hy]; exact ⟨by omega, by omega⟩)), Lib.hid (by have h := HR5.out.row; rw [List.flatMap_append]; simpa using h), HXT.out⟩
      case measure => simp [intOf]; omega
    · obtain rfl : t = 0 := by omega
      have HR := Lib.hid (show upL ps s = pre ++ [((0 : Nat) : Int)] by rw [HU.out, upL_zero]; rfl)
      have HL1 := Lib.hid (show (pre ++ [((0 : Nat) : Int)]).length = k + 1 by rw [List.length_append, ← HKL.out]; rfl)
      go_wp2
      exact ret_own2 rfl (owns_base (by rw [HR.out]; exact HO.out) (by omega)) (by rw [HR.out, HL1.out]) (fun _ => rfl) (fun x hx => by rw [HR.out] at hx; rcases List.mem_append.1 hx with hx | hx; exact HI.out x hx; (rw [List.mem_singleton.1 hx]; exact ⟨by omega, by omega⟩)) (((Ext.refl w).alloc _).trans hb)
end Go.Proofs.YtfcffcgdbmkfgaaGreat
/-! SLev -/
namespace Go.Proofs.YtfcffcgdbmkfgaaGreat
open Go.RowKit
set_option linter.unusedVariables false
set_option maxHeartbeats 4000000 in
set_option maxRecDepth 8000 in
theorem l02Up_c (ps : List Int) (ns : List Node) (s : Nat) (A : Option Addr) (n c : Nat) (B : Option Addr) (m d : Nat) (w : World) (h : SlAt RInt 1 w A n ps) (hn : n ≤ 24) (hs : s < n) (hup : upGo (ps.drop 1) 1 = true) : Calls Tryz.prog 82 #[.agg #[.slice A n c, .slice B m d], .int .i64 s] w (RetOwn RInt 3 1 w (upL ps s)) := by
  obtain ⟨i0, hi, hI0, hI1, hI2⟩ := info_parts (show (Tryz.prog.info? 3).map (fun i => (i.zero, i.size, i.bytes)) = some (some (.int .i64 0), 1, 8) by kernel_rfl)
  have HN := Lib.hid h.len
  have HP := Lib.hid (fun (u : World) (e : Ext w u) => h.ext (Flat.mono encInt In64) e)
  have HUP := Lib.hid hup
  clear h hup
  have HE0 := Lib.hid (show ((w.alloc (.cells #[.slice A n c, .slice B m d] 38)).alloc (.cells #[.int .i64 s] 3)).ownsRow (w.heap.size + 1) 3 1 (.slice (some ⟨w.heap.size + 1, 0, none⟩) 1 1) 1 [.int .i64 s] from by
    have h := gbox1 (w.alloc (.cells #[.slice A n c, .slice B m d] 38)) (.int .i64 s) 3
    rw [show (w.alloc (.cells #[.slice A n c, .slice B m d] 38)).heap.size = w.heap.size + 1 by simp] at h
    exact h)
  go_enter Tryz.func82, Tryz.ntmps82
  go_wp2
  go_loopw [1, 5] (fun sv l wr => ∃ (t k : Nat) (pre : List Int) (A1 : Option Addr) (c1 : Nat), sv = .int .i64 t ∧ t ≤ s ∧ Hid (k = pre.length) ∧ l = .slice A1 (k + 1) c1 ∧ k + t ≤ s ∧ Hid (upL ps s = pre ++ upL ps t) ∧ Hid (∀ x ∈ pre, In64 x) ∧ Hid (wr.ownsRow (w.heap.size + 1) 3 1 (.slice A1 (k + 1) c1) (k + 1) ((pre ++ [(t : Int)]).flatMap encInt)) ∧ Ext (w.alloc (.cells #[.slice A n c, .slice B m d] 38)) wr) (fun sv _ _ => (intOf sv).toNat)
  case atStart => exact ⟨s, 0, [], _, _, rfl, Nat.le_refl _, Lib.hid rfl, rfl, by omega, Lib.hid rfl, Lib.hid (fun x hx => by cases hx), HE0, (Ext.refl _).alloc _⟩
  case round =>
    clear HE0
    obtain ⟨t, k, pre, A1, c1, rfl, ht, HKL, rfl, hkt, HU, HI, HO, hb⟩ := hrel
    by_cases h0 : 0 < t
    · obtain ⟨b, o, x, cs, hA, hbw, hx, _, hc, rfl, _⟩ := (HP.out wr (((Ext.refl w).alloc _).trans hb)).at_ (show t < n by omega)
      subst hA
      have g0 := hc 0 _ rfl
      simp only [Nat.mul_one, Nat.add_zero] at g0
      have hp := par_lt HUP.out h0 (by rw [HN.out]; omega)
      have hxe : x = (parN ps t : Int) := by
        obtain ⟨h1, h2⟩ := List.getElem?_eq_some_iff.1 hx
        rw [← hp.1]; exact h2.symm
      subst hxe
      have hp2 := hp.2
      have HQ := Lib.hid (upL_succ HUP.out h0 (show t < ps.length by rw [HN.out]; omega))
      generalize parN ps t = q at *
      have z0 := hb.cell (cell_box_at w w.heap.size rfl [.slice (some ⟨b, o, none⟩) n c, .slice B m d] 38 0 _ rfl)
      have hz0 := lt_of_cell z0
      have hzl := hb.le
      simp at hzl
      clear hc hx hp
      go_wp2_with (at_builtin; go_must (refine wpList_append_r (enc := encInt) (ok := In64) (.tmp 15) (.tmp 17) _ (w.heap.size + 1) 3 i0 _ 1 8 (.slice A1 (k + 1) c1) (k + 1) _ (some ⟨wr.heap.size, 0, none⟩) 1 1 [(q : Int)] rfl rfl Tryz.underlying22 hi hI0 hI1 hI2 rfl (by omega) rfl (owns_ext HO.out ((Ext.refl _).alloc _)) rfl (by exact sl_one_at (enc := encInt) _ _ rfl (q : Int) 3 rfl ⟨by omega, by omega⟩) (fun _ => rfl) cInt_one (by unfold maxLen; omega) (by omega) (by simp; omega) ?_); intro A9 c9 w5 hr5; have HR5 := Lib.hid hr5; clear hr5)
      have HXT := Lib.hid (ext_turned (hb.alloc _) (HR5.out.turned (lo := w.heap.size + 1) (fun q hq => (HO.out.lt q hq).1)) (by simp))
      go_wp2
      go_roundw
      case rel => exact ⟨q, k + 1, pre ++ [(t : Int)], A9, c9, rfl, by omega, Lib.hid (by rw [List.length_append, ← HKL.out]; rfl), rfl, by omega, Lib.hid (by rw [HU.out, HQ.out]; simp), Lib.hid (fun y hy => by rcases List.mem_append.1 hy with hy | hy; exact HI.out y hy; (rw [List.mem_singleton.1 hy]; exact ⟨by omega, by omega⟩)), Lib.hid (by have h := HR5.out.row; rw [List.flatMap_append]; simpa using h), HXT.out⟩
      case measure => simp [intOf]; omega
    · obtain rfl : t = 0 := by omega
      have HR := Lib.hid (show upL ps s = pre ++ [((0 : Nat) : Int)] by rw [HU.out, upL_zero]; rfl)
      have HL1 := Lib.hid (show (pre ++ [((0 : Nat) : Int)]).length = k + 1 by rw [List.length_append, ← HKL.out]; rfl)
      go_wp2
      exact ret_own2 rfl (owns_base (by rw [HR.out]; exact HO.out) (by omega)) (by rw [HR.out, HL1.out]) (fun _ => rfl) (fun x hx => by rw [HR.out] at hx; rcases List.mem_append.1 hx with hx | hx; exact HI.out x hx; (rw [List.mem_singleton.1 hx]; exact ⟨by omega, by omega⟩)) (((Ext.refl w).alloc _).trans hb)
set_option maxHeartbeats 16000000 in
set_option maxRecDepth 10000 in
theorem l06Jobs_c (s : State) (v : Value) (w : World) (h : StateAt w s v) (hlen : stateLen s) : Calls Tryz.prog 55 #[v] w (RetJobs w (s.Queue ++ s.Runs.map Run.Job)) := by
  obtain ⟨⟨ps, ns⟩, up, lic, dep, now, qs, rs, es⟩ := s
  obtain ⟨A1, c1, A2, c2, A3, c3, A6, c6, A7, c7, A8, c8, rfl, h1, h2, h3, h6, h7, h8⟩ := h
  obtain ⟨hl1, hl2, hl3, hl6, hl7, hl8⟩ := hlen
  simp only [] at h1 h2 h3 h6 h7 h8 hl1 hl2 hl3 hl6 hl7 hl8 ⊢
  obtain ⟨i0, hi, hI0, hI1, hI2⟩ := info_parts CJob.info
  have HQ := Lib.hid (fun (u : World) (e : Ext w u) => h6.ext (Flat.mono Job.enc Job.ok) e)
  have HRS := Lib.hid (fun (u : World) (e : Ext w u) => h7.ext RRun.mono e)
  have HQK := Lib.hid h6.all
  clear h1 h2 h3 h6 h7 h8
  have HE0 := Lib.hid (show ((w.alloc (.cells #[.slice A1 ps.length c1, .slice A2 ns.length c2, .slice A3 up.length c3, .int .i64 lic.A, .int .i64 lic.B, .int .i64 lic.C, .int .i64 dep, .int .i64 now, .slice A6 qs.length c6, .slice A7 rs.length c7, .slice A8 es.length c8] 44)).alloc (.cells #[] 62)).ownsRow (w.heap.size + 1) 62 11 (.slice (some ⟨w.heap.size + 1, 0, none⟩) 0 0) 0 [] from by
    have h := owns_empty (w.alloc (.cells #[.slice A1 ps.length c1, .slice A2 ns.length c2, .slice A3 up.length c3, .int .i64 lic.A, .int .i64 lic.B, .int .i64 lic.C, .int .i64 dep, .int .i64 now, .slice A6 qs.length c6, .slice A7 rs.length c7, .slice A8 es.length c8] 44)) 62 11
    rw [show (w.alloc (.cells #[.slice A1 ps.length c1, .slice A2 ns.length c2, .slice A3 up.length c3, .int .i64 lic.A, .int .i64 lic.B, .int .i64 lic.C, .int .i64 dep, .int .i64 now, .slice A6 qs.length c6, .slice A7 rs.length c7, .slice A8 es.length c8] 44)).heap.size = w.heap.size + 1 by simp] at h
    exact h)
  go_enter Tryz.func55, Tryz.ntmps55
  go_wp2_with (at_builtin; go_must (refine wpList_append_r (enc := Job.enc) (ok := Job.ok) (.tmp 6) (.tmp 8) _ (w.heap.size + 1) 62 i0 _ 11 88 (.slice (some ⟨w.heap.size + 1, 0, none⟩) 0 0) 0 [] A6 qs.length c6 qs rfl rfl Tryz.underlying40 hi hI0 hI1 hI2 rfl (by omega) rfl HE0.out rfl (HQ.out _ (((Ext.refl w).alloc _).alloc _)) Job.size job_one (by unfold maxLen; omega) (by omega) (by simp) ?_); intro A4 c4 w3 hr3; have HR3 := Lib.hid hr3.row; have HX3 := Lib.hid (ext_turned (w := (w.alloc (.cells #[.slice A1 ps.length c1, .slice A2 ns.length c2, .slice A3 up.length c3, .int .i64 lic.A, .int .i64 lic.B, .int .i64 lic.C, .int .i64 dep, .int .i64 now, .slice A6 qs.length c6, .slice A7 rs.length c7, .slice A8 es.length c8] 44))) ((Ext.refl _).alloc _) (hr3.turned (lo := w.heap.size + 1) (fun q hq => by have h2 : w.heap.size + 1 = q := Option.some.inj hq; omega)) (by simp)); have s9 := HX3.out.cell (cell_box_at w w.heap.size rfl [.slice A1 ps.length c1, .slice A2 ns.length c2, .slice A3 up.length c3, .int .i64 lic.A, .int .i64 lic.B, .int .i64 lic.C, .int .i64 dep, .int .i64 now, .slice A6 qs.length c6, .slice A7 rs.length c7, .slice A8 es.length c8] 44 9 _ rfl); have hs9 := lt_of_cell s9; clear hr3)
  simp only [Nat.zero_add, List.nil_append] at HR3 ⊢
  go_wp2
  go_loopw [3, 13] (fun l iv wr => ∃ (k : Nat) (A5 : Option Addr) (c5 : Nat), k ≤ rs.length ∧ l = .slice A5 (qs.length + k) c5 ∧ iv = .int .i64 k ∧ Hid (wr.ownsRow (w.heap.size + 1) 62 11 (.slice A5 (qs.length + k) c5) (qs.length + k) ((qs ++ (rs.take k).map Run.Job).flatMap Job.enc)) ∧ Hid (∀ x ∈ qs ++ (rs.take k).map Run.Job, x.ok) ∧ Ext (w.alloc (.cells #[.slice A1 ps.length c1, .slice A2 ns.length c2, .slice A3 up.length c3, .int .i64 lic.A, .int .i64 lic.B, .int .i64 lic.C, .int .i64 dep, .int .i64 now, .slice A6 qs.length c6, .slice A7 rs.length c7, .slice A8 es.length c8] 44)) wr) (fun _ iv _ => rs.length - (intOf iv).toNat)
  case atStart => exact ⟨0, A4, c4, Nat.zero_le _, rfl, rfl, Lib.hid (by simpa using HR3.out), Lib.hid (by simpa using HQK.out), HX3.out⟩
  case round =>
    clear s9 hs9 HX3 HR3
    obtain ⟨k, A5, c5, hk, rfl, rfl, HO, HOK, hb⟩ := hrel
    by_cases hlt : k < rs.length
    · obtain ⟨bq, oq, x, cs, hA7, hbw, hx, _, hc, Ar, cr, rfl, hs, hcr, hnl, hat64, hjok⟩ := (HRS.out wr (((Ext.refl w).alloc _).trans hb)).at_ hlt
      subst hA7
      have g0 := hc 0 _ rfl
      have g1 := hc 1 _ rfl
      have g2 := hc 2 _ rfl
      have g3 := hc 3 _ rfl
      have g4 := hc 4 _ rfl
      have g5 := hc 5 _ rfl
      have g6 := hc 6 _ rfl
      have g7 := hc 7 _ rfl
      have g8 := hc 8 _ rfl
      have g9 := hc 9 _ rfl
      have g10 := hc 10 _ rfl
      have g11 := hc 11 _ rfl
      have g12 := hc 12 _ rfl
      simp only [Nat.add_zero] at g0
      have HX := Lib.hid hx
      have HJK := Lib.hid hjok
      have hz := hb.le
      simp at hz
      clear hx hc hs hcr hnl hat64 hjok
      go_wp2_with (at_builtin; go_must (refine wpList_append_r (enc := Job.enc) (ok := Job.ok) (.tmp 17) (.tmp 20) _ (w.heap.size + 1) 62 i0 _ 11 88 (.slice A5 (qs.length + k) c5) (qs.length + k) _ (some ⟨wr.heap.size + 1, 0, none⟩) 1 1 [x.Job] rfl rfl Tryz.underlying40 hi hI0 hI1 hI2 rfl (by omega) rfl (owns_ext HO.out (((Ext.refl _).alloc _).alloc _)) rfl (by exact sl_one_at (enc := Job.enc) _ _ (by simp) x.Job 62 rfl HJK.out) Job.size job_one (by unfold maxLen; omega) (by omega) (by simp; omega) ?_); intro A9 c9 w5 hr5; have HR5 := Lib.hid hr5; clear hr5)
      have HXT := Lib.hid (ext_turned ((hb.alloc _).alloc _) (HR5.out.turned (lo := w.heap.size + 1) (fun q hq => (HO.out.lt q hq).1)) (by simp))
      go_wp2
      go_roundw
      case rel => exact ⟨k + 1, A9, c9, by omega, rfl, by go_num, Lib.hid (by have h := HR5.out.row; rw [take_succ HX.out, List.map_append, ← List.append_assoc, List.flatMap_append]; simpa [Nat.add_assoc] using h), Lib.hid (fun y hy => by rw [take_succ HX.out, List.map_append, ← List.append_assoc] at hy; rcases List.mem_append.1 hy with hy | hy; exact HOK.out y hy; (simp at hy; rw [hy]; exact HJK.out)), HXT.out⟩
      case measure => simp [intOf]; omega
    · obtain rfl : k = rs.length := by omega
      have HT := Lib.hid (show rs.take rs.length = rs from List.take_length)
      rw [HT.out] at HO HOK
      have HLN := Lib.hid (show (qs ++ rs.map Run.Job).length = qs.length + rs.length by simp)
      go_wp2
      exact bodyPost_ret (results_tmp rfl _ _ _) rfl ⟨A5, c5, by rw [HLN.out]; rfl, by rw [HLN.out]; exact owns_base HO.out (by omega), HOK.out, ((Ext.refl w).alloc _).trans hb⟩
end Go.Proofs.YtfcffcgdbmkfgaaGreat
/-! Low -/
namespace Go.Proofs.YtfcffcgdbmkfgaaGreat
open Go.RowKit
set_option linter.unusedVariables false
def overOne (ps : List Int) (ns : List Node) (s n : Int) : Bool := (upL ps ((ns.getD n.toNat ⟨0, ⟨0, 0, 0⟩⟩).Leaf.toNat)).contains s
theorem overAll_eq (ps : List Int) (ns : List Node) (nodes : List Int) (s : Int) : overAll ps ns nodes s = nodes.all (overOne ps ns s) := rfl
theorem all_step {α : Type} {l : List α} {p : α → Bool} {k : Nat} {x : α} (hx : l[k]? = some x) : (l.take (k + 1)).all p = ((l.take k).all p && p x) := by
  rw [take_succ hx, List.all_append]; simp
theorem low_step (ps : List Int) (ns : List Node) (nodes : List Int) {r k : Nat} (best : Int) : lowGo ps ns nodes (r + 1) k best = lowGo ps ns nodes r (k + 1) (if (overAll ps ns nodes k && (decide (best < 0) || decide (levT ps k ≤ levT ps best.toNat))) = true then k else best) := rfl
set_option maxHeartbeats 16000000 in
set_option maxRecDepth 10000 in
theorem Lowest_c (ps : List Int) (ns : List Node) (nodes : List Int) (A : Option Addr) (m c : Nat) (B : Option Addr) (q d : Nat) (D : Option Addr) (n f : Nat) (w : World) (h : SlAt RInt 1 w A (m + 1) ps) (h2 : SlAt RNode 4 w B q ns) (h3 : SlAt RInt 1 w D n nodes) (hn : n ≤ 1048576) (h0 : 0 < n) (ht : topoB ps ns = true) (hv : nodesIn ns.length nodes = true) : Calls Tryz.prog 67 #[.agg #[.slice A (m + 1) c, .slice B q d], .slice D n f] w (Ret w (.int .i64 (lowestI ps ns nodes))) := by
  have htp := topo_parts ht
  have hm : m + 1 ≤ 24 := by have := htp.1.2; rw [h.len] at this; exact this
  have hq : q ≤ 24 := by have := htp.2.1; rw [h2.len] at this; exact this
  have HAN := Lib.hid (fun (u : World) (e : Ext w u) => areNodes_c ps ns nodes A (m + 1) c B q d D n f u (h.ext (Flat.mono _ _) e) (by unfold maxLen; omega) (h2.ext (Flat.mono _ _) e) (by unfold maxLen; omega) (h3.ext (Flat.mono _ _) e) (by unfold maxLen; omega))
  rw [show (nodesB ns.length nodes && topoB ps ns) = true by rw [ht, Bool.and_true]; exact hv] at HAN
  have HAB := Lib.hid (fun (s : Nat) (hs : s < m + 1) (u : World) (e : Ext w u) => RetOwn.sl (above_c ps ns s A (m + 1) c B q d u (h.ext (Flat.mono _ _) e) hm hs htp.2.2.1))
  have HLV := Lib.hid (fun (s : Nat) (hs : s < m + 1) (u : World) (e : Ext w u) => level_c ps ns s A m c B q d u (h.ext (Flat.mono _ _) e) (by omega) hs htp.2.2.1)
  have H2 := Lib.hid (fun (u : World) (e : Ext w u) => h2.ext (Flat.mono Node.enc Node.ok) e)
  have H3 := Lib.hid (fun (u : World) (e : Ext w u) => h3.ext (Flat.mono encInt In64) e)
  have HLO := Lib.hid (show lowestI ps ns nodes = lowGo ps ns nodes (m + 1) 0 (-1) by
    unfold lowestI
    rw [if_pos (by rw [ht, hv, h3.len, decide_eq_true h0]; rfl), h.len])
  have HND := Lib.hid (fun (x : Node) (hx : x ∈ ns) => show 0 ≤ x.Leaf ∧ x.Leaf < (m : Int) + 1 from by
    have h5 := htp.2.2.2.2.1 x hx
    unfold nodeB withinB at h5
    simp only [Bool.and_eq_true, decide_eq_true_iff] at h5
    have := h5.1
    have h6 := h.len
    omega)
  have HVN := Lib.hid (fun (x : Int) (hx : x ∈ nodes) => show 0 ≤ x ∧ x < (q : Int) from by have := nodesIn_at hv hx; rw [h2.len] at this; exact this)
  have HNL := Lib.hid h3.len
  have HQL := Lib.hid h2.len
  have hup := htp.2.2.1
  have hlu := Lib.hid (fun s => upL_len ps s)
  clear h h2 h3 ht hv htp hup
  generalize lowestI ps ns nodes = R at *
  go_enter Tryz.func67, Tryz.ntmps67
  go_wp2_with fail
  refine (HAN.out _ (by repeat (first | exact Ext.refl _ | assumption | apply Ext.alloc | apply Ext.drewN | apply Ext.drew | (refine Ext.setCell ?_ (by first | (simp; done) | (simp; omega) | omega) _) | (refine Ext.trans ?_ (by assumption))))).mono ?_
  rintro e w1 ⟨rfl, hb1⟩
  obtain ⟨hcr1, hfr1, hz1⟩ := hb1.rules
  (try simp at hz1)
  have hy1_w0 : w.heap.size < w1.heap.size := (by omega)
  have b0 := (hb1).cell (cell_box_at w (w.heap.size) (by simp) [.slice A (m + 1) c, .slice B q d] 38 0 _ rfl)
  have b1 := (hb1).cell (cell_box_at w (w.heap.size) (by simp) [.slice A (m + 1) c, .slice B q d] 38 1 _ rfl)
  have bf0 := ((hb1).frozenEq (a := ⟨w.heap.size, 0, none⟩) (by simp)).trans (frozen_box_at w (w.heap.size) (by simp) #[.slice A (m + 1) c, .slice B q d] 38 0)
  have bf1 := ((hb1).frozenEq (a := ⟨w.heap.size, 1, none⟩) (by simp)).trans (frozen_box_at w (w.heap.size) (by simp) #[.slice A (m + 1) c, .slice B q d] 38 1)
  have hb0 := lt_of_cell b0
  clear hcr1 hfr1
  have hn0 : ((n : Int) == 0) = false := by rw [beq_eq_false_iff_ne]; omega
  go_wp2
  go_loopw [5, 22] (fun bv iv wr => ∃ (k : Nat) (bst : Int), k ≤ m + 1 ∧ iv = .int .i64 k ∧ bv = .int .i64 bst ∧ (bst = -1 ∨ 0 ≤ bst ∧ bst < k) ∧ Hid (R = lowGo ps ns nodes (m + 1 - k) k bst) ∧ Ext (w.alloc (.cells #[.slice A (m + 1) c, .slice B q d] 38)) wr) (fun _ iv _ => m + 1 - (intOf iv).toNat)
  case atStart => exact ⟨0, -1, Nat.zero_le _, rfl, rfl, .inl rfl, HLO, hb1⟩
  case round =>
    clear b0 b1 bf0 bf1 hb1
    obtain ⟨k, bst, hk, rfl, rfl, hbst, HG, hb⟩ := hrel
    by_cases hlt : k < m + 1
    · have hkd : decide ((k : Int) < (m : Int) + 1) = true := by rw [decide_eq_true_iff]; omega
      go_wp2
      go_loopw [7, 27] (fun av jv wq => ∃ (j : Nat) (al : Bool), j ≤ n ∧ jv = .int .i64 j ∧ av = .bool al ∧ Hid (al = (nodes.take j).all (overOne ps ns k)) ∧ Ext (w.alloc (.cells #[.slice A (m + 1) c, .slice B q d] 38)) wq) (fun _ jv _ => n - (intOf jv).toNat)
      case atStart => exact ⟨0, true, Nat.zero_le _, rfl, rfl, Lib.hid rfl, hb⟩
      case round =>
        obtain ⟨j, al, hj, rfl, rfl, HAL, hbq⟩ := hrel
        have hxq : Ext w wr := ((Ext.refl w).alloc _).trans hbq
        by_cases hlt2 : j < n
        · obtain ⟨bo, oo, x, cs, hD, hbw, hx, _, hc, rfl, _⟩ := (H3.out wr hxq).at_ hlt2
          subst hD
          have g0 := hc 0 _ rfl
          simp only [Nat.mul_one, Nat.add_zero] at g0
          have HST := Lib.hid (all_step (p := overOne ps ns k) hx)
          obtain ⟨hxa, hxb⟩ := HVN.out x (List.mem_of_getElem? hx)
          obtain ⟨i, rfl⟩ := Int.eq_ofNat_of_zero_le hxa
          have hi : i < q := by omega
          obtain ⟨bn, on, y, cs2, hB, hbw2, hy, _, hc2, rfl, _⟩ := (H2.out wr hxq).at_ hi
          subst hB
          have y0 := hc2 0 _ rfl
          have y1 := hc2 1 _ rfl
          have y2 := hc2 2 _ rfl
          have y3 := hc2 3 _ rfl
          simp only [Nat.add_zero] at y0
          have hyl := HND.out y (List.mem_of_getElem? hy)
          have HOV := Lib.hid (show overOne ps ns k (i : Int) = (upL ps y.Leaf.toNat).contains (k : Int) by unfold overOne; rw [show ((i : Int)).toNat = i by omega, List.getD_eq_getElem?_getD, hy]; rfl)
          obtain ⟨lf, hlf⟩ : ∃ lf : Nat, y.Leaf = lf := ⟨y.Leaf.toNat, by omega⟩
          rw [hlf] at y0 HOV hyl
          rw [show ((lf : Int)).toNat = lf by omega] at HOV
          have HAB2 := Lib.hid (fun (u : World) (e : Ext wr u) => HAB.out lf (by omega) u (hxq.trans e))
          have z0 := hbq.cell (cell_box_at w w.heap.size rfl [.slice A (m + 1) c, .slice (some ⟨bn, on, none⟩) q d] 38 0 _ rfl)
          have z1 := hbq.cell (cell_box_at w w.heap.size rfl [.slice A (m + 1) c, .slice (some ⟨bn, on, none⟩) q d] 38 1 _ rfl)
          have hz0 := lt_of_cell z0
          have hul := hlu.out lf
          clear hx hc hy hc2 y1 y2 y3
          rcases al with _ | _
          · go_wp2
            go_quiet (fail)
            go_wp2
            go_roundw
            case rel => exact ⟨j + 1, false, by omega, by go_num, rfl, Lib.hid (by rw [HST.out, ← HAL.out]; rfl), Ext.trans hbq ((Ext.refl _).drewN _)⟩
            case measure => simp [intOf]; omega
          · have HKS := Lib.hid (fun (u : World) (e : Ext wr u) => show Ext wr u ∧ u.cell? ⟨w.heap.size, 0, none⟩ = some (.slice A (m + 1) c) ∧ u.cell? ⟨w.heap.size, 1, none⟩ = some (.slice (some ⟨bn, on, none⟩) q d) ∧ u.cell? ⟨bn, on + i * 4, none⟩ = some (.int .i64 lf) from ⟨e, e.cell z0, e.cell z1, e.cell y0⟩)
            go_wp2
            go_region_held3 (fun u => Ext wr u ∧ u.cell? ⟨w.heap.size, 0, none⟩ = some (.slice A (m + 1) c) ∧ u.cell? ⟨w.heap.size, 1, none⟩ = some (.slice (some ⟨bn, on, none⟩) q d) ∧ u.cell? ⟨bn, on + i * 4, none⟩ = some (.int .i64 lf)) ((refine HKS.out _ ?_; first | exact (Ext.refl _).drew | assumption | exact HE6.out | exact HE5.out)) (first | (go_at_call 96; (with_reducible refine (HAB2.out _ (by repeat (first | exact Ext.refl _ | apply Ext.drew))).mono ?_); rintro e w5 ⟨A5, c5, rfl, hs5, hb5⟩; have HE5 := Lib.hid (show Ext wr w5 from Ext.trans (by repeat (first | exact Ext.refl _ | apply Ext.drew)) hb5); have HS5 := Lib.hid hs5; clear hs5) | (go_at_call 95; (with_reducible refine (Contains_c (upL ps lf) (k : Int) A5 (upL ps lf).length c5 _ HS5.out (by unfold maxLen; omega)).mono ?_); rintro e w6 ⟨rfl, hb6⟩; have HE6 := Lib.hid (HE5.out.trans hb6)))
            all_goals
              go_wp2
              go_roundw
              case rel => exact ⟨j + 1, decide ((k : Int) ∈ upL ps lf), by omega, by go_num, rfl, Lib.hid (by rw [HST.out, ← HAL.out, HOV.out]; simp), hbq.trans HE6.out⟩
              case measure => simp [intOf]; omega
        · have HAF := Lib.hid (show overAll ps ns nodes k = al by rw [overAll_eq, HAL.out, List.take_of_length_le (by have := HNL.out; omega)])
          have HGS := Lib.hid (show R = lowGo ps ns nodes (m + 1 - (k + 1)) (k + 1) (if (al && (decide (bst < 0) || decide (levT ps k ≤ levT ps bst.toNat))) = true then k else bst) by rw [HG.out, show m + 1 - k = m + 1 - (k + 1) + 1 by omega, low_step, HAF.out])
          have z0 := hbq.cell (cell_box_at w w.heap.size rfl [.slice A (m + 1) c, .slice B q d] 38 0 _ rfl)
          have z1 := hbq.cell (cell_box_at w w.heap.size rfl [.slice A (m + 1) c, .slice B q d] 38 1 _ rfl)
          have hz0 := lt_of_cell z0
          rcases al with _ | _
          · go_wp2
            go_quiet (fail)
            go_wp2
            go_roundw
            case rel => exact ⟨k + 1, bst, by omega, by go_num, rfl, by omega, Lib.hid (by rw [HGS.out]; rfl), Ext.trans hbq ((Ext.refl _).drewN _)⟩
            case measure => simp [intOf]; omega
          · rcases hbst with rfl | ⟨hb1, hb2⟩
            · go_wp2
              go_quiet (fail)
              go_wp2
              go_roundw
              case rel => exact ⟨k + 1, k, by omega, by go_num, rfl, .inr ⟨by omega, by omega⟩, Lib.hid (by rw [HGS.out]; rfl), Ext.trans hbq ((Ext.refl _).drewN _)⟩
              case measure => simp [intOf]; omega
            · obtain ⟨t, rfl⟩ := Int.eq_ofNat_of_zero_le hb1
              have hdb : decide ((t : Int) < 0) = false := by rw [decide_eq_false_iff_not]; omega
              have HG2 := Lib.hid (show R = lowGo ps ns nodes (m + 1 - (k + 1)) (k + 1) (if levT ps k ≤ levT ps t then (k : Int) else t) by
                rw [HGS.out, hdb, show ((t : Int)).toNat = t by omega]
                by_cases hle : levT ps k ≤ levT ps t
                · rw [if_pos hle, decide_eq_true hle]; rfl
                · rw [if_neg hle, decide_eq_false hle]; rfl)
              have HV1 := Lib.hid (fun (u : World) (e : Ext wr u) => HLV.out k hlt u ((((Ext.refl w).alloc _).trans hbq).trans e))
              have HV2 := Lib.hid (fun (u : World) (e : Ext wr u) => HLV.out t (by omega) u ((((Ext.refl w).alloc _).trans hbq).trans e))
              generalize levT ps k = l1 at *
              generalize levT ps t = l2 at *
              have hcx := @Later.cell wr
              have HXW := Lib.hid (fun x : Later wr => x.ext)
              by_cases hle : l1 ≤ l2
              · rw [if_pos hle] at HG2
                go_wp2
                refine wp_region_ext (by kernel_rfl) (by kernel_rfl) ?_
                repeat (go_big_quiet_step (first | (go_at_call 66; with_reducible exact Calls.quiet_ext (HV1.out _ (HXW.out _))) | (go_at_call 66; with_reducible exact Calls.quiet_ext (HV2.out _ (HXW.out _)))))
                refine wpQuiet_nil ?_
                intro w7 hb7
                clear hcx z0 z1
                go_wp2
                go_roundw
                case rel => exact ⟨k + 1, k, by omega, by go_num, rfl, .inr ⟨by omega, by omega⟩, HG2, hbq.trans hb7⟩
                case measure => simp [intOf]; omega
              · rw [if_neg hle] at HG2
                go_wp2
                refine wp_region_ext (by kernel_rfl) (by kernel_rfl) ?_
                repeat (go_big_quiet_step (first | (go_at_call 66; with_reducible exact Calls.quiet_ext (HV1.out _ (HXW.out _))) | (go_at_call 66; with_reducible exact Calls.quiet_ext (HV2.out _ (HXW.out _)))))
                refine wpQuiet_nil ?_
                intro w7 hb7
                clear hcx z0 z1
                go_wp2
                go_roundw
                case rel => exact ⟨k + 1, t, by omega, by go_num, rfl, .inr ⟨by omega, by omega⟩, HG2, hbq.trans hb7⟩
                case measure => simp [intOf]; omega
    · have HE := Lib.hid (show R = bst by rw [HG.out, show m + 1 - k = 0 by omega]; rfl)
      go_wp2
      exact ret_int rfl rfl rfl (by rw [HE.out]) (((Ext.refl w).alloc _).trans hb)
end Go.Proofs.YtfcffcgdbmkfgaaGreat
/-! SLow -/
namespace Go.Proofs.YtfcffcgdbmkfgaaGreat
open Go.RowKit
set_option linter.unusedVariables false
set_option maxHeartbeats 16000000 in
set_option maxRecDepth 10000 in
theorem sLowest_c (ps : List Int) (ns : List Node) (nodes : List Int) (A : Option Addr) (m c : Nat) (B : Option Addr) (q d : Nat) (D : Option Addr) (n f : Nat) (w : World) (h : SlAt RInt 1 w A (m + 1) ps) (h2 : SlAt RNode 4 w B q ns) (h3 : SlAt RInt 1 w D n nodes) (hn : n ≤ 1048576) (h0 : 0 < n) (ht : topoB ps ns = true) (hv : nodesIn ns.length nodes = true) : Calls Tryz.prog 57 #[.agg #[.slice A (m + 1) c, .slice B q d], .slice D n f] w (Ret w (.int .i64 (lowestI ps ns nodes))) := by
  have htp := topo_parts ht
  have hm : m + 1 ≤ 24 := by have := htp.1.2; rw [h.len] at this; exact this
  have hq : q ≤ 24 := by have := htp.2.1; rw [h2.len] at this; exact this
  have HAN := Lib.hid (fun (u : World) (e : Ext w u) => l02Nodes_c ps ns nodes A (m + 1) c B q d D n f u (h.ext (Flat.mono _ _) e) (by unfold maxLen; omega) (h2.ext (Flat.mono _ _) e) (by unfold maxLen; omega) (h3.ext (Flat.mono _ _) e) (by unfold maxLen; omega))
  rw [show (nodesB ns.length nodes && topoB ps ns) = true by rw [ht, Bool.and_true]; exact hv] at HAN
  have HAB := Lib.hid (fun (s : Nat) (hs : s < m + 1) (u : World) (e : Ext w u) => RetOwn.sl (l02Up_c ps ns s A (m + 1) c B q d u (h.ext (Flat.mono _ _) e) hm hs htp.2.2.1))
  have HLV := Lib.hid (fun (s : Nat) (hs : s < m + 1) (u : World) (e : Ext w u) => show Calls Tryz.prog 56 #[.agg #[.slice A (m + 1) c, .slice B q d], .int .i64 s] u (Ret u (.int .i64 (levT ps s))) from by
    have h1 := l02Level_c ps A (m + 1) c B q d hm h.len htp.2.2.1 24 s u hs (by omega) (h.ext (Flat.mono _ _) e) (Nat.le_refl _)
    rw [lev_eq ht (by rw [h.len]; exact hs) (by rw [h.len]; omega)] at h1
    exact h1)
  have H2 := Lib.hid (fun (u : World) (e : Ext w u) => h2.ext (Flat.mono Node.enc Node.ok) e)
  have H3 := Lib.hid (fun (u : World) (e : Ext w u) => h3.ext (Flat.mono encInt In64) e)
  have HLO := Lib.hid (show lowestI ps ns nodes = lowGo ps ns nodes (m + 1) 0 (-1) by
    unfold lowestI
    rw [if_pos (by rw [ht, hv, h3.len, decide_eq_true h0]; rfl), h.len])
  have HND := Lib.hid (fun (x : Node) (hx : x ∈ ns) => show 0 ≤ x.Leaf ∧ x.Leaf < (m : Int) + 1 from by
    have h5 := htp.2.2.2.2.1 x hx
    unfold nodeB withinB at h5
    simp only [Bool.and_eq_true, decide_eq_true_iff] at h5
    have := h5.1
    have h6 := h.len
    omega)
  have HVN := Lib.hid (fun (x : Int) (hx : x ∈ nodes) => show 0 ≤ x ∧ x < (q : Int) from by have := nodesIn_at hv hx; rw [h2.len] at this; exact this)
  have HNL := Lib.hid h3.len
  have HQL := Lib.hid h2.len
  have hup := htp.2.2.1
  have hlu := Lib.hid (fun s => upL_len ps s)
  clear h h2 h3 ht hv htp hup
  generalize lowestI ps ns nodes = R at *
  go_enter Tryz.func57, Tryz.ntmps57
  go_wp2_with fail
  refine (HAN.out _ (by repeat (first | exact Ext.refl _ | assumption | apply Ext.alloc | apply Ext.drewN | apply Ext.drew | (refine Ext.setCell ?_ (by first | (simp; done) | (simp; omega) | omega) _) | (refine Ext.trans ?_ (by assumption))))).mono ?_
  rintro e w1 ⟨rfl, hb1⟩
  obtain ⟨hcr1, hfr1, hz1⟩ := hb1.rules
  (try simp at hz1)
  have hy1_w0 : w.heap.size < w1.heap.size := (by omega)
  have b0 := (hb1).cell (cell_box_at w (w.heap.size) (by simp) [.slice A (m + 1) c, .slice B q d] 38 0 _ rfl)
  have b1 := (hb1).cell (cell_box_at w (w.heap.size) (by simp) [.slice A (m + 1) c, .slice B q d] 38 1 _ rfl)
  have bf0 := ((hb1).frozenEq (a := ⟨w.heap.size, 0, none⟩) (by simp)).trans (frozen_box_at w (w.heap.size) (by simp) #[.slice A (m + 1) c, .slice B q d] 38 0)
  have bf1 := ((hb1).frozenEq (a := ⟨w.heap.size, 1, none⟩) (by simp)).trans (frozen_box_at w (w.heap.size) (by simp) #[.slice A (m + 1) c, .slice B q d] 38 1)
  have hb0 := lt_of_cell b0
  clear hcr1 hfr1
  have hn0 : ((n : Int) == 0) = false := by rw [beq_eq_false_iff_ne]; omega
  go_wp2
  go_loopw [5, 23] (fun bv iv wr => ∃ (k : Nat) (bst : Int), k ≤ m + 1 ∧ iv = .int .i64 k ∧ bv = .int .i64 bst ∧ (bst = -1 ∨ 0 ≤ bst ∧ bst < k) ∧ Hid (R = lowGo ps ns nodes (m + 1 - k) k bst) ∧ Ext (w.alloc (.cells #[.slice A (m + 1) c, .slice B q d] 38)) wr) (fun _ iv _ => m + 1 - (intOf iv).toNat)
  case atStart => exact ⟨0, -1, Nat.zero_le _, rfl, rfl, .inl rfl, HLO, hb1⟩
  case round =>
    clear b0 b1 bf0 bf1 hb1
    obtain ⟨k, bst, hk, rfl, rfl, hbst, HG, hb⟩ := hrel
    by_cases hlt : k < m + 1
    · have hkd : decide ((k : Int) < (m : Int) + 1) = true := by rw [decide_eq_true_iff]; omega
      go_wp2
      go_loopw [7, 28] (fun av jv wq => ∃ (j : Nat) (al : Bool), j ≤ n ∧ jv = .int .i64 j ∧ av = .bool al ∧ Hid (al = (nodes.take j).all (overOne ps ns k)) ∧ Ext (w.alloc (.cells #[.slice A (m + 1) c, .slice B q d] 38)) wq) (fun _ jv _ => n - (intOf jv).toNat)
      case atStart => exact ⟨0, true, Nat.zero_le _, rfl, rfl, Lib.hid rfl, hb⟩
      case round =>
        obtain ⟨j, al, hj, rfl, rfl, HAL, hbq⟩ := hrel
        have hxq : Ext w wr := ((Ext.refl w).alloc _).trans hbq
        by_cases hlt2 : j < n
        · obtain ⟨bo, oo, x, cs, hD, hbw, hx, _, hc, rfl, _⟩ := (H3.out wr hxq).at_ hlt2
          subst hD
          have g0 := hc 0 _ rfl
          simp only [Nat.mul_one, Nat.add_zero] at g0
          have HST := Lib.hid (all_step (p := overOne ps ns k) hx)
          obtain ⟨hxa, hxb⟩ := HVN.out x (List.mem_of_getElem? hx)
          obtain ⟨i, rfl⟩ := Int.eq_ofNat_of_zero_le hxa
          have hi : i < q := by omega
          obtain ⟨bn, on, y, cs2, hB, hbw2, hy, _, hc2, rfl, _⟩ := (H2.out wr hxq).at_ hi
          subst hB
          have y0 := hc2 0 _ rfl
          have y1 := hc2 1 _ rfl
          have y2 := hc2 2 _ rfl
          have y3 := hc2 3 _ rfl
          simp only [Nat.add_zero] at y0
          have hyl := HND.out y (List.mem_of_getElem? hy)
          have HOV := Lib.hid (show overOne ps ns k (i : Int) = (upL ps y.Leaf.toNat).contains (k : Int) by unfold overOne; rw [show ((i : Int)).toNat = i by omega, List.getD_eq_getElem?_getD, hy]; rfl)
          obtain ⟨lf, hlf⟩ : ∃ lf : Nat, y.Leaf = lf := ⟨y.Leaf.toNat, by omega⟩
          rw [hlf] at y0 HOV hyl
          rw [show ((lf : Int)).toNat = lf by omega] at HOV
          have HAB2 := Lib.hid (fun (u : World) (e : Ext wr u) => HAB.out lf (by omega) u (hxq.trans e))
          have z0 := hbq.cell (cell_box_at w w.heap.size rfl [.slice A (m + 1) c, .slice (some ⟨bn, on, none⟩) q d] 38 0 _ rfl)
          have z1 := hbq.cell (cell_box_at w w.heap.size rfl [.slice A (m + 1) c, .slice (some ⟨bn, on, none⟩) q d] 38 1 _ rfl)
          have hz0 := lt_of_cell z0
          have hul := hlu.out lf
          clear hx hc hy hc2 y1 y2 y3
          obtain ⟨ct, hct⟩ : ∃ ct, (upL ps lf).contains (k : Int) = ct := ⟨_, rfl⟩
          have HCT := Lib.hid hct
          clear hct
          have HKS := Lib.hid (fun (u : World) (e : Ext wr u) => show Ext wr u ∧ u.cell? ⟨w.heap.size, 0, none⟩ = some (.slice A (m + 1) c) ∧ u.cell? ⟨w.heap.size, 1, none⟩ = some (.slice (some ⟨bn, on, none⟩) q d) ∧ u.cell? ⟨bn, on + i * 4, none⟩ = some (.int .i64 lf) from ⟨e, e.cell z0, e.cell z1, e.cell y0⟩)
          rcases ct with _ | _
          · go_wp2
            go_region_held3 (fun u => Ext wr u ∧ u.cell? ⟨w.heap.size, 0, none⟩ = some (.slice A (m + 1) c) ∧ u.cell? ⟨w.heap.size, 1, none⟩ = some (.slice (some ⟨bn, on, none⟩) q d) ∧ u.cell? ⟨bn, on + i * 4, none⟩ = some (.int .i64 lf)) ((refine HKS.out _ ?_; first | exact (Ext.refl _).drew | assumption | exact HE6.out | exact HE5.out)) (first | (go_at_call 82; (with_reducible refine (HAB2.out _ (by repeat (first | exact Ext.refl _ | apply Ext.drew))).mono ?_); rintro e w5 ⟨A5, c5, rfl, hs5, hb5⟩; have HE5 := Lib.hid (show Ext wr w5 from Ext.trans (by repeat (first | exact Ext.refl _ | apply Ext.drew)) hb5); have HS5 := Lib.hid hs5; clear hs5) | (go_at_call 73; (have hcc := l02Has_c (upL ps lf) (k : Int) A5 (upL ps lf).length c5 _ HS5.out (by unfold maxLen; omega)); rw [HCT.out] at hcc; (with_reducible refine hcc.mono ?_); rintro e w6 ⟨rfl, hb6⟩; have HE6 := Lib.hid (HE5.out.trans hb6)))
            all_goals
              go_wp2
              go_roundw
              case rel => exact ⟨j + 1, false, by omega, by go_num, rfl, Lib.hid (by rw [HST.out, ← HAL.out, HOV.out, HCT.out, Bool.and_false]), hbq.trans HE6.out⟩
              case measure => simp [intOf]; omega
          · go_wp2
            go_region_held3 (fun u => Ext wr u ∧ u.cell? ⟨w.heap.size, 0, none⟩ = some (.slice A (m + 1) c) ∧ u.cell? ⟨w.heap.size, 1, none⟩ = some (.slice (some ⟨bn, on, none⟩) q d) ∧ u.cell? ⟨bn, on + i * 4, none⟩ = some (.int .i64 lf)) ((refine HKS.out _ ?_; first | exact (Ext.refl _).drew | assumption | exact HE6.out | exact HE5.out)) (first | (go_at_call 82; (with_reducible refine (HAB2.out _ (by repeat (first | exact Ext.refl _ | apply Ext.drew))).mono ?_); rintro e w5 ⟨A5, c5, rfl, hs5, hb5⟩; have HE5 := Lib.hid (show Ext wr w5 from Ext.trans (by repeat (first | exact Ext.refl _ | apply Ext.drew)) hb5); have HS5 := Lib.hid hs5; clear hs5) | (go_at_call 73; (have hcc := l02Has_c (upL ps lf) (k : Int) A5 (upL ps lf).length c5 _ HS5.out (by unfold maxLen; omega)); rw [HCT.out] at hcc; (with_reducible refine hcc.mono ?_); rintro e w6 ⟨rfl, hb6⟩; have HE6 := Lib.hid (HE5.out.trans hb6)))
            all_goals
              go_wp2
              go_roundw
              case rel => exact ⟨j + 1, al, by omega, by go_num, rfl, Lib.hid (by rw [HST.out, ← HAL.out, HOV.out, HCT.out, Bool.and_true]), hbq.trans HE6.out⟩
              case measure => simp [intOf]; omega
        · have HAF := Lib.hid (show overAll ps ns nodes k = al by rw [overAll_eq, HAL.out, List.take_of_length_le (by have := HNL.out; omega)])
          have HGS := Lib.hid (show R = lowGo ps ns nodes (m + 1 - (k + 1)) (k + 1) (if (al && (decide (bst < 0) || decide (levT ps k ≤ levT ps bst.toNat))) = true then k else bst) by rw [HG.out, show m + 1 - k = m + 1 - (k + 1) + 1 by omega, low_step, HAF.out])
          have z0 := hbq.cell (cell_box_at w w.heap.size rfl [.slice A (m + 1) c, .slice B q d] 38 0 _ rfl)
          have z1 := hbq.cell (cell_box_at w w.heap.size rfl [.slice A (m + 1) c, .slice B q d] 38 1 _ rfl)
          have hz0 := lt_of_cell z0
          rcases al with _ | _
          · go_wp2
            go_quiet (fail)
            go_wp2
            go_roundw
            case rel => exact ⟨k + 1, bst, by omega, by go_num, rfl, by omega, Lib.hid (by rw [HGS.out]; rfl), Ext.trans hbq ((Ext.refl _).drewN _)⟩
            case measure => simp [intOf]; omega
          · rcases hbst with rfl | ⟨hb1, hb2⟩
            · go_wp2
              go_quiet (fail)
              go_wp2
              go_roundw
              case rel => exact ⟨k + 1, k, by omega, by go_num, rfl, .inr ⟨by omega, by omega⟩, Lib.hid (by rw [HGS.out]; rfl), Ext.trans hbq ((Ext.refl _).drewN _)⟩
              case measure => simp [intOf]; omega
            · obtain ⟨t, rfl⟩ := Int.eq_ofNat_of_zero_le hb1
              have hdb : decide ((t : Int) < 0) = false := by rw [decide_eq_false_iff_not]; omega
              have HG2 := Lib.hid (show R = lowGo ps ns nodes (m + 1 - (k + 1)) (k + 1) (if levT ps k ≤ levT ps t then (k : Int) else t) by
                rw [HGS.out, hdb, show ((t : Int)).toNat = t by omega]
                by_cases hle : levT ps k ≤ levT ps t
                · rw [if_pos hle, decide_eq_true hle]; rfl
                · rw [if_neg hle, decide_eq_false hle]; rfl)
              have HV1 := Lib.hid (fun (u : World) (e : Ext wr u) => HLV.out k hlt u ((((Ext.refl w).alloc _).trans hbq).trans e))
              have HV2 := Lib.hid (fun (u : World) (e : Ext wr u) => HLV.out t (by omega) u ((((Ext.refl w).alloc _).trans hbq).trans e))
              generalize levT ps k = l1 at *
              generalize levT ps t = l2 at *
              have hcx := @Later.cell wr
              have HXW := Lib.hid (fun x : Later wr => x.ext)
              by_cases hle : l1 ≤ l2
              · rw [if_pos hle] at HG2
                go_wp2
                refine wp_region_ext (by kernel_rfl) (by kernel_rfl) ?_
                repeat (go_big_quiet_step (first | (go_at_call 56; with_reducible exact Calls.quiet_ext (HV1.out _ (HXW.out _))) | (go_at_call 56; with_reducible exact Calls.quiet_ext (HV2.out _ (HXW.out _)))))
                refine wpQuiet_nil ?_
                intro w7 hb7
                clear hcx z0 z1
                go_wp2
                go_roundw
                case rel => exact ⟨k + 1, k, by omega, by go_num, rfl, .inr ⟨by omega, by omega⟩, HG2, hbq.trans hb7⟩
                case measure => simp [intOf]; omega
              · rw [if_neg hle] at HG2
                go_wp2
                refine wp_region_ext (by kernel_rfl) (by kernel_rfl) ?_
                repeat (go_big_quiet_step (first | (go_at_call 56; with_reducible exact Calls.quiet_ext (HV1.out _ (HXW.out _))) | (go_at_call 56; with_reducible exact Calls.quiet_ext (HV2.out _ (HXW.out _)))))
                refine wpQuiet_nil ?_
                intro w7 hb7
                clear hcx z0 z1
                go_wp2
                go_roundw
                case rel => exact ⟨k + 1, t, by omega, by go_num, rfl, .inr ⟨by omega, by omega⟩, HG2, hbq.trans hb7⟩
                case measure => simp [intOf]; omega
    · have HE := Lib.hid (show R = bst by rw [HG.out, show m + 1 - k = 0 by omega]; rfl)
      go_wp2
      exact ret_int rfl rfl rfl (by rw [HE.out]) (((Ext.refl w).alloc _).trans hb)
end Go.Proofs.YtfcffcgdbmkfgaaGreat
/-! SQueue -/
namespace Go.Proofs.YtfcffcgdbmkfgaaGreat
open Go.RowKit
set_option linter.unusedVariables false
theorem any_drop {α : Type} {l : List α} {p : α → Bool} {k : Nat} {x : α} (hx : l[k]? = some x) : (l.drop k).any p = (p x || (l.drop (k + 1)).any p) := by rw [drop_cons hx, List.any_cons]
set_option maxHeartbeats 8000000 in
set_option maxRecDepth 8000 in
theorem sQueueOk_c (xs : List Job) (A : Option Addr) (n c : Nat) (w : World) (h : SlAt RJob 11 w A n xs) (hl : n ≤ maxLen) : Calls Tryz.prog 54 #[.slice A n c] w (Ret w (.bool (queueB xs))) := by
  unfold maxLen at hl
  have HN := Lib.hid h.len
  have HS := Lib.hid (fun (u : World) (e : Ext w u) => h.ext (Flat.mono _ _) e)
  have HQ := Lib.hid (show queueB xs = (queueGo [] xs && decide (n ≤ 60)) by unfold queueB; rw [h.len])
  clear h
  generalize queueB xs = R at *
  generalize hg0 : queueGo [] xs = q0 at *
  by_cases h60 : n ≤ 60
  rotate_left
  · have HF := Lib.hid (show R = false by rw [HQ.out, decide_eq_false h60]; simp)
    go_enter Tryz.func54, Tryz.ntmps54
    go_wp2
    exact ret_bool rfl rfl rfl (by rw [HF.out]) (Ext.refl _)
  have HR := Lib.hid (show R = q0 by rw [HQ.out, decide_eq_true h60]; simp)
  go_enter Tryz.func54, Tryz.ntmps54
  go_wp2
  go_loopw [11] (fun iv wr => ∃ k : Nat, k ≤ n ∧ iv = .int .i64 k ∧ Hid (q0 = queueGo (xs.take k) (xs.drop k)) ∧ Ext w wr) (fun iv _ => n - (intOf iv).toNat)
  case atStart => exact ⟨0, Nat.zero_le _, rfl, Lib.hid hg0.symm, Ext.refl _⟩
  case round =>
    clear hg0
    obtain ⟨k, hk, rfl, HE, hb⟩ := hrel
    by_cases hlt : k < n
    · obtain ⟨b, o, x, cs, rfl, hbw, hx, _, hc, rfl, _⟩ := (HS.out wr hb).at_ hlt
      have g0 := hc 0 _ rfl
      have g1 := hc 1 _ rfl
      have g2 := hc 2 _ rfl
      have g3 := hc 3 _ rfl
      have g4 := hc 4 _ rfl
      have g5 := hc 5 _ rfl
      have g6 := hc 6 _ rfl
      have g7 := hc 7 _ rfl
      have g8 := hc 8 _ rfl
      have g9 := hc 9 _ rfl
      have g10 := hc 10 _ rfl
      simp only [Nat.add_zero] at g0
      have HST := Lib.hid (queue_step hx)
      clear hc hx
      have HJ := Lib.hid (fun u : World => sJobOk_c x u)
      rcases (Bool.eq_false_or_eq_true (jobB x)).symm with h1 | h1
      all_goals rw [h1] at HJ HST
      · go_wp2_with fail
        refine (HJ.out _).mono ?_
        rintro e w1 ⟨rfl, hb1⟩
        go_wp2
        refine ret_bool rfl rfl rfl ?_ ((hb.alloc _).trans hb1)
        rw [HR.out, HE.out, HST.out]; rfl
      · go_wp2_with fail
        refine (HJ.out _).mono ?_
        rintro e w1 ⟨rfl, hb1⟩
        have HXW := Lib.hid (fun (u : World) (e : Ext (wr.alloc (.cells #[.int .i64 x.Id, .int .i64 x.Prio, .int .i64 x.Nodes, .int .i64 x.Need.A, .int .i64 x.Need.B, .int .i64 x.Need.C, .int .i64 x.Lic.A, .int .i64 x.Lic.B, .int .i64 x.Lic.C, .int .i64 x.Wall, .int .i64 x.Level] 62)) u) => (hb.alloc _).trans e)
        have HJ0 := Lib.hid (fun (u : World) (e : Ext (wr.alloc (.cells #[.int .i64 x.Id, .int .i64 x.Prio, .int .i64 x.Nodes, .int .i64 x.Need.A, .int .i64 x.Need.B, .int .i64 x.Need.C, .int .i64 x.Lic.A, .int .i64 x.Lic.B, .int .i64 x.Lic.C, .int .i64 x.Wall, .int .i64 x.Level] 62)) u) => e.cell (cell_box_at wr wr.heap.size rfl [.int .i64 x.Id, .int .i64 x.Prio, .int .i64 x.Nodes, .int .i64 x.Need.A, .int .i64 x.Need.B, .int .i64 x.Need.C, .int .i64 x.Lic.A, .int .i64 x.Lic.B, .int .i64 x.Lic.C, .int .i64 x.Wall, .int .i64 x.Level] 62 0 _ rfl))
        clear g0 g1 g2 g3 g4 g5 g6 g7 g8 g9 g10
        go_wp2
        go_loopw [5] (fun tv wq => ∃ t : Nat, t ≤ k ∧ tv = .int .i64 t ∧ Hid ((xs.take k).any (fun y => y.Id == x.Id) = ((xs.take k).drop t).any (fun y => y.Id == x.Id)) ∧ Ext (wr.alloc (.cells #[.int .i64 x.Id, .int .i64 x.Prio, .int .i64 x.Nodes, .int .i64 x.Need.A, .int .i64 x.Need.B, .int .i64 x.Need.C, .int .i64 x.Lic.A, .int .i64 x.Lic.B, .int .i64 x.Lic.C, .int .i64 x.Wall, .int .i64 x.Level] 62)) wq) (fun tv _ => k - (intOf tv).toNat)
        case atStart => exact ⟨0, Nat.zero_le _, rfl, Lib.hid rfl, hb1⟩
        case round =>
          obtain ⟨t, ht, rfl, HU, hbq⟩ := hrel
          have z0 := HJ0.out _ hbq
          have hz0 := lt_of_cell z0
          by_cases htk : t < k
          · obtain ⟨b2, o2, y, cs2, e2, hbw2, hy, _, hc2, rfl, _⟩ := (HS.out wr (HXW.out _ hbq)).at_ (show t < n by omega)
            injection e2 with e2
            injection e2 with e2 e3
            subst e2 e3
            have y0 := hc2 0 _ rfl
            have y1 := hc2 1 _ rfl
            have y2 := hc2 2 _ rfl
            have y3 := hc2 3 _ rfl
            have y4 := hc2 4 _ rfl
            have y5 := hc2 5 _ rfl
            have y6 := hc2 6 _ rfl
            have y7 := hc2 7 _ rfl
            have y8 := hc2 8 _ rfl
            have y9 := hc2 9 _ rfl
            have y10 := hc2 10 _ rfl
            simp only [Nat.add_zero] at y0
            have HSU := Lib.hid (any_drop (p := fun y : Job => y.Id == x.Id) (show (xs.take k)[t]? = some y by rw [List.getElem?_take, if_pos htk]; exact hy))
            clear hy hc2 y1 y2 y3 y4 y5 y6 y7 y8 y9 y10
            rcases (Bool.eq_false_or_eq_true (y.Id == x.Id)).symm with h2 | h2
            · have HS2 := Lib.hid h2
              go_wp2
              go_quiet (fail)
              go_wp2
              go_roundw
              case rel => exact ⟨t + 1, by omega, by go_num, Lib.hid (by rw [HU.out, HSU.out, HS2.out]; rfl), Ext.trans hbq ((Ext.refl _).drewN _)⟩
              case measure => simp [intOf]; omega
            · have HF := Lib.hid (show R = false by rw [HR.out, HE.out, HST.out, HU.out, HSU.out, h2]; rfl)
              go_wp2
              go_quiet (fail)
              go_wp2
              exact ret_bool rfl rfl rfl (by rw [HF.out]) (Ext.trans (HXW.out _ hbq) ((Ext.refl _).drewN _))
          · have HO := Lib.hid (show q0 = queueGo (xs.take (k + 1)) (xs.drop (k + 1)) by rw [HE.out, HST.out, HU.out, List.drop_eq_nil_of_le (by rw [List.length_take]; omega)]; rfl)
            go_wp2
            go_roundw
            case rel => exact ⟨k + 1, by omega, by go_num, HO, HXW.out _ hbq⟩
            case measure => simp [intOf]; omega
    · have HZ := Lib.hid (show q0 = true by rw [HE.out, List.drop_eq_nil_of_le (by have := HN.out; omega)]; rfl)
      go_wp2
      exact ret_bool rfl rfl rfl (by rw [HR.out, HZ.out]) hb
end Go.Proofs.YtfcffcgdbmkfgaaGreat
/-! StOk -/
namespace Go.Proofs.YtfcffcgdbmkfgaaGreat
open Go.RowKit
set_option linter.unusedVariables false
theorem all_drop {α : Type} {l : List α} {p : α → Bool} {k : Nat} {x : α} (hx : l[k]? = some x) : (l.drop k).all p = (p x && (l.drop (k + 1)).all p) := by rw [drop_cons hx, List.all_cons]
set_option maxHeartbeats 32000000 in
set_option maxRecDepth 10000 in
theorem StateOk_c (s : State) (v : Value) (w : World) (h : StateAt w s v) (hlen : stateLen s) : Calls Tryz.prog 32 #[v] w (Ret w (.bool (stateB s))) := by
  have HRF := Lib.hid (fun hh : (roomF s).isSome = true => roomF_some hh)
  have HRM := Lib.hid (fun (u : World) (e : Ext w u) => RoomOf_c s v u (h.ext e) hlen)
  have HAL := Lib.hid (fun (u : World) (e : Ext w u) => all_c s v u (h.ext e) hlen)
  have HQL := Lib.hid (show (s.Queue ++ s.Runs.map Run.Job).length ≤ 2097152 by obtain ⟨_, _, _, h6, h7, _⟩ := hlen; simp; omega)
  have HSB := Lib.hid (show stateB s = ((roomF s).isSome && withinB s.Depth 0 60 && queueB (s.Queue ++ s.Runs.map Run.Job) && decide (s.Ends.length ≤ 300) && s.Runs.all (runLevB s) && s.Ends.all (endB s.Now)) from rfl)
  have HLV := Lib.hid (fun x : Run => show runLevB s x = (x.Nodes.all (fun n => s.Up.getD n.toNat false) && ascGo x.Nodes && decide (levT s.Topo.Parents (lowestI s.Topo.Parents s.Topo.Nodes x.Nodes).toNat ≤ x.Job.Level)) from rfl)
  generalize (s.Queue ++ s.Runs.map Run.Job) = jobs at *
  generalize roomF s = rf at *
  generalize stateB s = R at *
  generalize hrl : runLevB s = rl at *
  clear hrl
  obtain ⟨⟨ps, ns⟩, up, lic, dep, now, qs, rs, es⟩ := s
  obtain ⟨A1, c1, A2, c2, A3, c3, A6, c6, A7, c7, A8, c8, rfl, h1, h2, h3, h6, h7, h8⟩ := h
  obtain ⟨hl1, hl2, hl3, hl6, hl7, hl8⟩ := hlen
  simp only [] at h1 h2 h3 h6 h7 h8 hl1 hl2 hl3 hl6 hl7 hl8 HRF HRM HAL HSB HLV ⊢
  have HSL := Lib.hid (show SlAt RInt 1 w A1 ps.length ps ∧ SlAt RNode 4 w A2 ns.length ns ∧ SlAt RB 1 w A3 up.length up ∧ SlAt RRun 13 w A7 rs.length rs ∧ SlAt REnd 3 w A8 es.length es from ⟨h1, h2, h3, h7, h8⟩)
  clear h1 h2 h3 h6 h7 h8
  generalize hok : rf.isSome = ok at *
  go_enter Tryz.func32, Tryz.ntmps32
  go_wp2_with fail
  refine (HRM.out _ ((Ext.refl w).alloc _)).mono ?_
  rintro e w1 ⟨B1, n1, d1, B2, n2, d2, B3, n3, d3, B4, n4, d4, B5, n5, d5, rfl, _, hb1⟩
  simp only [hok]
  have hx1 : Ext w w1 := ((Ext.refl w).alloc _).trans hb1
  have b0 := (hb1).cell (cell_box_at w (w.heap.size) (by simp) [.slice A1 ps.length c1, .slice A2 ns.length c2, .slice A3 up.length c3, .int .i64 lic.A, .int .i64 lic.B, .int .i64 lic.C, .int .i64 dep, .int .i64 now, .slice A6 qs.length c6, .slice A7 rs.length c7, .slice A8 es.length c8] 44 0 _ rfl)
  have b1 := (hb1).cell (cell_box_at w (w.heap.size) (by simp) [.slice A1 ps.length c1, .slice A2 ns.length c2, .slice A3 up.length c3, .int .i64 lic.A, .int .i64 lic.B, .int .i64 lic.C, .int .i64 dep, .int .i64 now, .slice A6 qs.length c6, .slice A7 rs.length c7, .slice A8 es.length c8] 44 1 _ rfl)
  have b2 := (hb1).cell (cell_box_at w (w.heap.size) (by simp) [.slice A1 ps.length c1, .slice A2 ns.length c2, .slice A3 up.length c3, .int .i64 lic.A, .int .i64 lic.B, .int .i64 lic.C, .int .i64 dep, .int .i64 now, .slice A6 qs.length c6, .slice A7 rs.length c7, .slice A8 es.length c8] 44 2 _ rfl)
  have b3 := (hb1).cell (cell_box_at w (w.heap.size) (by simp) [.slice A1 ps.length c1, .slice A2 ns.length c2, .slice A3 up.length c3, .int .i64 lic.A, .int .i64 lic.B, .int .i64 lic.C, .int .i64 dep, .int .i64 now, .slice A6 qs.length c6, .slice A7 rs.length c7, .slice A8 es.length c8] 44 3 _ rfl)
  have b4 := (hb1).cell (cell_box_at w (w.heap.size) (by simp) [.slice A1 ps.length c1, .slice A2 ns.length c2, .slice A3 up.length c3, .int .i64 lic.A, .int .i64 lic.B, .int .i64 lic.C, .int .i64 dep, .int .i64 now, .slice A6 qs.length c6, .slice A7 rs.length c7, .slice A8 es.length c8] 44 4 _ rfl)
  have b5 := (hb1).cell (cell_box_at w (w.heap.size) (by simp) [.slice A1 ps.length c1, .slice A2 ns.length c2, .slice A3 up.length c3, .int .i64 lic.A, .int .i64 lic.B, .int .i64 lic.C, .int .i64 dep, .int .i64 now, .slice A6 qs.length c6, .slice A7 rs.length c7, .slice A8 es.length c8] 44 5 _ rfl)
  have b6 := (hb1).cell (cell_box_at w (w.heap.size) (by simp) [.slice A1 ps.length c1, .slice A2 ns.length c2, .slice A3 up.length c3, .int .i64 lic.A, .int .i64 lic.B, .int .i64 lic.C, .int .i64 dep, .int .i64 now, .slice A6 qs.length c6, .slice A7 rs.length c7, .slice A8 es.length c8] 44 6 _ rfl)
  have b7 := (hb1).cell (cell_box_at w (w.heap.size) (by simp) [.slice A1 ps.length c1, .slice A2 ns.length c2, .slice A3 up.length c3, .int .i64 lic.A, .int .i64 lic.B, .int .i64 lic.C, .int .i64 dep, .int .i64 now, .slice A6 qs.length c6, .slice A7 rs.length c7, .slice A8 es.length c8] 44 7 _ rfl)
  have b8 := (hb1).cell (cell_box_at w (w.heap.size) (by simp) [.slice A1 ps.length c1, .slice A2 ns.length c2, .slice A3 up.length c3, .int .i64 lic.A, .int .i64 lic.B, .int .i64 lic.C, .int .i64 dep, .int .i64 now, .slice A6 qs.length c6, .slice A7 rs.length c7, .slice A8 es.length c8] 44 8 _ rfl)
  have b9 := (hb1).cell (cell_box_at w (w.heap.size) (by simp) [.slice A1 ps.length c1, .slice A2 ns.length c2, .slice A3 up.length c3, .int .i64 lic.A, .int .i64 lic.B, .int .i64 lic.C, .int .i64 dep, .int .i64 now, .slice A6 qs.length c6, .slice A7 rs.length c7, .slice A8 es.length c8] 44 9 _ rfl)
  have b10 := (hb1).cell (cell_box_at w (w.heap.size) (by simp) [.slice A1 ps.length c1, .slice A2 ns.length c2, .slice A3 up.length c3, .int .i64 lic.A, .int .i64 lic.B, .int .i64 lic.C, .int .i64 dep, .int .i64 now, .slice A6 qs.length c6, .slice A7 rs.length c7, .slice A8 es.length c8] 44 10 _ rfl)
  have bf0 := ((hb1).frozenEq (a := ⟨w.heap.size, 0, none⟩) (by simp)).trans (frozen_box_at w (w.heap.size) (by simp) #[.slice A1 ps.length c1, .slice A2 ns.length c2, .slice A3 up.length c3, .int .i64 lic.A, .int .i64 lic.B, .int .i64 lic.C, .int .i64 dep, .int .i64 now, .slice A6 qs.length c6, .slice A7 rs.length c7, .slice A8 es.length c8] 44 0)
  have bf1 := ((hb1).frozenEq (a := ⟨w.heap.size, 1, none⟩) (by simp)).trans (frozen_box_at w (w.heap.size) (by simp) #[.slice A1 ps.length c1, .slice A2 ns.length c2, .slice A3 up.length c3, .int .i64 lic.A, .int .i64 lic.B, .int .i64 lic.C, .int .i64 dep, .int .i64 now, .slice A6 qs.length c6, .slice A7 rs.length c7, .slice A8 es.length c8] 44 1)
  have bf2 := ((hb1).frozenEq (a := ⟨w.heap.size, 2, none⟩) (by simp)).trans (frozen_box_at w (w.heap.size) (by simp) #[.slice A1 ps.length c1, .slice A2 ns.length c2, .slice A3 up.length c3, .int .i64 lic.A, .int .i64 lic.B, .int .i64 lic.C, .int .i64 dep, .int .i64 now, .slice A6 qs.length c6, .slice A7 rs.length c7, .slice A8 es.length c8] 44 2)
  have bf3 := ((hb1).frozenEq (a := ⟨w.heap.size, 3, none⟩) (by simp)).trans (frozen_box_at w (w.heap.size) (by simp) #[.slice A1 ps.length c1, .slice A2 ns.length c2, .slice A3 up.length c3, .int .i64 lic.A, .int .i64 lic.B, .int .i64 lic.C, .int .i64 dep, .int .i64 now, .slice A6 qs.length c6, .slice A7 rs.length c7, .slice A8 es.length c8] 44 3)
  have bf4 := ((hb1).frozenEq (a := ⟨w.heap.size, 4, none⟩) (by simp)).trans (frozen_box_at w (w.heap.size) (by simp) #[.slice A1 ps.length c1, .slice A2 ns.length c2, .slice A3 up.length c3, .int .i64 lic.A, .int .i64 lic.B, .int .i64 lic.C, .int .i64 dep, .int .i64 now, .slice A6 qs.length c6, .slice A7 rs.length c7, .slice A8 es.length c8] 44 4)
  have bf5 := ((hb1).frozenEq (a := ⟨w.heap.size, 5, none⟩) (by simp)).trans (frozen_box_at w (w.heap.size) (by simp) #[.slice A1 ps.length c1, .slice A2 ns.length c2, .slice A3 up.length c3, .int .i64 lic.A, .int .i64 lic.B, .int .i64 lic.C, .int .i64 dep, .int .i64 now, .slice A6 qs.length c6, .slice A7 rs.length c7, .slice A8 es.length c8] 44 5)
  have bf6 := ((hb1).frozenEq (a := ⟨w.heap.size, 6, none⟩) (by simp)).trans (frozen_box_at w (w.heap.size) (by simp) #[.slice A1 ps.length c1, .slice A2 ns.length c2, .slice A3 up.length c3, .int .i64 lic.A, .int .i64 lic.B, .int .i64 lic.C, .int .i64 dep, .int .i64 now, .slice A6 qs.length c6, .slice A7 rs.length c7, .slice A8 es.length c8] 44 6)
  have bf7 := ((hb1).frozenEq (a := ⟨w.heap.size, 7, none⟩) (by simp)).trans (frozen_box_at w (w.heap.size) (by simp) #[.slice A1 ps.length c1, .slice A2 ns.length c2, .slice A3 up.length c3, .int .i64 lic.A, .int .i64 lic.B, .int .i64 lic.C, .int .i64 dep, .int .i64 now, .slice A6 qs.length c6, .slice A7 rs.length c7, .slice A8 es.length c8] 44 7)
  have bf8 := ((hb1).frozenEq (a := ⟨w.heap.size, 8, none⟩) (by simp)).trans (frozen_box_at w (w.heap.size) (by simp) #[.slice A1 ps.length c1, .slice A2 ns.length c2, .slice A3 up.length c3, .int .i64 lic.A, .int .i64 lic.B, .int .i64 lic.C, .int .i64 dep, .int .i64 now, .slice A6 qs.length c6, .slice A7 rs.length c7, .slice A8 es.length c8] 44 8)
  have bf9 := ((hb1).frozenEq (a := ⟨w.heap.size, 9, none⟩) (by simp)).trans (frozen_box_at w (w.heap.size) (by simp) #[.slice A1 ps.length c1, .slice A2 ns.length c2, .slice A3 up.length c3, .int .i64 lic.A, .int .i64 lic.B, .int .i64 lic.C, .int .i64 dep, .int .i64 now, .slice A6 qs.length c6, .slice A7 rs.length c7, .slice A8 es.length c8] 44 9)
  have bf10 := ((hb1).frozenEq (a := ⟨w.heap.size, 10, none⟩) (by simp)).trans (frozen_box_at w (w.heap.size) (by simp) #[.slice A1 ps.length c1, .slice A2 ns.length c2, .slice A3 up.length c3, .int .i64 lic.A, .int .i64 lic.B, .int .i64 lic.C, .int .i64 dep, .int .i64 now, .slice A6 qs.length c6, .slice A7 rs.length c7, .slice A8 es.length c8] 44 10)
  have hbl := lt_of_cell b0
  clear bf0 bf1 bf2 bf3 bf4 bf5 bf6 bf7 bf8 bf9 bf10
  rcases ok with _ | _
  · go_wp2
    exact ret_bool rfl rfl rfl (by rw [HSB.out]; rfl) (hx1.alloc _)
  go_wp2_with fail
  refine (within_c dep 0 60 _).mono ?_
  rintro e w2 ⟨rfl, rfl⟩
  rcases (Bool.eq_false_or_eq_true (withinB dep 0 60)).symm with q1 | q1
  all_goals rw [q1] at HSB ⊢
  · clear q1
    go_wp2
    exact ret_bool rfl rfl rfl (by rw [HSB.out]; rfl) (hx1.alloc _)
  clear q1
  go_wp2_with fail
  refine (HAL.out _ (hx1.alloc _)).mono ?_
  rintro e w3 ⟨B6, d6, rfl, ho3, hok3, hb3⟩
  have hx3 : Ext w w3 := (hx1.alloc _).trans hb3
  have HQK := Lib.hid (QueueOk_c jobs B6 jobs.length d6 w3 (owns_sl Job.size ho3 hok3) (by have := HQL.out; unfold maxLen; omega) (g_cap ho3))
  clear ho3 hok3
  go_wp2_with fail
  refine HQK.out.mono ?_
  rintro e w4 ⟨rfl, hb4⟩
  have hx4 : Ext w w4 := hx3.trans hb4
  have HX4 := Lib.hid (show Ext (w.alloc (.cells #[.slice A1 ps.length c1, .slice A2 ns.length c2, .slice A3 up.length c3, .int .i64 lic.A, .int .i64 lic.B, .int .i64 lic.C, .int .i64 dep, .int .i64 now, .slice A6 qs.length c6, .slice A7 rs.length c7, .slice A8 es.length c8] 44)) w4 from ((hb1.alloc _).trans hb3).trans hb4)
  have b9 := HX4.out.cell (cell_box_at w w.heap.size rfl [.slice A1 ps.length c1, .slice A2 ns.length c2, .slice A3 up.length c3, .int .i64 lic.A, .int .i64 lic.B, .int .i64 lic.C, .int .i64 dep, .int .i64 now, .slice A6 qs.length c6, .slice A7 rs.length c7, .slice A8 es.length c8] 44 9 _ rfl)
  have b10 := HX4.out.cell (cell_box_at w w.heap.size rfl [.slice A1 ps.length c1, .slice A2 ns.length c2, .slice A3 up.length c3, .int .i64 lic.A, .int .i64 lic.B, .int .i64 lic.C, .int .i64 dep, .int .i64 now, .slice A6 qs.length c6, .slice A7 rs.length c7, .slice A8 es.length c8] 44 10 _ rfl)
  have hbl4 := lt_of_cell b9
  clear b0 b1 b2 b3 b4 b5 b6 b7 b8 HQK HAL HRM hb1 hb3 hb4 hx1 hx3 hbl
  rcases (Bool.eq_false_or_eq_true (queueB jobs)).symm with q2 | q2
  all_goals rw [q2] at HSB ⊢
  · clear q2
    go_wp2
    exact ret_bool rfl rfl rfl (by rw [HSB.out]; rfl) hx4
  clear q2
  by_cases he : es.length ≤ 300
  rotate_left
  · have hd := decide_eq_false he
    go_wp2
    exact ret_bool rfl rfl rfl (by rw [HSB.out, hd]; rfl) hx4
  rw [decide_eq_true he] at HSB
  have HSC := Lib.hid (show R = (rs.all rl && es.all (endB now)) by rw [HSB.out]; simp)
  obtain ⟨hhd, hruns⟩ := HRF.out (by trivial)
  obtain ⟨ht, hup, hlc, htm⟩ := head_parts hhd
  simp only [] at ht hup hlc htm hruns
  have HT := Lib.hid ht
  have HUP := Lib.hid hup
  have HRU := Lib.hid hruns
  have hnow : 0 ≤ now ∧ now ≤ 1000000000 := by unfold timeB at htm; rw [decide_eq_true_iff] at htm; exact htm
  have HNOW := Lib.hid hnow
  have HTP := Lib.hid (topo_parts ht)
  clear hhd ht hup hlc htm hruns hnow HRF HSB
  go_wp2
  go_loopw [39] (fun iv wr => ∃ k : Nat, k ≤ rs.length ∧ iv = .int .i64 k ∧ Hid (rs.all rl = (rs.drop k).all rl) ∧ Ext (w.alloc (.cells #[.slice A1 ps.length c1, .slice A2 ns.length c2, .slice A3 up.length c3, .int .i64 lic.A, .int .i64 lic.B, .int .i64 lic.C, .int .i64 dep, .int .i64 now, .slice A6 qs.length c6, .slice A7 rs.length c7, .slice A8 es.length c8] 44)) wr) (fun iv _ => rs.length - (intOf iv).toNat)
  case atStart => exact ⟨0, Nat.zero_le _, rfl, Lib.hid rfl, HX4.out⟩
  case round =>
    clear b9 b10 hx4 HX4 hbl4
    obtain ⟨k, hk, rfl, HE, hb⟩ := hrel
    have hxw : Ext w wr := ((Ext.refl w).alloc _).trans hb
    by_cases hlt : k < rs.length
    · obtain ⟨bq, oq, x, cs, hA7, hbw, hx, _, hc, Ar, cr, rfl, hs, hcr, hnl, hat64, hjok⟩ := (HSL.out.2.2.2.1.ext RRun.mono hxw).at_ hlt
      subst hA7
      have g0 := hc 0 _ rfl
      have g1 := hc 1 _ rfl
      have g2 := hc 2 _ rfl
      have g3 := hc 3 _ rfl
      have g4 := hc 4 _ rfl
      have g5 := hc 5 _ rfl
      have g6 := hc 6 _ rfl
      have g7 := hc 7 _ rfl
      have g8 := hc 8 _ rfl
      have g9 := hc 9 _ rfl
      have g10 := hc 10 _ rfl
      have g11 := hc 11 _ rfl
      have g12 := hc 12 _ rfl
      simp only [Nat.add_zero] at g0
      have HST := Lib.hid (all_drop (p := rl) hx)
      have HRP := Lib.hid (runOk_parts (HRU.out x (List.mem_of_getElem? hx)))
      have HN3 := Lib.hid (fun (u : World) (e : Ext wr u) => hs.ext (Flat.mono encInt In64) e)
      have HX3 := Lib.hid (HLV.out x)
      have HLR := Lib.hid (lowest_range HT.out HRP.out.2.1 HRP.out.2.2)
      clear hx hc hs hcr hat64 hjok
      generalize hq : x.Nodes.length = nl at *
      have HNL := Lib.hid hq
      clear hq
      have HB0 := Lib.hid (fun (u : World) (e : Ext (wr.alloc (.cells #[.int .i64 x.Job.Id, .int .i64 x.Job.Prio, .int .i64 x.Job.Nodes, .int .i64 x.Job.Need.A, .int .i64 x.Job.Need.B, .int .i64 x.Job.Need.C, .int .i64 x.Job.Lic.A, .int .i64 x.Job.Lic.B, .int .i64 x.Job.Lic.C, .int .i64 x.Job.Wall, .int .i64 x.Job.Level, .int .i64 x.At, .slice Ar nl cr] 64)) u) => show (u.cell? ⟨w.heap.size, 0, none⟩ = some (.slice A1 ps.length c1) ∧ u.cell? ⟨w.heap.size, 1, none⟩ = some (.slice A2 ns.length c2) ∧ u.cell? ⟨w.heap.size, 2, none⟩ = some (.slice A3 up.length c3)) ∧ u.cell? ⟨wr.heap.size, 12, none⟩ = some (.slice Ar nl cr) ∧ u.cell? ⟨wr.heap.size, 10, none⟩ = some (.int .i64 x.Job.Level) from ⟨⟨((hb.alloc _).trans e).cell (cell_box_at w w.heap.size rfl [.slice A1 ps.length c1, .slice A2 ns.length c2, .slice A3 up.length c3, .int .i64 lic.A, .int .i64 lic.B, .int .i64 lic.C, .int .i64 dep, .int .i64 now, .slice A6 qs.length c6, .slice (some ⟨bq, oq, none⟩) rs.length c7, .slice A8 es.length c8] 44 0 _ rfl), ((hb.alloc _).trans e).cell (cell_box_at w w.heap.size rfl [.slice A1 ps.length c1, .slice A2 ns.length c2, .slice A3 up.length c3, .int .i64 lic.A, .int .i64 lic.B, .int .i64 lic.C, .int .i64 dep, .int .i64 now, .slice A6 qs.length c6, .slice (some ⟨bq, oq, none⟩) rs.length c7, .slice A8 es.length c8] 44 1 _ rfl), ((hb.alloc _).trans e).cell (cell_box_at w w.heap.size rfl [.slice A1 ps.length c1, .slice A2 ns.length c2, .slice A3 up.length c3, .int .i64 lic.A, .int .i64 lic.B, .int .i64 lic.C, .int .i64 dep, .int .i64 now, .slice A6 qs.length c6, .slice (some ⟨bq, oq, none⟩) rs.length c7, .slice A8 es.length c8] 44 2 _ rfl)⟩, e.cell (cell_box_at wr wr.heap.size rfl [.int .i64 x.Job.Id, .int .i64 x.Job.Prio, .int .i64 x.Job.Nodes, .int .i64 x.Job.Need.A, .int .i64 x.Job.Need.B, .int .i64 x.Job.Need.C, .int .i64 x.Job.Lic.A, .int .i64 x.Job.Lic.B, .int .i64 x.Job.Lic.C, .int .i64 x.Job.Wall, .int .i64 x.Job.Level, .int .i64 x.At, .slice Ar nl cr] 64 12 _ rfl), e.cell (cell_box_at wr wr.heap.size rfl [.int .i64 x.Job.Id, .int .i64 x.Job.Prio, .int .i64 x.Job.Nodes, .int .i64 x.Job.Need.A, .int .i64 x.Job.Need.B, .int .i64 x.Job.Need.C, .int .i64 x.Job.Lic.A, .int .i64 x.Job.Lic.B, .int .i64 x.Job.Lic.C, .int .i64 x.Job.Wall, .int .i64 x.Job.Level, .int .i64 x.At, .slice Ar nl cr] 64 10 _ rfl)⟩)
      have HEW := Lib.hid (fun (u : World) (e : Ext (wr.alloc (.cells #[.int .i64 x.Job.Id, .int .i64 x.Job.Prio, .int .i64 x.Job.Nodes, .int .i64 x.Job.Need.A, .int .i64 x.Job.Need.B, .int .i64 x.Job.Need.C, .int .i64 x.Job.Lic.A, .int .i64 x.Job.Lic.B, .int .i64 x.Job.Lic.C, .int .i64 x.Job.Wall, .int .i64 x.Job.Level, .int .i64 x.At, .slice Ar nl cr] 64)) u) => show Ext wr u from ((Ext.refl _).alloc _).trans e)
      have HXW := Lib.hid (fun (u : World) (e : Ext (wr.alloc (.cells #[.int .i64 x.Job.Id, .int .i64 x.Job.Prio, .int .i64 x.Job.Nodes, .int .i64 x.Job.Need.A, .int .i64 x.Job.Need.B, .int .i64 x.Job.Need.C, .int .i64 x.Job.Lic.A, .int .i64 x.Job.Lic.B, .int .i64 x.Job.Lic.C, .int .i64 x.Job.Wall, .int .i64 x.Job.Level, .int .i64 x.At, .slice Ar nl cr] 64)) u) => hxw.trans (HEW.out u e))
      obtain ⟨tl, htl⟩ : ∃ tl : Nat, lowestI ps ns x.Nodes = tl := ⟨(lowestI ps ns x.Nodes).toNat, by have := HLR.out; omega⟩
      have htl2 : tl < ps.length := by have := HLR.out; omega
      rw [htl] at HX3
      rw [show ((tl : Int)).toNat = tl by omega] at HX3
      have hn1 : 1 ≤ nl := HRP.out.2.2
      have HAS := Lib.hid (fun (u : World) (e : Ext (wr.alloc (.cells #[.int .i64 x.Job.Id, .int .i64 x.Job.Prio, .int .i64 x.Job.Nodes, .int .i64 x.Job.Need.A, .int .i64 x.Job.Need.B, .int .i64 x.Job.Need.C, .int .i64 x.Job.Lic.A, .int .i64 x.Job.Lic.B, .int .i64 x.Job.Lic.C, .int .i64 x.Job.Wall, .int .i64 x.Job.Level, .int .i64 x.At, .slice Ar nl cr] 64)) u) => areAscending_c x.Nodes Ar nl cr u (HN3.out u (HEW.out u e)) (by unfold maxLen; omega))
      have HLW := Lib.hid (fun (u : World) (e : Ext (wr.alloc (.cells #[.int .i64 x.Job.Id, .int .i64 x.Job.Prio, .int .i64 x.Job.Nodes, .int .i64 x.Job.Need.A, .int .i64 x.Job.Need.B, .int .i64 x.Job.Need.C, .int .i64 x.Job.Lic.A, .int .i64 x.Job.Lic.B, .int .i64 x.Job.Lic.C, .int .i64 x.Job.Wall, .int .i64 x.Job.Level, .int .i64 x.At, .slice Ar nl cr] 64)) u) => show Calls Tryz.prog 67 #[.agg #[.slice A1 ps.length c1, .slice A2 ns.length c2], .slice Ar nl cr] u (Ret u (.int .i64 tl)) from by
        obtain ⟨m, hm⟩ : ∃ m, ps.length = m + 1 := ⟨ps.length - 1, by have := HTP.out.1.1; omega⟩
        have h1 := HSL.out.1.ext (Flat.mono _ _) (HXW.out u e)
        rw [hm] at h1
        rw [← htl, hm]
        exact Lowest_c ps ns x.Nodes A1 m c1 A2 ns.length c2 Ar nl cr u h1 (HSL.out.2.1.ext (Flat.mono _ _) (HXW.out u e)) (HN3.out u (HEW.out u e)) (by omega) (by omega) HT.out HRP.out.2.1)
      have HLE := Lib.hid (fun (u : World) (e : Ext (wr.alloc (.cells #[.int .i64 x.Job.Id, .int .i64 x.Job.Prio, .int .i64 x.Job.Nodes, .int .i64 x.Job.Need.A, .int .i64 x.Job.Need.B, .int .i64 x.Job.Need.C, .int .i64 x.Job.Lic.A, .int .i64 x.Job.Lic.B, .int .i64 x.Job.Lic.C, .int .i64 x.Job.Wall, .int .i64 x.Job.Level, .int .i64 x.At, .slice Ar nl cr] 64)) u) => show Calls Tryz.prog 66 #[.agg #[.slice A1 ps.length c1, .slice A2 ns.length c2], .int .i64 tl] u (Ret u (.int .i64 (levT ps tl))) from by
        obtain ⟨m, hm⟩ : ∃ m, ps.length = m + 1 := ⟨ps.length - 1, by have := HTP.out.1.1; omega⟩
        have h1 := HSL.out.1.ext (Flat.mono _ _) (HXW.out u e)
        rw [hm] at h1
        rw [hm]
        exact level_c ps ns tl A1 m c1 A2 ns.length c2 u h1 (by have := HTP.out.1.2; omega) (by omega) HTP.out.2.2.1)
      go_wp2
      go_loopw [46] (fun jv wq => ∃ j : Nat, j ≤ nl ∧ jv = .int .i64 j ∧ Hid (x.Nodes.all (fun n => up.getD n.toNat false) = (x.Nodes.drop j).all (fun n => up.getD n.toNat false)) ∧ Ext (wr.alloc (.cells #[.int .i64 x.Job.Id, .int .i64 x.Job.Prio, .int .i64 x.Job.Nodes, .int .i64 x.Job.Need.A, .int .i64 x.Job.Need.B, .int .i64 x.Job.Need.C, .int .i64 x.Job.Lic.A, .int .i64 x.Job.Lic.B, .int .i64 x.Job.Lic.C, .int .i64 x.Job.Wall, .int .i64 x.Job.Level, .int .i64 x.At, .slice Ar nl cr] 64)) wq) (fun jv _ => nl - (intOf jv).toNat)
      case atStart => exact ⟨0, Nat.zero_le _, rfl, Lib.hid rfl, Ext.refl _⟩
      case round =>
        clear g0 g1 g2 g3 g4 g5 g6 g7 g8 g9 g10 g11 g12
        obtain ⟨j, hj, rfl, HU, hbq⟩ := hrel
        obtain ⟨⟨z0, z1, z2⟩, z12, z10⟩ := HB0.out _ hbq
        have hz0 := lt_of_cell z0
        have hz12 := lt_of_cell z12
        by_cases hlt2 : j < nl
        · obtain ⟨bo, oo, y, cs2, hD, hbw2, hy, _, hc2, rfl, _⟩ := (HN3.out _ (HEW.out _ hbq)).at_ hlt2
          have hc3 := hc2
          subst hD
          have y0 := hc2 0 _ rfl
          simp only [Nat.mul_one, Nat.add_zero] at y0
          have HSU := Lib.hid (all_drop (p := fun n : Int => up.getD n.toNat false) hy)
          obtain ⟨hya, hyb⟩ := nodesIn_at HRP.out.2.1 (List.mem_of_getElem? hy)
          obtain ⟨i, rfl⟩ := Int.eq_ofNat_of_zero_le hya
          have hiu : i < up.length := by have := HUP.out; omega
          obtain ⟨bu, ou, ub, cs3, hA3, hbw3, hub, _, hcu, rfl, _⟩ := (HSL.out.2.2.1.ext (Flat.mono encB (fun _ => True)) (HXW.out _ hbq)).at_ hiu
          subst hA3
          have p0 := hcu 0 _ rfl
          simp only [Nat.mul_one, Nat.add_zero] at p0
          have HOV := Lib.hid (show up.getD ((i : Int)).toNat false = ub by rw [show ((i : Int)).toNat = i by omega, List.getD_eq_getElem?_getD, hub]; rfl)
          clear hy hc2 hc3 hub hcu
          rcases ub with _ | _
          · have HN := Lib.hid (show R = false by rw [HSC.out, HE.out, HST.out, HX3.out, HU.out, HSU.out, HOV.out]; simp)
            go_wp2
            exact ret_bool rfl rfl rfl (by rw [HN.out]) (HXW.out _ hbq)
          · go_wp2
            go_roundw
            case rel => exact ⟨j + 1, by omega, by go_num, Lib.hid (by rw [HU.out, HSU.out, HOV.out]; rfl), hbq⟩
            case measure => simp [intOf]; omega
        · obtain rfl : j = nl := by omega
          have HUT := Lib.hid (show x.Nodes.all (fun n => up.getD n.toNat false) = true by rw [HU.out, List.drop_eq_nil_of_le (by have := HNL.out; omega)]; rfl)
          have HXL := Lib.hid (fun y : Later wr => hbq.trans y.ext)
          have hcx := @Later.cell wr
          have HAQ := Lib.hid (asc_eq x.Nodes)
          generalize ascB x.Nodes = ab at *
          generalize levT ps tl = lv at *
          rcases ab with _ | _
          · have HN := Lib.hid (show R = false by rw [HSC.out, HE.out, HST.out, HX3.out, ← HAQ.out]; simp)
            go_wp2
            refine wp_region_ext (by kernel_rfl) (by kernel_rfl) ?_
            repeat (go_big_quiet_step (first | (go_at_call 65; with_reducible exact Calls.quiet_ext (HAS.out _ (HXL.out _))) | (go_at_call 67; with_reducible exact Calls.quiet_ext (HLW.out _ (HXL.out _))) | (go_at_call 66; with_reducible exact Calls.quiet_ext (HLE.out _ (HXL.out _)))))
            refine wpQuiet_nil ?_
            intro w7 hb7
            clear hcx z0 z1 z2 z12 z10
            go_wp2
            exact ret_bool rfl rfl rfl (by rw [HN.out]) (HXW.out _ (hbq.trans hb7))
          · by_cases hle : lv ≤ x.Job.Level
            · have HO := Lib.hid (show rs.all rl = (rs.drop (k + 1)).all rl by rw [HE.out, HST.out, HX3.out, HUT.out, ← HAQ.out, decide_eq_true hle]; rfl)
              go_wp2
              refine wp_region_ext (by kernel_rfl) (by kernel_rfl) ?_
              repeat (go_big_quiet_step (first | (go_at_call 65; with_reducible exact Calls.quiet_ext (HAS.out _ (HXL.out _))) | (go_at_call 67; with_reducible exact Calls.quiet_ext (HLW.out _ (HXL.out _))) | (go_at_call 66; with_reducible exact Calls.quiet_ext (HLE.out _ (HXL.out _)))))
              refine wpQuiet_nil ?_
              intro w7 hb7
              clear hcx z0 z1 z2 z12 z10
              go_wp2
              go_roundw
              case rel => exact ⟨k + 1, by omega, by go_num, HO, (hb.alloc _).trans (hbq.trans hb7)⟩
              case measure => simp [intOf]; omega
            · have HN := Lib.hid (show R = false by rw [HSC.out, HE.out, HST.out, HX3.out, decide_eq_false hle]; simp)
              go_wp2
              refine wp_region_ext (by kernel_rfl) (by kernel_rfl) ?_
              repeat (go_big_quiet_step (first | (go_at_call 65; with_reducible exact Calls.quiet_ext (HAS.out _ (HXL.out _))) | (go_at_call 67; with_reducible exact Calls.quiet_ext (HLW.out _ (HXL.out _))) | (go_at_call 66; with_reducible exact Calls.quiet_ext (HLE.out _ (HXL.out _)))))
              refine wpQuiet_nil ?_
              intro w7 hb7
              clear hcx z0 z1 z2 z12 z10
              go_wp2
              exact ret_bool rfl rfl rfl (by rw [HN.out]) (HXW.out _ (hbq.trans hb7))
    · have HR := Lib.hid (show R = es.all (endB now) by rw [HSC.out, HE.out, List.drop_eq_nil_of_le (by omega)]; rfl)
      have b10 := hb.cell (cell_box_at w w.heap.size rfl [.slice A1 ps.length c1, .slice A2 ns.length c2, .slice A3 up.length c3, .int .i64 lic.A, .int .i64 lic.B, .int .i64 lic.C, .int .i64 dep, .int .i64 now, .slice A6 qs.length c6, .slice A7 rs.length c7, .slice A8 es.length c8] 44 10 _ rfl)
      have hbl := lt_of_cell b10
      go_wp2
      go_loopw [79] (fun iv wq => ∃ j : Nat, j ≤ es.length ∧ iv = .int .i64 j ∧ Hid (es.all (endB now) = (es.drop j).all (endB now)) ∧ Ext (w.alloc (.cells #[.slice A1 ps.length c1, .slice A2 ns.length c2, .slice A3 up.length c3, .int .i64 lic.A, .int .i64 lic.B, .int .i64 lic.C, .int .i64 dep, .int .i64 now, .slice A6 qs.length c6, .slice A7 rs.length c7, .slice A8 es.length c8] 44)) wq) (fun iv _ => es.length - (intOf iv).toNat)
      case atStart => exact ⟨0, Nat.zero_le _, rfl, Lib.hid rfl, hb⟩
      case round =>
        clear b10 hbl
        obtain ⟨j, hj, rfl, HU, hbq⟩ := hrel
        have hxq : Ext w wr := ((Ext.refl w).alloc _).trans hbq
        by_cases hlt2 : j < es.length
        · obtain ⟨bo, oo, y, cs2, hD, hbw2, hy, _, hc2, rfl, _⟩ := (HSL.out.2.2.2.2.ext (Flat.mono End.enc End.ok) hxq).at_ hlt2
          have b7 := hbq.cell (cell_box_at w w.heap.size rfl [.slice A1 ps.length c1, .slice A2 ns.length c2, .slice A3 up.length c3, .int .i64 lic.A, .int .i64 lic.B, .int .i64 lic.C, .int .i64 dep, .int .i64 now, .slice A6 qs.length c6, .slice A7 rs.length c7, .slice A8 es.length c8] 44 7 _ rfl)
          have hbl := lt_of_cell b7
          subst hD
          have y0 := hc2 0 _ rfl
          have y1 := hc2 1 _ rfl
          have y2 := hc2 2 _ rfl
          simp only [Nat.add_zero] at y0
          have HSU := Lib.hid (all_drop (p := endB now) hy)
          have HEB := Lib.hid (show endB now y = (withinB y.Id 1 999 && withinB y.At 0 now && withinB y.Why 1 4) from rfl)
          clear hy hc2
          go_wp2_with fail
          refine (within_c y.Id 1 999 _).mono ?_
          rintro e w2 ⟨rfl, rfl⟩
          rcases (Bool.eq_false_or_eq_true (withinB y.Id 1 999)).symm with q1 | q1
          all_goals rw [q1] at HEB ⊢
          · have HN := Lib.hid (show R = false by rw [HR.out, HU.out, HSU.out, HEB.out]; simp)
            clear q1
            go_wp2
            exact ret_bool rfl rfl rfl (by rw [HN.out]) (hxq.alloc _)
          clear q1
          go_wp2_with fail
          refine (within_c y.At 0 now _).mono ?_
          rintro e w2 ⟨rfl, rfl⟩
          rcases (Bool.eq_false_or_eq_true (withinB y.At 0 now)).symm with q1 | q1
          all_goals rw [q1] at HEB ⊢
          · have HN := Lib.hid (show R = false by rw [HR.out, HU.out, HSU.out, HEB.out]; simp)
            clear q1
            go_wp2
            exact ret_bool rfl rfl rfl (by rw [HN.out]) (hxq.alloc _)
          clear q1
          go_wp2_with fail
          refine (within_c y.Why 1 4 _).mono ?_
          rintro e w2 ⟨rfl, rfl⟩
          rcases (Bool.eq_false_or_eq_true (withinB y.Why 1 4)).symm with q1 | q1
          all_goals rw [q1] at HEB ⊢
          · have HN := Lib.hid (show R = false by rw [HR.out, HU.out, HSU.out, HEB.out]; simp)
            clear q1
            go_wp2
            exact ret_bool rfl rfl rfl (by rw [HN.out]) (hxq.alloc _)
          · clear q1
            go_wp2
            go_roundw
            case rel => exact ⟨j + 1, by omega, by go_num, Lib.hid (by rw [HU.out, HSU.out, HEB.out]; rfl), hbq.alloc _⟩
            case measure => simp [intOf]; omega
        · have HN := Lib.hid (show R = true by rw [HR.out, HU.out, List.drop_eq_nil_of_le (by omega)]; rfl)
          go_wp2
          exact ret_bool rfl rfl rfl (by rw [HN.out]) hxq
end Go.Proofs.YtfcffcgdbmkfgaaGreat
