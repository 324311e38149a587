/- Merged by mergelean.py: Queue, St. -/
import Derived.Test.YtfcffcgdbmkfgaaGreatJob
import Derived.Test.YtfcffcgdbmkfgaaGreatStateLaw
import Derived.Test.YtfcffcgdbmkfgaaGreatPRow
import Derived.Test.YtfcffcgdbmkfgaaGreatMMoved
/-! Queue -/
namespace Go.Proofs.YtfcffcgdbmkfgaaGreat
open Go.RowKit
set_option linter.unusedVariables false
def idxP {α : Type} (p : α → Bool) : List α → Nat → Int
  | [], _ => -1
  | a :: r, k => if p a = true then k else idxP p r (k + 1)
theorem idxP_ge {α : Type} (p : α → Bool) (l : List α) : ∀ k : Nat, (decide (0 ≤ idxP p l k)) = l.any p := by
  induction l with
  | nil => intro k; rfl
  | cons a r ih =>
    intro k
    rw [idxP]
    by_cases h : p a = true
    · rw [if_pos h, List.any_cons, h, Bool.true_or, decide_eq_true_iff]; omega
    · rw [if_neg h, ih, List.any_cons, Bool.eq_false_iff.2 h, Bool.false_or]
set_option maxHeartbeats 1000000 in
theorem IndexFuncJ_c (xs : List Job) (p : Job → Bool) (f : FuncId) (cap : Array Value) (A : Option Addr) (n c : Nat) (w : World) (h : SlAt RJob 11 w A n xs) (hl : n ≤ maxLen)
    (hr : ∀ (vs : Array Value) (u : World), Sem.run Tryz.prog (callFunc f vs) u = .ok (.enter f vs) u)
    (hf : ∀ (x : Job) (u : World), Ext w u → Calls Tryz.prog f (#[.agg #[.int .i64 x.Id, .int .i64 x.Prio, .int .i64 x.Nodes, .int .i64 x.Need.A, .int .i64 x.Need.B, .int .i64 x.Need.C, .int .i64 x.Lic.A, .int .i64 x.Lic.B, .int .i64 x.Lic.C, .int .i64 x.Wall, .int .i64 x.Level]] ++ cap) u (Ret u (.bool (p x)))) : Calls Tryz.prog 116 #[.slice A n c, .func (.func f) #[] cap] w (Ret w (.int .i64 (idxP p xs 0))) := by
  unfold maxLen at hl
  have HN := Lib.hid h.len
  have HF := Lib.hid hf
  clear hf
  go_enter Tryz.func116, Tryz.ntmps116
  go_wp2
  go_loopw [8] (fun i wr => ∃ k : Nat, k ≤ n ∧ i = .int .i64 k ∧ Ext w wr ∧ idxP p xs 0 = idxP p (xs.drop k) k) (fun i _ => n - (intOf i).toNat)
  case atStart => exact ⟨0, Nat.zero_le _, rfl, Ext.refl _, rfl⟩
  case round =>
    obtain ⟨k, hk, rfl, hb, hE⟩ := hrel
    have HE := Lib.hid hE; clear hE
    by_cases hlt : k < n
    · obtain ⟨b, o, x, cs, rfl, hbw, hx, _, hc, rfl, _⟩ := (h.ext (Flat.mono _ _) hb).at_ hlt
      have c0 := hc 0 _ rfl
      have c1 := hc 1 _ rfl
      have c2 := hc 2 _ rfl
      have c3 := hc 3 _ rfl
      have c4 := hc 4 _ rfl
      have c5 := hc 5 _ rfl
      have c6 := hc 6 _ rfl
      have c7 := hc 7 _ rfl
      have c8 := hc 8 _ rfl
      have c9 := hc 9 _ rfl
      have c10 := hc 10 _ rfl
      simp only [Nat.add_zero] at c0
      have HX := Lib.hid hx
      clear hc hx h
      rcases Bool.eq_false_or_eq_true (p x) with h1 | h1
      · have H1 := Lib.hid (show idxP p (x :: xs.drop (k + 1)) k = k by rw [idxP, if_pos h1])
        go_wp2_with fail
        refine (HF.out x _ hb).mono ?_
        rintro e w1 ⟨rfl, hb1⟩
        go_wp2
        exact ret_int rfl rfl rfl (by rw [HE.out, drop_cons HX.out, H1.out]) (hb.trans hb1)
      · have H1 := Lib.hid (show idxP p (x :: xs.drop (k + 1)) k = idxP p (xs.drop (k + 1)) (k + 1) by rw [idxP, if_neg (by rw [h1]; simp)])
        go_wp2_with fail
        refine (HF.out x _ hb).mono ?_
        rintro e w1 ⟨rfl, hb1⟩
        go_wp2
        go_roundw
        case rel => exact ⟨k + 1, by omega, by go_num, hb.trans hb1, by rw [HE.out, drop_cons HX.out, H1.out]⟩
        case measure => simp [intOf]; omega
    · go_wp2
      exact ret_int rfl rfl rfl (by rw [HE.out, List.drop_eq_nil_of_le (by have := HN.out; omega)]; rfl) hb
theorem ContainsFuncJ_c (xs : List Job) (p : Job → Bool) (f : FuncId) (cap : Array Value) (A : Option Addr) (n c : Nat) (w : World) (h : SlAt RJob 11 w A n xs) (hl : n ≤ maxLen)
    (hr : ∀ (vs : Array Value) (u : World), Sem.run Tryz.prog (callFunc f vs) u = .ok (.enter f vs) u)
    (hf : ∀ (x : Job) (u : World), Ext w u → Calls Tryz.prog f (#[.agg #[.int .i64 x.Id, .int .i64 x.Prio, .int .i64 x.Nodes, .int .i64 x.Need.A, .int .i64 x.Need.B, .int .i64 x.Need.C, .int .i64 x.Lic.A, .int .i64 x.Lic.B, .int .i64 x.Lic.C, .int .i64 x.Wall, .int .i64 x.Level]] ++ cap) u (Ret u (.bool (p x)))) : Calls Tryz.prog 90 #[.slice A n c, .func (.func f) #[] cap] w (Ret w (.bool (xs.any p))) := by
  have HN := Lib.hid (idxP_ge p xs 0)
  have HC := Lib.hid (IndexFuncJ_c xs p f cap A n c w h hl hr hf)
  clear hr hf
  rw [← HN.out]
  generalize idxP p xs 0 = ix at *
  go_enter Tryz.func90, Tryz.ntmps90
  go_wp2_with fail
  refine HC.out.mono ?_
  rintro e w1 ⟨rfl, hb1⟩
  go_wp2
  exact ret_bool rfl rfl rfl rfl hb1
theorem Queue1_run (vs : Array Value) (u : World) : Sem.run Tryz.prog (callFunc 91 vs) u = .ok (.enter 91 vs) u := by
  simp [go_sem]
theorem Queue1_c (x j : Job) (b : Nat) (w : World) (hb : b < w.heap.size) (h0 : w.cell? ⟨b, 0, none⟩ = some (.int .i64 j.Id)) : Calls Tryz.prog 91 #[.agg #[.int .i64 x.Id, .int .i64 x.Prio, .int .i64 x.Nodes, .int .i64 x.Need.A, .int .i64 x.Need.B, .int .i64 x.Need.C, .int .i64 x.Lic.A, .int .i64 x.Lic.B, .int .i64 x.Lic.C, .int .i64 x.Wall, .int .i64 x.Level], .pointer (some ⟨b, 0, none⟩)] w (Ret w (.bool (x.Id == j.Id))) := by
  go_enter Tryz.func91, Tryz.ntmps91
  go_wp2
  exact ret_bool rfl rfl rfl rfl (by repeat (first | exact Ext.refl _ | assumption | apply Ext.alloc | apply Ext.drewN | apply Ext.drew | (refine Ext.setCell ?_ (by first | (simp; done) | (simp; omega) | omega) _) | (refine Ext.trans ?_ (by assumption))))
theorem SlAt.cutq {α : Type} {R : Rel α} {sz n k : Nat} {w : World} {A : Option Addr} {xs : List α} (h : SlAt R sz w A n xs) (hk : k ≤ n) : SlAt R sz w A k (xs.take k) := by
  refine ⟨by rw [List.length_take, h.1]; omega, fun h0 => ?_⟩
  obtain ⟨b, o, e, hb, hc⟩ := h.2 (by omega)
  refine ⟨b, o, e, hb, fun j x hx => ?_⟩
  rw [List.getElem?_take] at hx
  split at hx
  · exact hc j x hx
  · cases hx
theorem queue_step {xs : List Job} {k : Nat} {x : Job} (hx : xs[k]? = some x) : queueGo (xs.take k) (xs.drop k) = (jobB x && !(xs.take k).any (fun y => y.Id == x.Id) && queueGo (xs.take (k + 1)) (xs.drop (k + 1))) := by
  rw [drop_cons hx, queueGo, take_succ hx]
set_option maxHeartbeats 8000000 in
set_option maxRecDepth 8000 in
theorem QueueOk_c (xs : List Job) (A : Option Addr) (n c : Nat) (w : World) (h : SlAt RJob 11 w A n xs) (hl : n ≤ maxLen) (hcap : n ≤ c) : Calls Tryz.prog 63 #[.slice A n c] w (Ret w (.bool (queueB xs))) := by
  have hl' := hl
  unfold maxLen at hl
  have HN := Lib.hid h.len
  have HS := Lib.hid (fun (u : World) (e : Ext w u) => h.ext (Flat.mono _ _) e)
  have HQ := Lib.hid (show queueB xs = (queueGo [] xs && decide (n ≤ 60)) by unfold queueB; rw [h.len])
  generalize queueB xs = R at *
  generalize hg0 : queueGo [] xs = q0 at *
  go_enter Tryz.func63, Tryz.ntmps63
  go_wp2
  go_loopw [7] (fun iv wr => ∃ k : Nat, k ≤ n ∧ iv = .int .i64 k ∧ Hid (q0 = queueGo (xs.take k) (xs.drop k)) ∧ Ext w wr) (fun iv _ => n - (intOf iv).toNat)
  case atStart => exact ⟨0, Nat.zero_le _, rfl, Lib.hid hg0.symm, Ext.refl _⟩
  case round =>
    clear hg0
    obtain ⟨k, hk, rfl, HE, hb⟩ := hrel
    by_cases hlt : k < n
    · obtain ⟨b, o, x, cs, rfl, hbw, hx, _, hc, rfl, _⟩ := (HS.out wr hb).at_ hlt
      have g0 := hc 0 _ rfl
      have g1 := hc 1 _ rfl
      have g2 := hc 2 _ rfl
      have g3 := hc 3 _ rfl
      have g4 := hc 4 _ rfl
      have g5 := hc 5 _ rfl
      have g6 := hc 6 _ rfl
      have g7 := hc 7 _ rfl
      have g8 := hc 8 _ rfl
      have g9 := hc 9 _ rfl
      have g10 := hc 10 _ rfl
      simp only [Nat.add_zero] at g0
      have HST := Lib.hid (queue_step hx)
      have HCU := Lib.hid (fun (u : World) (e : Ext wr u) => (HS.out u (hb.trans e)).cutq hk)
      have hkc : k ≤ c := by omega
      clear hc hx h
      rcases (Bool.eq_false_or_eq_true (jobB x)).symm with h1 | h1
      · have HJ := Lib.hid (fun u : World => JobOk_c x u)
        rw [h1] at HJ HST
        go_wp2_with fail
        refine (HJ.out _).mono ?_
        rintro e w1 ⟨rfl, hb1⟩
        go_wp2
        refine ret_bool rfl rfl rfl ?_ ((hb.alloc _).trans hb1)
        rw [HQ.out, HE.out, HST.out]; rfl
      · have HJ := Lib.hid (fun u : World => JobOk_c x u)
        rw [h1] at HJ HST
        go_wp2_with fail
        refine (HJ.out _).mono ?_
        rintro e w1 ⟨rfl, hb1⟩
        have hz1 := hb1.le
        have j0 := hb1.cell (cell_box_at wr wr.heap.size rfl [.int .i64 x.Id, .int .i64 x.Prio, .int .i64 x.Nodes, .int .i64 x.Need.A, .int .i64 x.Need.B, .int .i64 x.Need.C, .int .i64 x.Lic.A, .int .i64 x.Lic.B, .int .i64 x.Lic.C, .int .i64 x.Wall, .int .i64 x.Level] 62 0 _ rfl)
        have hj0 := lt_of_cell j0
        go_wp2_with fail
        refine (ContainsFuncJ_c (xs.take k) (fun y => y.Id == x.Id) 91 #[.pointer (some ⟨wr.heap.size, 0, none⟩)] (some ⟨b, o, none⟩) k c w1 (HCU.out _ (((Ext.refl _).alloc _).trans hb1)) (by unfold maxLen; omega) Queue1_run (fun y u hu => Queue1_c y x wr.heap.size u (Nat.lt_of_lt_of_le hj0 hu.le) (hu.cell j0))).mono ?_
        rintro e w2 ⟨rfl, hb2⟩
        generalize (xs.take k).any (fun y => y.Id == x.Id) = ct at *
        rcases ct with _ | _
        · go_wp2
          go_roundw
          case rel => exact ⟨k + 1, by omega, by go_num, Lib.hid (by rw [HE.out, HST.out]; rfl), ((hb.alloc _).trans hb1).trans hb2⟩
          case measure => simp [intOf]; omega
        · go_wp2
          refine ret_bool rfl rfl rfl ?_ (((hb.alloc _).trans hb1).trans hb2)
          rw [HQ.out, HE.out, HST.out]; rfl
    · have HZ := Lib.hid (show q0 = true by rw [HE.out, List.drop_eq_nil_of_le (by have := HN.out; omega)]; rfl)
      go_wp2
      refine ret_bool rfl rfl rfl ?_ hb
      rw [HQ.out, HZ.out, Bool.true_and, decide_eq_decide]; omega
end Go.Proofs.YtfcffcgdbmkfgaaGreat
/-! St -/
namespace Go.Proofs.YtfcffcgdbmkfgaaGreat
open Go.RowKit
set_option linter.unusedVariables false
/-- A run in a row of runs. -/
def RRun : Rel Run := fun w cs x => ∃ A c, cs = x.Job.enc ++ [.int .i64 x.At, .slice A x.Nodes.length c] ∧ SlAt RInt 1 w A x.Nodes.length x.Nodes ∧ x.Nodes.length ≤ c ∧ x.Nodes.length ≤ 1048576 ∧ In64 x.At ∧ x.Job.ok
theorem RRun.mono : RRun.Mono := fun w w' cs x hb ⟨A, c, e, h, r⟩ => ⟨A, c, e, h.ext (Flat.mono _ _) hb, r⟩
/-- A state's value and what it reads as. -/
def StateAt (w : World) (s : State) (v : Value) : Prop :=
  ∃ A1 c1 A2 c2 A3 c3 A6 c6 A7 c7 A8 c8, v = .agg #[.slice A1 s.Topo.Parents.length c1, .slice A2 s.Topo.Nodes.length c2, .slice A3 s.Up.length c3, .int .i64 s.Lic.A, .int .i64 s.Lic.B, .int .i64 s.Lic.C, .int .i64 s.Depth, .int .i64 s.Now, .slice A6 s.Queue.length c6, .slice A7 s.Runs.length c7, .slice A8 s.Ends.length c8] ∧ SlAt RInt 1 w A1 s.Topo.Parents.length s.Topo.Parents ∧ SlAt RNode 4 w A2 s.Topo.Nodes.length s.Topo.Nodes ∧ SlAt RB 1 w A3 s.Up.length s.Up ∧ SlAt RJob 11 w A6 s.Queue.length s.Queue ∧ SlAt RRun 13 w A7 s.Runs.length s.Runs ∧ SlAt REnd 3 w A8 s.Ends.length s.Ends
theorem StateAt.ext {w w' : World} {s : State} {v : Value} (h : StateAt w s v) (hb : Ext w w') : StateAt w' s v := by
  obtain ⟨A1, c1, A2, c2, A3, c3, A6, c6, A7, c7, A8, c8, e, h1, h2, h3, h6, h7, h8⟩ := h
  exact ⟨A1, c1, A2, c2, A3, c3, A6, c6, A7, c7, A8, c8, e, h1.ext (Flat.mono _ _) hb, h2.ext (Flat.mono _ _) hb, h3.ext (Flat.mono _ _) hb, h6.ext (Flat.mono _ _) hb, h7.ext RRun.mono hb, h8.ext (Flat.mono _ _) hb⟩
/-- All lengths of a state are small. -/
def stateLen (s : State) : Prop := s.Topo.Parents.length ≤ 1048576 ∧ s.Topo.Nodes.length ≤ 1048576 ∧ s.Up.length ≤ 1048576 ∧ s.Queue.length ≤ 1048576 ∧ s.Runs.length ≤ 1048576 ∧ s.Ends.length ≤ 1048576
theorem jobB_wall {j : Job} (h : jobB j = true) : 1 ≤ j.Wall ∧ j.Wall ≤ 1000000 := by
  unfold jobB at h
  simp at h
  omega
theorem room_step {m : Nat} {now : Int} {l : List Run} {k : Nat} {x : Run} {r : List (List Pt) × List Pt} (hx : l[k]? = some x) : roomGo m now (l.drop k) r = if runOkB m now x = true then (match moveM now (x.At + x.Job.Wall) x.Job x.Nodes r with
      | none => none
      | some r' => roomGo m now (l.drop (k + 1)) r')
    else none := by
  rw [drop_cons hx, roomGo]
  split
  · cases moveM now (x.At + x.Job.Wall) x.Job x.Nodes r <;> rfl
  · rfl
end Go.Proofs.YtfcffcgdbmkfgaaGreat
