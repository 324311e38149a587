/- Merged by mergelean.py: TopoL, StA, StB, StB2, StC. -/
import Derived.Test.YtfcffcgdbmkfgaaGreatNest
import Derived.Test.YtfcffcgdbmkfgaaGreatLaw
import Derived.Test.YtfcffcgdbmkfgaaGreatMSt
/-! TopoL -/
namespace Go.Proofs.YtfcffcgdbmkfgaaGreat
open Go.RowKit
set_option linter.unusedVariables false
def RetSzT (w : World) (x : Topo) (left : Int) : Ending → World → Prop := fun e w' => ∃ z : Int, e = .returned (.int .i64 z) ∧ (z < 0 ∨ (0 ≤ z ∧ z ≤ left ∧ x.Parents.length ≤ 1048576 ∧ x.Nodes.length ≤ 1048576)) ∧ Ext w w'
theorem szInts_c (A : Option Addr) (n c : Nat) (left : Int) (w : World) (hn : n ≤ maxLen) (hl : left ≤ 1048576) (hl0 : 0 ≤ left) : Calls Tryz.prog 50 #[.slice A n c, .int .i64 left] w (Ret w (.int .i64 (szM n left))) := by
  unfold maxLen at hn
  go_enter Tryz.func50, Tryz.ntmps50
  by_cases h : left - n < 0
  · go_wp2
    exact ret_int rfl rfl rfl (by unfold szM; split <;> omega) (Ext.refl _)
  · go_wp2
    exact ret_int rfl rfl rfl (by unfold szM; split <;> omega) (Ext.refl _)
set_option maxHeartbeats 2000000 in
theorem szTopo_c (x : Topo) (A : Option Addr) (c : Nat) (B : Option Addr) (d : Nat) (left : Int) (w : World) (h1 : x.Parents.length ≤ maxLen) (h2 : x.Nodes.length ≤ maxLen) (hl : left ≤ 1048576) (h0 : 0 ≤ left) : Calls Tryz.prog 20 #[.agg #[.slice A x.Parents.length c, .slice B x.Nodes.length d], .int .i64 left] w (RetSzT w x left) := by
  have H1 := Lib.hid (fun (u : World) => szInts_c A x.Parents.length c left u h1 hl h0)
  have H2 := Lib.hid (fun (l : Int) (u : World) (a : l ≤ 1048576) (b : 0 ≤ l) => szNodeS_c B x.Nodes.length d l u h2 a b)
  have HC := Lib.hid (szM_cases x.Parents.length left)
  have HC2 := Lib.hid (fun l : Int => szM_cases x.Nodes.length l)
  unfold RetSzT
  unfold maxLen at h1 h2
  generalize x.Parents.length = n at *
  generalize x.Nodes.length = m at *
  go_enter Tryz.func20, Tryz.ntmps20
  go_wp2_with fail
  refine (H1.out _).mono ?_
  rintro e w1 ⟨rfl, hb1⟩
  have q1 := hb1.cell (law_box w [.slice A n c, .slice B m d] 25 1 _ rfl)
  have hsz := lt_of_cell q1
  rcases HC.out with hz | ⟨hz, hle, he⟩
  · generalize szM n left = z at *
    go_wp2
    refine bodyPost_ret (v := .int .i64 (-1)) (by simp [results, Tryz.results20, go_sem]) rfl ⟨-1, rfl, .inl (by omega), ((Ext.refl w).alloc _).trans hb1⟩
  have hz0 : 0 ≤ szM n left := by omega
  have hz1 : szM n left ≤ left := by omega
  have HE := Lib.hid he
  clear he
  generalize szM n left = z at *
  go_wp2_with fail
  refine (H2.out z _ (by omega) (by omega)).mono ?_
  rintro e w2 ⟨rfl, hb2⟩
  rcases HC2.out z with hy | ⟨hy, hle2, he2⟩
  · generalize szM m z = y at *
    go_wp2
    refine bodyPost_ret (v := .int .i64 (-1)) (by simp [results, Tryz.results20, go_sem]) rfl ⟨-1, rfl, .inl (by omega), (((Ext.refl w).alloc _).trans hb1).trans hb2⟩
  have hy0 : 0 ≤ szM m z := by omega
  have hy1 : szM m z ≤ left := by omega
  clear he2
  generalize szM m z = y at *
  go_wp2
  refine bodyPost_ret (v := .int .i64 (y)) (by simp [results, Tryz.results20, go_sem]) rfl ⟨y, rfl, .inr ⟨hy0, hy1, by omega, by omega⟩, (((Ext.refl w).alloc _).trans hb1).trans hb2⟩
end Go.Proofs.YtfcffcgdbmkfgaaGreat
/-! StA -/
namespace Go.Proofs.YtfcffcgdbmkfgaaGreat
open Go.RowKit
set_option linter.unusedVariables false
def RRunA : Rel Run := fun w cs x => ∃ c0 c1 c2, cs = c0 ++ (c1 ++ c2) ∧ RJob w c0 x.Job ∧ RInt w c1 x.At ∧ (RSl RInt 1) w c2 x.Nodes
theorem RRunA.mono : RRunA.Mono := fun _ _ _ _ hb ⟨c0, c1, c2, e, h0, h1, h2⟩ => ⟨c0, c1, c2, e, (Flat.mono _ _) _ _ _ _ hb h0, (Flat.mono _ _) _ _ _ _ hb h1, (RSl.mono (Flat.mono _ _)) _ _ _ _ hb h2⟩
theorem runA_cells {w : World} {cs : List Value} {x : Run} (h : RRunA w cs x) : ∃ A c, cs = x.Job.enc ++ [.int .i64 x.At, .slice A x.Nodes.length c] ∧ SlAt RInt 1 w A x.Nodes.length x.Nodes ∧ x.Nodes.length ≤ maxLen ∧ In64 x.At ∧ x.Job.ok := by
  obtain ⟨c0, c1, c2, e, ⟨e0, h0⟩, ⟨e1, h1⟩, A, n, c, e2, h2, hl⟩ := h
  obtain rfl := h2.len
  subst e0 e1 e2
  exact ⟨A, c, e, h2, hl, h1, h0⟩
def RStateA : Rel State := fun w cs x => ∃ c0 c1 c2 c3 c4 c5 c6 c7, cs = c0 ++ (c1 ++ (c2 ++ (c3 ++ (c4 ++ (c5 ++ (c6 ++ c7)))))) ∧ RTopo w c0 x.Topo ∧ (RSl RBool 1) w c1 x.Up ∧ RVec w c2 x.Lic ∧ RInt w c3 x.Depth ∧ RInt w c4 x.Now ∧ (RSl RJob 11) w c5 x.Queue ∧ (RSl RRunA 13) w c6 x.Runs ∧ (RSl REnd 3) w c7 x.Ends
theorem SlAt.imp {α : Type} {R R' : Rel α} {sz : Nat} {w : World} {A : Option Addr} {n : Nat} {xs : List α} (h : SlAt R sz w A n xs) (hi : ∀ cs x, R w cs x → R' w cs x) : SlAt R' sz w A n xs := by
  refine ⟨h.1, fun h0 => ?_⟩
  obtain ⟨b, o, e, hb, hc⟩ := h.2 h0
  refine ⟨b, o, e, hb, fun k x hx => ?_⟩
  obtain ⟨cs, h1, h2, h3⟩ := hc k x hx
  exact ⟨cs, h1, h2, hi _ _ h3⟩
/-- An argument's state: its slices. -/
def StArg (w : World) (x : State) (A1 : Option Addr) (A2 : Option Addr) (A3 : Option Addr) (A6 : Option Addr) (A7 : Option Addr) (A8 : Option Addr) : Prop :=
  SlAt RInt 1 w A1 x.Topo.Parents.length x.Topo.Parents ∧ SlAt RNode 4 w A2 x.Topo.Nodes.length x.Topo.Nodes ∧ SlAt RB 1 w A3 x.Up.length x.Up ∧ SlAt RJob 11 w A6 x.Queue.length x.Queue ∧ SlAt RRunA 13 w A7 x.Runs.length x.Runs ∧ SlAt REnd 3 w A8 x.Ends.length x.Ends
theorem StArg.ext {w w' : World} {x : State} {A1 A2 A3 A6 A7 A8 : Option Addr} (h : StArg w x A1 A2 A3 A6 A7 A8) (hb : Ext w w') : StArg w' x A1 A2 A3 A6 A7 A8 :=
  ⟨h.1.ext (Flat.mono _ _) hb, h.2.1.ext (Flat.mono _ _) hb, h.2.2.1.ext (Flat.mono _ _) hb, h.2.2.2.1.ext (Flat.mono _ _) hb, h.2.2.2.2.1.ext RRunA.mono hb, h.2.2.2.2.2.ext (Flat.mono _ _) hb⟩
theorem RStateA.open {w : World} {cs : Array Value} {x : State} (h : RStateA w cs.toList x) : ∃ A1 c1 A2 c2 A3 c3 A6 c6 A7 c7 A8 c8, cs = #[.slice A1 x.Topo.Parents.length c1, .slice A2 x.Topo.Nodes.length c2, .slice A3 x.Up.length c3, .int .i64 x.Lic.A, .int .i64 x.Lic.B, .int .i64 x.Lic.C, .int .i64 x.Depth, .int .i64 x.Now, .slice A6 x.Queue.length c6, .slice A7 x.Runs.length c7, .slice A8 x.Ends.length c8] ∧ StArg w x A1 A2 A3 A6 A7 A8 ∧ (x.Topo.Parents.length ≤ maxLen ∧ x.Topo.Nodes.length ≤ maxLen ∧ x.Up.length ≤ maxLen ∧ x.Queue.length ≤ maxLen ∧ x.Runs.length ≤ maxLen ∧ x.Ends.length ≤ maxLen) ∧ x.Lic.ok ∧ In64 x.Depth ∧ In64 x.Now := by
  obtain ⟨c0, c1, c2, c3, c4, c5, c6, c7, e, ht, ⟨A3, n3, d3, e1, h3, l3⟩, ⟨e2, hv⟩, ⟨e3, hd⟩, ⟨e4, hn⟩, ⟨A6, n6, d6, e5, h6, l6⟩, ⟨A7, n7, d7, e6, h7, l7⟩, ⟨A8, n8, d8, e7, h8, l8⟩⟩ := h
  obtain ⟨p0, p1, e0, ⟨A1, n1, d1, q1, h1, l1⟩, ⟨A2, n2, d2, q2, h2, l2⟩⟩ := ht
  obtain rfl := h1.len
  obtain rfl := h2.len
  obtain rfl := h3.len
  obtain rfl := h6.len
  obtain rfl := h7.len
  obtain rfl := h8.len
  subst q1 q2
  subst e0 e1 e2 e3 e4 e5 e6 e7
  refine ⟨A1, d1, A2, d2, A3, d3, A6, d6, A7, d7, A8, d8, ?_, ⟨h1, h2, h3.imp (fun cs b hb => ⟨hb, trivial⟩), h6, h7, h8⟩, ⟨l1, l2, l3, l6, l7, l8⟩, hv, hd, hn⟩
  cases cs; simp only [] at e; subst e; rfl
theorem szBoolS_c (A : Option Addr) (n c : Nat) (left : Int) (w : World) (hn : n ≤ maxLen) (hl : left ≤ 1048576) (hl0 : 0 ≤ left) : Calls Tryz.prog 21 #[.slice A n c, .int .i64 left] w (Ret w (.int .i64 (szM n left))) := by
  unfold maxLen at hn
  go_enter Tryz.func21, Tryz.ntmps21
  by_cases h : left - n < 0
  · go_wp2
    exact ret_int rfl rfl rfl (by unfold szM; split <;> omega) (Ext.refl _)
  · go_wp2
    exact ret_int rfl rfl rfl (by unfold szM; split <;> omega) (Ext.refl _)
theorem szRun_c (x : Run) (A : Option Addr) (c : Nat) (left : Int) (w : World) (hl : x.Nodes.length ≤ maxLen) (h1 : left ≤ 1048576) (h0 : 0 ≤ left) : Calls Tryz.prog 52 #[.agg #[.int .i64 x.Job.Id, .int .i64 x.Job.Prio, .int .i64 x.Job.Nodes, .int .i64 x.Job.Need.A, .int .i64 x.Job.Need.B, .int .i64 x.Job.Need.C, .int .i64 x.Job.Lic.A, .int .i64 x.Job.Lic.B, .int .i64 x.Job.Lic.C, .int .i64 x.Job.Wall, .int .i64 x.Job.Level, .int .i64 x.At, .slice A x.Nodes.length c], .int .i64 left] w (Ret w (.int .i64 (szM x.Nodes.length left))) := by
  have hc := Lib.hid (fun u : World => szInts_c A x.Nodes.length c left u hl h1 h0)
  have hs := Lib.hid (show szM x.Nodes.length left < 0 → szM x.Nodes.length left = -1 by unfold szM; split <;> omega)
  generalize szM x.Nodes.length left = z at *
  go_enter Tryz.func52, Tryz.ntmps52
  by_cases hz : z < 0
  · have HZ := Lib.hid (hs.out hz)
    go_wp2_with fail
    refine (hc.out _).mono ?_
    rintro e w1 ⟨rfl, hb1⟩
    go_wp2
    rw [HZ.out]
    exact ret_is (by simp [results, Tryz.results52, go_sem]) rfl (by repeat (first | exact Ext.refl _ | assumption | apply Ext.alloc | apply Ext.drewN | apply Ext.drew | (refine Ext.setCell ?_ (by first | (simp; done) | (simp; omega) | omega) _) | (refine Ext.trans ?_ (by assumption))))
  · go_wp2_with fail
    refine (hc.out _).mono ?_
    rintro e w1 ⟨rfl, hb1⟩
    go_wp2
    exact ret_int rfl rfl rfl rfl (by repeat (first | exact Ext.refl _ | assumption | apply Ext.alloc | apply Ext.drewN | apply Ext.drew | (refine Ext.setCell ?_ (by first | (simp; done) | (simp; omega) | omega) _) | (refine Ext.trans ?_ (by assumption))))
/-- What is left of a budget, or less than nothing. -/
def RetSzR (w : World) (xs : List Run) (left : Int) : Ending → World → Prop := fun e w' => ∃ z : Int, e = .returned (.int .i64 z) ∧ (z < 0 ∨ (0 ≤ z ∧ z ≤ left ∧ (xs.length : Int) ≤ left ∧ ∀ x ∈ xs, (x.Nodes.length : Int) ≤ left)) ∧ Ext w w'
set_option maxHeartbeats 2000000 in
set_option maxRecDepth 4000 in
theorem szRunS_c (xs : List Run) (A : Option Addr) (n c : Nat) (left : Int) (w : World) (h : SlAt RRunA 13 w A n xs) (hn : n ≤ maxLen) (hl : left ≤ 1048576) (hl0 : 0 ≤ left) : Calls Tryz.prog 23 #[.slice A n c, .int .i64 left] w (RetSzR w xs left) := by
  unfold maxLen at hn
  have HN := Lib.hid h.len
  by_cases hs : left - n < 0
  · go_enter Tryz.func23, Tryz.ntmps23
    go_wp2
    exact bodyPost_ret (results_tmp rfl _ _ _) rfl ⟨-1, rfl, .inl (by omega), Ext.refl _⟩
  go_enter Tryz.func23, Tryz.ntmps23
  go_wp2
  go_loopw [1, 5] (fun z i wr => ∃ (k : Nat) (q : Int), k ≤ n ∧ i = .int .i64 k ∧ z = .int .i64 q ∧ 0 ≤ q ∧ q ≤ left ∧ Hid (∀ j x, j < k → xs[j]? = some x → (x.Nodes.length : Int) ≤ left) ∧ Ext w wr) (fun _ i _ => n - (intOf i).toNat)
  case atStart => exact ⟨0, left - n, Nat.zero_le _, rfl, by go_num, by omega, by omega, Lib.hid (fun j x hj => by omega), Ext.refl _⟩
  case round =>
    obtain ⟨k, q, hk, rfl, rfl, q0, q1, HF, hb⟩ := hrel
    by_cases hlt : k < n
    · obtain ⟨b, o, x, cs, rfl, hbw, hx, _, hc, hr⟩ := (h.ext RRunA.mono hb).at_ hlt
      obtain ⟨A1, c1, rfl, hsl, hml, hf, hj⟩ := runA_cells hr
      have g0 := hc 0 _ rfl
      have g1 := hc 1 _ rfl
      have g2 := hc 2 _ rfl
      have g3 := hc 3 _ rfl
      have g4 := hc 4 _ rfl
      have g5 := hc 5 _ rfl
      have g6 := hc 6 _ rfl
      have g7 := hc 7 _ rfl
      have g8 := hc 8 _ rfl
      have g9 := hc 9 _ rfl
      have g10 := hc 10 _ rfl
      have g11 := hc 11 _ rfl
      have g12 := hc 12 _ rfl
      simp only [Nat.add_zero] at g0
      have HX := Lib.hid hx
      have HS := Lib.hid (fun u : World => szRun_c x A1 c1 q u hml (by omega) q0)
      rcases (show szM x.Nodes.length q < 0 ∨ (¬ szM x.Nodes.length q < 0 ∧ szM x.Nodes.length q ≤ q ∧ (x.Nodes.length : Int) ≤ q) from by
        rcases szM_cases x.Nodes.length q with hz | ⟨hz, hle, hl2⟩
        · exact .inl hz
        · exact .inr ⟨hz, by omega, hle⟩) with hz | ⟨hz, hle, hl2⟩
      all_goals
        generalize szM x.Nodes.length q = z at *
        clear hc hr hsl hml hf hj hx h
        go_wp2_with fail
        refine (HS.out _).mono ?_
        rintro e w1 ⟨rfl, hb1⟩
        clear g0 g1 g2 g3 g4 g5 g6 g7 g8 g9 g10 g11 g12
        go_wp2
      · exact bodyPost_ret (results_tmp rfl _ _ _) rfl ⟨-1, rfl, .inl (by omega), hb.trans hb1⟩
      · go_roundw
        case rel => exact ⟨k + 1, z, by omega, by go_num, rfl, by omega, by omega, Lib.hid (fun j y hj hy => by
          rcases Nat.lt_or_ge j k with hjk | hjk
          · exact HF.out j y hjk hy
          · obtain rfl : j = k := by omega
            rw [HX.out] at hy; injection hy with hy; subst hy; omega), hb.trans hb1⟩
        case measure => simp [intOf]; omega
    · have HFF := Lib.hid (show ∀ x ∈ xs, (x.Nodes.length : Int) ≤ left from fun x hx => by
        obtain ⟨j, hj⟩ := List.mem_iff_getElem?.1 hx
        exact HF.out j x (by have := (List.getElem?_eq_some_iff.1 hj).1; have := HN.out; omega) hj)
      go_wp2
      exact bodyPost_ret (results_tmp rfl _ _ _) rfl ⟨q, rfl, .inr ⟨q0, q1, by have := HN.out; omega, HFF.out⟩, hb⟩
/-- What a state's count says. -/
def stSmall (x : State) : Prop := stateLen x ∧ ∀ r ∈ x.Runs, r.Nodes.length ≤ 1048576
def RetSzS (w : World) (x : State) : Ending → World → Prop := fun e w' => ∃ z : Int, e = .returned (.int .i64 z) ∧ (z < 0 ∨ (0 ≤ z ∧ stSmall x)) ∧ Ext w w'
set_option maxHeartbeats 8000000 in
set_option maxRecDepth 8000 in
theorem szState_c (x : State) (A1 : Option Addr) (c1 : Nat) (A2 : Option Addr) (c2 : Nat) (A3 : Option Addr) (c3 : Nat) (A6 : Option Addr) (c6 : Nat) (A7 : Option Addr) (c7 : Nat) (A8 : Option Addr) (c8 : Nat) (w : World) (h : StArg w x A1 A2 A3 A6 A7 A8) (hl : x.Topo.Parents.length ≤ maxLen ∧ x.Topo.Nodes.length ≤ maxLen ∧ x.Up.length ≤ maxLen ∧ x.Queue.length ≤ maxLen ∧ x.Runs.length ≤ maxLen ∧ x.Ends.length ≤ maxLen) : Calls Tryz.prog 6 #[.agg #[.slice A1 x.Topo.Parents.length c1, .slice A2 x.Topo.Nodes.length c2, .slice A3 x.Up.length c3, .int .i64 x.Lic.A, .int .i64 x.Lic.B, .int .i64 x.Lic.C, .int .i64 x.Depth, .int .i64 x.Now, .slice A6 x.Queue.length c6, .slice A7 x.Runs.length c7, .slice A8 x.Ends.length c8], .int .i64 1048576] w (RetSzS w x) := by
  obtain ⟨h1, h2, h3, h6, h7, h8⟩ := h
  obtain ⟨l1, l2, l3, l6, l7, l8⟩ := hl
  have HT := Lib.hid (fun (u : World) => szTopo_c x.Topo A1 c1 A2 c2 1048576 u l1 l2 (by omega) (by omega))
  have HU := Lib.hid (fun (l : Int) (u : World) (a : l ≤ 1048576) (b : 0 ≤ l) => szBoolS_c A3 x.Up.length c3 l u l3 a b)
  have HQ := Lib.hid (fun (l : Int) (u : World) (a : l ≤ 1048576) (b : 0 ≤ l) => szJobS_c A6 x.Queue.length c6 l u l6 a b)
  have HR := Lib.hid (fun (l : Int) (u : World) (e : Ext w u) (a : l ≤ 1048576) (b : 0 ≤ l) => szRunS_c x.Runs A7 x.Runs.length c7 l u (h7.ext RRunA.mono e) l7 a b)
  have HE := Lib.hid (fun (l : Int) (u : World) (a : l ≤ 1048576) (b : 0 ≤ l) => szEndS_c A8 x.Ends.length c8 l u l8 a b)
  have HC := Lib.hid (fun (n : Nat) (l : Int) => szM_cases n l)
  have HB := Lib.hid (fun (j : Nat) (u : Value) (q : World) (e : Ext (w.alloc (.cells #[.slice A1 x.Topo.Parents.length c1, .slice A2 x.Topo.Nodes.length c2, .slice A3 x.Up.length c3, .int .i64 x.Lic.A, .int .i64 x.Lic.B, .int .i64 x.Lic.C, .int .i64 x.Depth, .int .i64 x.Now, .slice A6 x.Queue.length c6, .slice A7 x.Runs.length c7, .slice A8 x.Ends.length c8] 33)) q) (hu : [Value.slice A1 x.Topo.Parents.length c1, .slice A2 x.Topo.Nodes.length c2, .slice A3 x.Up.length c3, .int .i64 x.Lic.A, .int .i64 x.Lic.B, .int .i64 x.Lic.C, .int .i64 x.Depth, .int .i64 x.Now, .slice A6 x.Queue.length c6, .slice A7 x.Runs.length c7, .slice A8 x.Ends.length c8][j]? = some u) => e.cell (law_box w _ 33 j u hu))
  have HSM := Lib.hid (fun (a : x.Topo.Parents.length ≤ 1048576) (b : x.Topo.Nodes.length ≤ 1048576) (c : x.Up.length ≤ 1048576) (d : x.Queue.length ≤ 1048576) (e : x.Runs.length ≤ 1048576) (f : x.Ends.length ≤ 1048576) (g : ∀ r ∈ x.Runs, r.Nodes.length ≤ 1048576) => show stSmall x from ⟨⟨a, b, c, d, e, f⟩, g⟩)
  clear h1 h2 h3 h6 h7 h8 l1 l2 l3 l6 l7 l8
  go_enter Tryz.func6, Tryz.ntmps6
  go_wp2_with fail
  refine (HT.out _).mono ?_
  rintro e w1 ⟨z, rfl, hz, hb1⟩
  have hx1 : Ext w w1 := ((Ext.refl w).alloc _).trans hb1
  have q2 := HB.out 2 _ _ hb1 rfl
  have hsz := lt_of_cell q2
  rcases hz with hz | ⟨hz0, hz1, hl1, hl2⟩
  · go_wp2
    exact bodyPost_ret (v := .int .i64 (-1)) (by simp [results, Tryz.results6, go_sem]) rfl ⟨-1, rfl, .inl (by omega), hx1⟩
  go_wp2_with fail
  refine (HU.out z _ (by omega) (by omega)).mono ?_
  rintro e w2 ⟨rfl, hb2⟩
  have hx2 : Ext w w2 := hx1.trans hb2
  have q8 := HB.out 8 _ _ (hb1.trans hb2) rfl
  have hsz := lt_of_cell q8
  clear q2
  rcases HC.out x.Up.length z with hz | ⟨hz, hl3, he⟩
  · generalize szM x.Up.length z = y at *
    go_wp2
    exact bodyPost_ret (v := .int .i64 (-1)) (by simp [results, Tryz.results6, go_sem]) rfl ⟨-1, rfl, .inl (by omega), hx2⟩
  have hy0 : 0 ≤ szM x.Up.length z := by omega
  have hy1 : szM x.Up.length z ≤ 1048576 := by omega
  clear he
  generalize szM x.Up.length z = y at *
  go_wp2_with fail
  refine (HQ.out y _ hy1 hy0).mono ?_
  rintro e w3 ⟨rfl, hb3⟩
  have hx3 : Ext w w3 := hx2.trans hb3
  have q9 := HB.out 9 _ _ ((hb1.trans hb2).trans hb3) rfl
  have hsz := lt_of_cell q9
  clear q8
  rcases HC.out x.Queue.length y with hz | ⟨hz, hl6, he⟩
  · generalize szM x.Queue.length y = t at *
    go_wp2
    exact bodyPost_ret (v := .int .i64 (-1)) (by simp [results, Tryz.results6, go_sem]) rfl ⟨-1, rfl, .inl (by omega), hx3⟩
  have ht0 : 0 ≤ szM x.Queue.length y := by omega
  have ht1 : szM x.Queue.length y ≤ 1048576 := by omega
  clear he
  generalize szM x.Queue.length y = t at *
  go_wp2_with fail
  refine (HR.out t _ (by repeat (first | exact Ext.refl _ | assumption | apply Ext.alloc | apply Ext.drewN | apply Ext.drew | (refine Ext.setCell ?_ (by first | (simp; done) | (simp; omega) | omega) _) | (refine Ext.trans ?_ (by assumption)))) ht1 ht0).mono ?_
  rintro e w4 ⟨s, rfl, hs, hb4⟩
  have hx4 : Ext w w4 := hx3.trans hb4
  have q10 := HB.out 10 _ _ (((hb1.trans hb2).trans hb3).trans hb4) rfl
  have hsz := lt_of_cell q10
  clear q9
  rcases hs with hs | ⟨hs0, hs1, hl7, hl7r⟩
  · go_wp2
    exact bodyPost_ret (v := .int .i64 (-1)) (by simp [results, Tryz.results6, go_sem]) rfl ⟨-1, rfl, .inl (by omega), hx4⟩
  have HLR := Lib.hid (show ∀ r ∈ x.Runs, r.Nodes.length ≤ 1048576 from fun r hr => by have := hl7r r hr; omega)
  clear hl7r
  go_wp2_with fail
  refine (HE.out s _ (by omega) hs0).mono ?_
  rintro e w5 ⟨rfl, hb5⟩
  have hx5 : Ext w w5 := hx4.trans hb5
  clear q10
  rcases HC.out x.Ends.length s with hz | ⟨hz, hl8, he⟩
  · generalize szM x.Ends.length s = t at *
    go_wp2
    exact bodyPost_ret (v := .int .i64 (-1)) (by simp [results, Tryz.results6, go_sem]) rfl ⟨-1, rfl, .inl (by omega), hx5⟩
  have HS := Lib.hid (HSM.out (by omega) (by omega) (by omega) (by omega) (by omega) (by omega) HLR.out)
  clear he
  generalize szM x.Ends.length s = t at *
  go_wp2
  exact bodyPost_ret (v := .int .i64 t) (by simp [results, Tryz.results6, go_sem]) rfl ⟨t, rfl, .inr ⟨by omega, HS.out⟩, hx5⟩
end Go.Proofs.YtfcffcgdbmkfgaaGreat
/-! StB -/
namespace Go.Proofs.YtfcffcgdbmkfgaaGreat
open Go.RowKit
set_option linter.unusedVariables false
theorem chunk_lowS {L us : List Value} {p j s : Nat} (h : j * s + s ≤ p) : ((setAll L p us).drop (j * s)).take s = (L.drop (j * s)).take s := by
  have e : ∀ M : List Value, (M.drop (j * s)).take s = (M.take (j * s + s)).drop (j * s) := fun M => by rw [List.drop_take]; congr 1; omega
  rw [e, e, take_setAll_low us L p (j * s + s) h]
theorem chunk_newS {L us : List Value} {k s : Nat} (hu : us.length = s) (h : k * s + s ≤ L.length) : ((setAll L (k * s) us).drop (k * s)).take s = us := by
  have e : ∀ M : List Value, (M.drop (k * s)).take s = (M.take (k * s + s)).drop (k * s) := fun M => by rw [List.drop_take]; congr 1; omega
  rw [e]
  have := take_setAll us L (k * s) (by omega)
  rw [hu] at this
  rw [this, List.drop_append]
  have h2 : (L.take (k * s)).length = k * s := by rw [List.length_take]; omega
  rw [h2, List.drop_eq_nil_of_le (by omega)]; simp
/-- One run in a row of runs, its nodes in a row of the call's own. -/
def RunO (w : World) (lo : Nat) (cs : List Value) (x : Run) : Prop := ∃ A' c', cs = x.Job.enc ++ [.int .i64 x.At, .slice A' x.Nodes.length c'] ∧ w.ownsRow lo 3 1 (.slice A' x.Nodes.length c') x.Nodes.length (x.Nodes.flatMap encInt) ∧ (∀ y ∈ x.Nodes, In64 y) ∧ x.Nodes.length ≤ 1048576 ∧ In64 x.At ∧ x.Job.ok
def RunsO (w : World) (lo : Nat) (A : Option Addr) (n c : Nat) (xs : List Run) : Prop := xs.length = n ∧ ∃ L : List Value, w.ownsRow lo 64 13 (.slice A n c) n L ∧ ∀ (k : Nat) (x : Run), xs[k]? = some x → RunO w lo ((L.drop (k * 13)).take 13) x
theorem RunO.ext {w w' : World} {lo : Nat} {cs : List Value} {x : Run} (h : RunO w lo cs x) (hb : Ext w w') : RunO w' lo cs x := by
  obtain ⟨A', c', e, ho, r⟩ := h; exact ⟨A', c', e, owns_ext ho hb, r⟩
theorem RunO.base {w : World} {lo lo' : Nat} {cs : List Value} {x : Run} (h : RunO w lo cs x) (hb : lo' ≤ lo) : RunO w lo' cs x := by
  obtain ⟨A', c', e, ho, r⟩ := h; exact ⟨A', c', e, owns_base ho hb, r⟩
theorem RunO.low {w : World} {lo g p : Nat} {u : Value} {cs : List Value} {x : Run} (h : RunO w lo cs x) (hb : g < lo) : RunO (w.setCell ⟨g, p, none⟩ u) lo cs x := by
  obtain ⟨A', c', e, ho, r⟩ := h; exact ⟨A', c', e, own_set ho hb, r⟩
theorem RunO.puts {lo g : Nat} {cs : List Value} {x : Run} (hb : g < lo) (us : List Value) : ∀ (w : World) (p : Nat), RunO w lo cs x → RunO (setCells w g p us) lo cs x := by
  induction us with
  | nil => intro w p h; exact h
  | cons u us ih => intro w p h; exact ih _ _ (h.low hb)
theorem RunsO.ext {w w' : World} {lo : Nat} {A : Option Addr} {n c : Nat} {xs : List Run} (h : RunsO w lo A n c xs) (hb : Ext w w') : RunsO w' lo A n c xs := by
  obtain ⟨h1, L, h2, h3⟩ := h; exact ⟨h1, L, owns_ext h2 hb, fun k x hk => (h3 k x hk).ext hb⟩
theorem RunsO.base {w : World} {lo lo' : Nat} {A : Option Addr} {n c : Nat} {xs : List Run} (h : RunsO w lo A n c xs) (hb : lo' ≤ lo) : RunsO w lo' A n c xs := by
  obtain ⟨h1, L, h2, h3⟩ := h; exact ⟨h1, L, owns_base h2 hb, fun k x hk => (h3 k x hk).base hb⟩
theorem RunsO.low {w : World} {lo g p : Nat} {u : Value} {A : Option Addr} {n c : Nat} {xs : List Run} (h : RunsO w lo A n c xs) (hb : g < lo) : RunsO (w.setCell ⟨g, p, none⟩ u) lo A n c xs := by
  obtain ⟨h1, L, h2, h3⟩ := h; exact ⟨h1, L, own_set h2 hb, fun k x hk => (h3 k x hk).low hb⟩
theorem RunsO.sl {w : World} {lo : Nat} {A : Option Addr} {n c : Nat} {xs : List Run} (h : RunsO w lo A n c xs) : SlAt RRun 13 w A n xs := by
  obtain ⟨rfl, L, h2, h3⟩ := h
  have hO : OwnAt RRun 64 13 w lo (.slice A xs.length c) xs := ⟨L, h2, fun k x hx => by
    obtain ⟨A', c', e, ho, h4, h5, h6, h7⟩ := h3 k x hx
    exact ⟨A', c', e, owns_sl (fun _ => rfl) ho h4, g_cap ho, h5, h6, h7⟩⟩
  exact hO.slAt
/-- A state in memory of the call's own. -/
structure StateO (w : World) (lo : Nat) (x : State) (A1 : Option Addr) (c1 : Nat) (A2 : Option Addr) (c2 : Nat) (A3 : Option Addr) (c3 : Nat) (A6 : Option Addr) (c6 : Nat) (A7 : Option Addr) (c7 : Nat) (A8 : Option Addr) (c8 : Nat) : Prop where
  par : w.ownsRow lo 3 1 (.slice A1 x.Topo.Parents.length c1) x.Topo.Parents.length (x.Topo.Parents.flatMap encInt)
  nod : w.ownsRow lo 84 4 (.slice A2 x.Topo.Nodes.length c2) x.Topo.Nodes.length (x.Topo.Nodes.flatMap Node.enc)
  ups : w.ownsRow lo 4 1 (.slice A3 x.Up.length c3) x.Up.length (x.Up.flatMap encB)
  que : w.ownsRow lo 62 11 (.slice A6 x.Queue.length c6) x.Queue.length (x.Queue.flatMap Job.enc)
  run : RunsO w lo A7 x.Runs.length c7 x.Runs
  fin : w.ownsRow lo 105 3 (.slice A8 x.Ends.length c8) x.Ends.length (x.Ends.flatMap End.enc)
  ok : (∀ y ∈ x.Topo.Parents, In64 y) ∧ (∀ y ∈ x.Topo.Nodes, y.ok) ∧ (∀ y ∈ x.Queue, y.ok) ∧ ∀ y ∈ x.Ends, y.ok
section
variable {w w' : World} {lo lo' g p : Nat} {u : Value} {x : State} {A1 : Option Addr} {c1 : Nat} {A2 : Option Addr} {c2 : Nat} {A3 : Option Addr} {c3 : Nat} {A6 : Option Addr} {c6 : Nat} {A7 : Option Addr} {c7 : Nat} {A8 : Option Addr} {c8 : Nat}
theorem StateO.ext (h : StateO w lo x A1 c1 A2 c2 A3 c3 A6 c6 A7 c7 A8 c8) (hb : Ext w w') : StateO w' lo x A1 c1 A2 c2 A3 c3 A6 c6 A7 c7 A8 c8 := ⟨owns_ext h.par hb, owns_ext h.nod hb, owns_ext h.ups hb, owns_ext h.que hb, h.run.ext hb, owns_ext h.fin hb, h.ok⟩
theorem StateO.base (h : StateO w lo x A1 c1 A2 c2 A3 c3 A6 c6 A7 c7 A8 c8) (hb : lo' ≤ lo) : StateO w lo' x A1 c1 A2 c2 A3 c3 A6 c6 A7 c7 A8 c8 := ⟨owns_base h.par hb, owns_base h.nod hb, owns_base h.ups hb, owns_base h.que hb, h.run.base hb, owns_base h.fin hb, h.ok⟩
theorem StateO.low (h : StateO w lo x A1 c1 A2 c2 A3 c3 A6 c6 A7 c7 A8 c8) (hb : g < lo) : StateO (w.setCell ⟨g, p, none⟩ u) lo x A1 c1 A2 c2 A3 c3 A6 c6 A7 c7 A8 c8 := ⟨own_set h.par hb, own_set h.nod hb, own_set h.ups hb, own_set h.que hb, h.run.low hb, own_set h.fin hb, h.ok⟩
theorem StateO.at_ (h : StateO w lo x A1 c1 A2 c2 A3 c3 A6 c6 A7 c7 A8 c8) : StateAt w x (.agg #[.slice A1 x.Topo.Parents.length c1, .slice A2 x.Topo.Nodes.length c2, .slice A3 x.Up.length c3, .int .i64 x.Lic.A, .int .i64 x.Lic.B, .int .i64 x.Lic.C, .int .i64 x.Depth, .int .i64 x.Now, .slice A6 x.Queue.length c6, .slice A7 x.Runs.length c7, .slice A8 x.Ends.length c8]) :=
  ⟨A1, c1, A2, c2, A3, c3, A6, c6, A7, c7, A8, c8, rfl, owns_sl (fun _ => rfl) h.par h.ok.1, owns_sl Node.size h.nod h.ok.2.1, owns_sl (enc := encB) (ok := fun _ => True) (fun _ => rfl) h.ups (fun _ _ => trivial), owns_sl Job.size h.que h.ok.2.2.1, h.run.sl, owns_sl End.size h.fin h.ok.2.2.2⟩
end
theorem StateO.puts {lo g : Nat} {x : State} {A1 : Option Addr} {c1 : Nat} {A2 : Option Addr} {c2 : Nat} {A3 : Option Addr} {c3 : Nat} {A6 : Option Addr} {c6 : Nat} {A7 : Option Addr} {c7 : Nat} {A8 : Option Addr} {c8 : Nat} (hb : g < lo) (us : List Value) : ∀ (w : World) (p : Nat), StateO w lo x A1 c1 A2 c2 A3 c3 A6 c6 A7 c7 A8 c8 → StateO (setCells w g p us) lo x A1 c1 A2 c2 A3 c3 A6 c6 A7 c7 A8 c8 := by
  induction us with
  | nil => intro w p h; exact h
  | cons u us ih => intro w p h; exact ih _ _ (h.low hb)
theorem own_puts_low {lo g n : Nat} {e : TypeId} {sz : Nat} {v : Value} {L : List Value} (hb : g < lo) (us : List Value) : ∀ (w : World) (p : Nat), w.ownsRow lo e sz v n L → (setCells w g p us).ownsRow lo e sz v n L := by
  induction us with
  | nil => intro w p h; exact h
  | cons u us ih => intro w p h; exact ih _ _ (own_set h hb)
set_option maxHeartbeats 2000000 in
theorem toBoolS_c (xs : List Bool) (A : Option Addr) (n c : Nat) (w : World) (h : SlAt RB 1 w A n xs) (hn : n ≤ 1048576) : Calls Tryz.prog 27 #[.slice A n c] w (RetOwn RB 4 1 w xs) := by
  obtain ⟨i0, hi, hz0, hz1, hz2⟩ := info_parts CBool.info
  go_enter Tryz.func27, Tryz.ntmps27
  go_wp2_with (at_make; refine wpList_make_full _ rfl _ _ 26 rfl w.heap.size 4 i0 _ 1 Tryz.underlying26 hi hz0 hz1 .i64 .i64 n n n rfl rfl rfl rfl (by rw [hz2]; omega) (by unfold maxLen; omega) (Nat.le_refl _) ?_; intro w1 hown hg; have hb1 : Ext w w1 := Below.grown (Below.refl _ _) hg (Nat.le_refl _) (by simp))
  clear hg hi hz0 hz1 hz2
  go_loopw [4] (fun i wr => ∃ (k : Nat) (L : List Value), k ≤ n ∧ i = .int .i64 k ∧ wr.ownsRow w.heap.size 4 1 (.slice (some ⟨w.heap.size, 0, none⟩) n n) n L ∧ L.take (k * 1) = (xs.take k).flatMap encB ∧ Ext w wr) (fun i _ => n - (intOf i).toNat)
  case atStart => exact ⟨0, _, Nat.zero_le _, rfl, hown, by simp, hb1⟩
  case round =>
    obtain ⟨k, L, hk, rfl, hownr, hL, hb⟩ := hrel
    clear hown hb1
    by_cases hlt : k < n
    · obtain ⟨b, o, x, cs, rfl, hbw, hx, _, hc, rfl, hok⟩ := (h.ext (Flat.mono _ _) hb).at_ hlt
      have c0 := hc 0 _ rfl
      simp only [Nat.mul_one, Nat.add_zero] at c0
      have HL := Lib.hid hL; have HX := Lib.hid hx; have HO := Lib.hid hownr
      clear hc hL hx hownr h
      obtain ⟨y0, hy0⟩ := owns_cell (HO.out) (j := k) (by omega)
      have z0 := (HO.out).frozenAt (k)
      go_wp2
      go_roundw
      case rel => exact ⟨k + 1, setAll L (k * 1) (encB x), by omega, by go_num, by rw [Nat.mul_one]; exact owns_puts (encB x) _ _ _ HO.out, flat_step HL.out HO.out.1 hlt HX.out (show (encB x).length = 1 from rfl), Ext.puts (encB x) _ k hb (Nat.le_refl _)⟩
      case measure => simp [intOf]; omega
    · have hkn : k = n := by omega
      have HO := Lib.hid hownr
      have HL := Lib.hid hL
      clear hownr hL
      go_wp2
      exact ret_own rfl h.len HO.out HL.out (fun _ => rfl) h.all hkn hb
def RetRun (w : World) (x : Run) : Ending → World → Prop := fun e w' => ∃ A' c', e = .returned (.agg #[.int .i64 x.Job.Id, .int .i64 x.Job.Prio, .int .i64 x.Job.Nodes, .int .i64 x.Job.Need.A, .int .i64 x.Job.Need.B, .int .i64 x.Job.Need.C, .int .i64 x.Job.Lic.A, .int .i64 x.Job.Lic.B, .int .i64 x.Job.Lic.C, .int .i64 x.Job.Wall, .int .i64 x.Job.Level, .int .i64 x.At, .slice A' x.Nodes.length c']) ∧ w'.ownsRow w.heap.size 3 1 (.slice A' x.Nodes.length c') x.Nodes.length (x.Nodes.flatMap encInt) ∧ Ext w w'
set_option maxHeartbeats 4000000 in
set_option maxRecDepth 8000 in
theorem toRun_c (x : Run) (A : Option Addr) (c : Nat) (w : World) (h : SlAt RInt 1 w A x.Nodes.length x.Nodes) (hn : x.Nodes.length ≤ 1048576) : Calls Tryz.prog 60 #[.agg #[.int .i64 x.Job.Id, .int .i64 x.Job.Prio, .int .i64 x.Job.Nodes, .int .i64 x.Job.Need.A, .int .i64 x.Job.Need.B, .int .i64 x.Job.Need.C, .int .i64 x.Job.Lic.A, .int .i64 x.Job.Lic.B, .int .i64 x.Job.Lic.C, .int .i64 x.Job.Wall, .int .i64 x.Job.Level, .int .i64 x.At, .slice A x.Nodes.length c]] w (RetRun w x) := by
  have HJ := Lib.hid (fun u : World => toJob_c x.Job u)
  have HN := Lib.hid (fun (u : World) (e : Ext w u) => toIntS_c x.Nodes A x.Nodes.length c u (h.ext (Flat.mono _ _) e) hn)
  clear h
  go_enter Tryz.func60, Tryz.ntmps60
  go_wp2_with fail
  refine (HJ.out _).mono ?_
  rintro e w1 ⟨rfl, hb1⟩
  have HX1 := Lib.hid hb1
  have hx1 : Ext w w1 := ((((Ext.refl w).alloc _).alloc _).alloc _).trans hb1
  have HB1 := Lib.hid (owns_ext (gbox ((w.alloc (.cells #[.int .i64 x.Job.Id, .int .i64 x.Job.Prio, .int .i64 x.Job.Nodes, .int .i64 x.Job.Need.A, .int .i64 x.Job.Need.B, .int .i64 x.Job.Need.C, .int .i64 x.Job.Lic.A, .int .i64 x.Job.Lic.B, .int .i64 x.Job.Lic.C, .int .i64 x.Job.Wall, .int .i64 x.Job.Level, .int .i64 x.At, .slice A x.Nodes.length c] 92)).alloc (.cells #[.int .i64 0, .int .i64 0, .int .i64 0, .int .i64 0, .int .i64 0, .int .i64 0, .int .i64 0, .int .i64 0, .int .i64 0, .int .i64 0, .int .i64 0, .int .i64 0, .slice none 0 0] 64)) [.int .i64 0, .int .i64 0, .int .i64 0, .int .i64 0, .int .i64 0, .int .i64 0, .int .i64 0, .int .i64 0, .int .i64 0, .int .i64 0, .int .i64 0, .int .i64 0, .slice none 0 0] 64 13 rfl) hb1)
  simp only [World.size_alloc] at HB1
  have t0 := gcell HB1.out 0 _ rfl
  have tf0 := HB1.out.frozenAt 0
  have t1 := gcell HB1.out 1 _ rfl
  have tf1 := HB1.out.frozenAt 1
  have t2 := gcell HB1.out 2 _ rfl
  have tf2 := HB1.out.frozenAt 2
  have t3 := gcell HB1.out 3 _ rfl
  have tf3 := HB1.out.frozenAt 3
  have t4 := gcell HB1.out 4 _ rfl
  have tf4 := HB1.out.frozenAt 4
  have t5 := gcell HB1.out 5 _ rfl
  have tf5 := HB1.out.frozenAt 5
  have t6 := gcell HB1.out 6 _ rfl
  have tf6 := HB1.out.frozenAt 6
  have t7 := gcell HB1.out 7 _ rfl
  have tf7 := HB1.out.frozenAt 7
  have t8 := gcell HB1.out 8 _ rfl
  have tf8 := HB1.out.frozenAt 8
  have t9 := gcell HB1.out 9 _ rfl
  have tf9 := HB1.out.frozenAt 9
  have t10 := gcell HB1.out 10 _ rfl
  have tf10 := HB1.out.frozenAt 10
  have t11 := gcell HB1.out 11 _ rfl
  have tf11 := HB1.out.frozenAt 11
  have t12 := gcell HB1.out 12 _ rfl
  have tf12 := HB1.out.frozenAt 12
  have tl := lt_of_cell t0
  have HR1 := Lib.hid (owns_ext (gbox (w.alloc (.cells #[.int .i64 x.Job.Id, .int .i64 x.Job.Prio, .int .i64 x.Job.Nodes, .int .i64 x.Job.Need.A, .int .i64 x.Job.Need.B, .int .i64 x.Job.Need.C, .int .i64 x.Job.Lic.A, .int .i64 x.Job.Lic.B, .int .i64 x.Job.Lic.C, .int .i64 x.Job.Wall, .int .i64 x.Job.Level, .int .i64 x.At, .slice A x.Nodes.length c] 92)) [.int .i64 0, .int .i64 0, .int .i64 0, .int .i64 0, .int .i64 0, .int .i64 0, .int .i64 0, .int .i64 0, .int .i64 0, .int .i64 0, .int .i64 0, .int .i64 0, .slice none 0 0] 64 13 rfl) (((Ext.refl _).alloc _).trans hb1))
  simp only [World.size_alloc] at HR1
  have a11 := ((((Ext.refl _).alloc _).alloc _).trans hb1).cell (cell_box_at w w.heap.size rfl [.int .i64 x.Job.Id, .int .i64 x.Job.Prio, .int .i64 x.Job.Nodes, .int .i64 x.Job.Need.A, .int .i64 x.Job.Need.B, .int .i64 x.Job.Need.C, .int .i64 x.Job.Lic.A, .int .i64 x.Job.Lic.B, .int .i64 x.Job.Lic.C, .int .i64 x.Job.Wall, .int .i64 x.Job.Level, .int .i64 x.At, .slice A x.Nodes.length c] 92 11 _ rfl)
  have a12 := ((((Ext.refl _).alloc _).alloc _).trans hb1).cell (cell_box_at w w.heap.size rfl [.int .i64 x.Job.Id, .int .i64 x.Job.Prio, .int .i64 x.Job.Nodes, .int .i64 x.Job.Need.A, .int .i64 x.Job.Need.B, .int .i64 x.Job.Need.C, .int .i64 x.Job.Lic.A, .int .i64 x.Job.Lic.B, .int .i64 x.Job.Lic.C, .int .i64 x.Job.Wall, .int .i64 x.Job.Level, .int .i64 x.At, .slice A x.Nodes.length c] 92 12 _ rfl)
  have hz1 := hb1.le
  simp at hz1
  have HP1 := Lib.hid (show Ext w (setCells w1 (w.heap.size + 1 + 1) 0 [.int .i64 x.Job.Id, .int .i64 x.Job.Prio, .int .i64 x.Job.Nodes, .int .i64 x.Job.Need.A, .int .i64 x.Job.Need.B, .int .i64 x.Job.Need.C, .int .i64 x.Job.Lic.A, .int .i64 x.Job.Lic.B, .int .i64 x.Job.Lic.C, .int .i64 x.Job.Wall, .int .i64 x.Job.Level, .int .i64 x.At]) from Ext.puts [.int .i64 x.Job.Id, .int .i64 x.Job.Prio, .int .i64 x.Job.Nodes, .int .i64 x.Job.Need.A, .int .i64 x.Job.Need.B, .int .i64 x.Job.Need.C, .int .i64 x.Job.Lic.A, .int .i64 x.Job.Lic.B, .int .i64 x.Job.Lic.C, .int .i64 x.Job.Wall, .int .i64 x.Job.Level, .int .i64 x.At] _ 0 hx1 (by omega))
  have HB1b := Lib.hid (show (setCells w1 (w.heap.size + 1 + 1) 0 [.int .i64 x.Job.Id, .int .i64 x.Job.Prio, .int .i64 x.Job.Nodes, .int .i64 x.Job.Need.A, .int .i64 x.Job.Need.B, .int .i64 x.Job.Need.C, .int .i64 x.Job.Lic.A, .int .i64 x.Job.Lic.B, .int .i64 x.Job.Lic.C, .int .i64 x.Job.Wall, .int .i64 x.Job.Level, .int .i64 x.At]).ownsRow (w.heap.size + 1 + 1) 64 13 (.slice (some ⟨w.heap.size + 1 + 1, 0, none⟩) 1 1) 1 [.int .i64 x.Job.Id, .int .i64 x.Job.Prio, .int .i64 x.Job.Nodes, .int .i64 x.Job.Need.A, .int .i64 x.Job.Need.B, .int .i64 x.Job.Need.C, .int .i64 x.Job.Lic.A, .int .i64 x.Job.Lic.B, .int .i64 x.Job.Lic.C, .int .i64 x.Job.Wall, .int .i64 x.Job.Level, .int .i64 x.At, .slice none 0 0] from owns_puts [.int .i64 x.Job.Id, .int .i64 x.Job.Prio, .int .i64 x.Job.Nodes, .int .i64 x.Job.Need.A, .int .i64 x.Job.Need.B, .int .i64 x.Job.Need.C, .int .i64 x.Job.Lic.A, .int .i64 x.Job.Lic.B, .int .i64 x.Job.Lic.C, .int .i64 x.Job.Wall, .int .i64 x.Job.Level, .int .i64 x.At] _ _ _ HB1.out)
  have HR1b := Lib.hid (show (setCells w1 (w.heap.size + 1 + 1) 0 [.int .i64 x.Job.Id, .int .i64 x.Job.Prio, .int .i64 x.Job.Nodes, .int .i64 x.Job.Need.A, .int .i64 x.Job.Need.B, .int .i64 x.Job.Need.C, .int .i64 x.Job.Lic.A, .int .i64 x.Job.Lic.B, .int .i64 x.Job.Lic.C, .int .i64 x.Job.Wall, .int .i64 x.Job.Level, .int .i64 x.At]).ownsRow (w.heap.size + 1) 64 13 (.slice (some ⟨w.heap.size + 1, 0, none⟩) 1 1) 1 [.int .i64 0, .int .i64 0, .int .i64 0, .int .i64 0, .int .i64 0, .int .i64 0, .int .i64 0, .int .i64 0, .int .i64 0, .int .i64 0, .int .i64 0, .int .i64 0, .slice none 0 0] from g_puts_far (fun e => by have h : w.heap.size + 1 = w.heap.size + 1 + 1 := Option.some.inj e; omega) [.int .i64 x.Job.Id, .int .i64 x.Job.Prio, .int .i64 x.Job.Nodes, .int .i64 x.Job.Need.A, .int .i64 x.Job.Need.B, .int .i64 x.Job.Need.C, .int .i64 x.Job.Lic.A, .int .i64 x.Job.Lic.B, .int .i64 x.Job.Lic.C, .int .i64 x.Job.Wall, .int .i64 x.Job.Level, .int .i64 x.At] _ 0 HR1.out)
  have HZ1 := Lib.hid (show (setCells w1 (w.heap.size + 1 + 1) 0 [.int .i64 x.Job.Id, .int .i64 x.Job.Prio, .int .i64 x.Job.Nodes, .int .i64 x.Job.Need.A, .int .i64 x.Job.Need.B, .int .i64 x.Job.Need.C, .int .i64 x.Job.Lic.A, .int .i64 x.Job.Lic.B, .int .i64 x.Job.Lic.C, .int .i64 x.Job.Wall, .int .i64 x.Job.Level, .int .i64 x.At]).heap.size = w1.heap.size from by simp only [setCells, World.size_setCell])
  go_wp2_with fail
  refine (HN.out _ HP1.out).mono ?_
  rintro e w2 ⟨A2, c2, rfl, ho2, hb2⟩
  have hx2 : Ext w w2 := HP1.out.trans hb2
  have HO2 := Lib.hid (g_rows (enc := encInt) (sz := 1) (fun _ => rfl) (by decide) (OwnAt.mono (base' := w.heap.size + 1 + 1 + 1) ho2 (Nat.le_trans (show w.heap.size + 1 + 1 + 1 ≤ w1.heap.size by omega) (Nat.le_of_eq HZ1.out.symm)))).1
  have HLEN := Lib.hid (show w2.ownsRow (w.heap.size + 1 + 1 + 1) 3 1 (.slice A2 x.Nodes.length c2) x.Nodes.length (x.Nodes.flatMap encInt) from HO2.out)
  have HB2 := Lib.hid (owns_ext HB1b.out hb2)
  have HR2 := Lib.hid (owns_ext HR1b.out hb2)
  have hz2 := hb2.le
  have hz2b : w1.heap.size ≤ w2.heap.size := by have := HZ1.out; have h : (setCells w1 (w.heap.size + 1 + 1) 0 [.int .i64 x.Job.Id, .int .i64 x.Job.Prio, .int .i64 x.Job.Nodes, .int .i64 x.Job.Need.A, .int .i64 x.Job.Need.B, .int .i64 x.Job.Need.C, .int .i64 x.Job.Lic.A, .int .i64 x.Job.Lic.B, .int .i64 x.Job.Lic.C, .int .i64 x.Job.Wall, .int .i64 x.Job.Level, .int .i64 x.At]).heap.size ≤ w2.heap.size := hz2; omega
  clear a11 a12 t0 tf0 t1 tf1 t2 tf2 t3 tf3 t4 tf4 t5 tf5 t6 tf6 t7 tf7 t8 tf8 t9 tf9 t10 tf10 t11 tf11 t12 tf12 tl ho2 hb2 hz2 hb1 hx1
  have t0 := gcell HB2.out 0 _ rfl
  have r0 := gcell HR2.out 0 _ rfl
  have rf0 := HR2.out.frozenAt 0
  have t1 := gcell HB2.out 1 _ rfl
  have r1 := gcell HR2.out 1 _ rfl
  have rf1 := HR2.out.frozenAt 1
  have t2 := gcell HB2.out 2 _ rfl
  have r2 := gcell HR2.out 2 _ rfl
  have rf2 := HR2.out.frozenAt 2
  have t3 := gcell HB2.out 3 _ rfl
  have r3 := gcell HR2.out 3 _ rfl
  have rf3 := HR2.out.frozenAt 3
  have t4 := gcell HB2.out 4 _ rfl
  have r4 := gcell HR2.out 4 _ rfl
  have rf4 := HR2.out.frozenAt 4
  have t5 := gcell HB2.out 5 _ rfl
  have r5 := gcell HR2.out 5 _ rfl
  have rf5 := HR2.out.frozenAt 5
  have t6 := gcell HB2.out 6 _ rfl
  have r6 := gcell HR2.out 6 _ rfl
  have rf6 := HR2.out.frozenAt 6
  have t7 := gcell HB2.out 7 _ rfl
  have r7 := gcell HR2.out 7 _ rfl
  have rf7 := HR2.out.frozenAt 7
  have t8 := gcell HB2.out 8 _ rfl
  have r8 := gcell HR2.out 8 _ rfl
  have rf8 := HR2.out.frozenAt 8
  have t9 := gcell HB2.out 9 _ rfl
  have r9 := gcell HR2.out 9 _ rfl
  have rf9 := HR2.out.frozenAt 9
  have t10 := gcell HB2.out 10 _ rfl
  have r10 := gcell HR2.out 10 _ rfl
  have rf10 := HR2.out.frozenAt 10
  have t11 := gcell HB2.out 11 _ rfl
  have r11 := gcell HR2.out 11 _ rfl
  have rf11 := HR2.out.frozenAt 11
  have t12 := gcell HB2.out 12 _ rfl
  have r12 := gcell HR2.out 12 _ rfl
  have rf12 := HR2.out.frozenAt 12
  have tf12 := HB2.out.frozenAt 12
  have tl := lt_of_cell t0
  have rl := lt_of_cell r0
  have HX2 := Lib.hid hx2
  clear hx2
  go_wp2
  clear t0 t1 t2 t3 t4 t5 t6 t7 t8 t9 t10 t11 t12 tf12 tl rf0 rf1 rf2 rf3 rf4 rf5 rf6 rf7 rf8 rf9 rf10 rf11 rf12 hz1 hz2b
  have HXF := Lib.hid (show Ext w (setCells (w2.setCell ⟨w.heap.size + 1 + 1, 12, none⟩ (.slice A2 x.Nodes.length c2)) (w.heap.size + 1) 0 [.int .i64 x.Job.Id, .int .i64 x.Job.Prio, .int .i64 x.Job.Nodes, .int .i64 x.Job.Need.A, .int .i64 x.Job.Need.B, .int .i64 x.Job.Need.C, .int .i64 x.Job.Lic.A, .int .i64 x.Job.Lic.B, .int .i64 x.Job.Lic.C, .int .i64 x.Job.Wall, .int .i64 x.Job.Level, .int .i64 x.At, .slice A2 x.Nodes.length c2]) from Ext.puts [.int .i64 x.Job.Id, .int .i64 x.Job.Prio, .int .i64 x.Job.Nodes, .int .i64 x.Job.Need.A, .int .i64 x.Job.Need.B, .int .i64 x.Job.Need.C, .int .i64 x.Job.Lic.A, .int .i64 x.Job.Lic.B, .int .i64 x.Job.Lic.C, .int .i64 x.Job.Wall, .int .i64 x.Job.Level, .int .i64 x.At, .slice A2 x.Nodes.length c2] _ 0 (HX2.out.setCell (by simp only []; omega) _) (by omega))
  have HOF := Lib.hid (show (setCells (w2.setCell ⟨w.heap.size + 1 + 1, 12, none⟩ (.slice A2 x.Nodes.length c2)) (w.heap.size + 1) 0 [.int .i64 x.Job.Id, .int .i64 x.Job.Prio, .int .i64 x.Job.Nodes, .int .i64 x.Job.Need.A, .int .i64 x.Job.Need.B, .int .i64 x.Job.Need.C, .int .i64 x.Job.Lic.A, .int .i64 x.Job.Lic.B, .int .i64 x.Job.Lic.C, .int .i64 x.Job.Wall, .int .i64 x.Job.Level, .int .i64 x.At, .slice A2 x.Nodes.length c2]).ownsRow (w.heap.size + 1 + 1 + 1) 3 1 (.slice A2 x.Nodes.length c2) x.Nodes.length (x.Nodes.flatMap encInt) from own_puts_low (by omega) [.int .i64 x.Job.Id, .int .i64 x.Job.Prio, .int .i64 x.Job.Nodes, .int .i64 x.Job.Need.A, .int .i64 x.Job.Need.B, .int .i64 x.Job.Need.C, .int .i64 x.Job.Lic.A, .int .i64 x.Job.Lic.B, .int .i64 x.Job.Lic.C, .int .i64 x.Job.Wall, .int .i64 x.Job.Level, .int .i64 x.At, .slice A2 x.Nodes.length c2] _ 0 (own_set HLEN.out (by omega)))
  exact bodyPost_ret (v := .agg #[.int .i64 x.Job.Id, .int .i64 x.Job.Prio, .int .i64 x.Job.Nodes, .int .i64 x.Job.Need.A, .int .i64 x.Job.Need.B, .int .i64 x.Job.Need.C, .int .i64 x.Job.Lic.A, .int .i64 x.Job.Lic.B, .int .i64 x.Job.Lic.C, .int .i64 x.Job.Wall, .int .i64 x.Job.Level, .int .i64 x.At, .slice A2 x.Nodes.length c2]) (by simp [results, Tryz.results60, go_sem, *]) rfl ⟨A2, c2, rfl, owns_base HOF.out (by omega), HXF.out⟩
end Go.Proofs.YtfcffcgdbmkfgaaGreat
/-! StB2 -/
namespace Go.Proofs.YtfcffcgdbmkfgaaGreat
open Go.RowKit
set_option linter.unusedVariables false
def RetRuns (w : World) (xs : List Run) : Ending → World → Prop := fun e w' => ∃ A' c', e = .returned (.slice A' xs.length c') ∧ RunsO w' w.heap.size A' xs.length c' xs ∧ Ext w w'
set_option maxHeartbeats 8000000 in
set_option maxRecDepth 8000 in
theorem toRunS_c (xs : List Run) (A : Option Addr) (n c : Nat) (w : World) (h : SlAt RRunA 13 w A n xs) (hn : n ≤ 1048576) (hle : ∀ x ∈ xs, x.Nodes.length ≤ 1048576) : Calls Tryz.prog 30 #[.slice A n c] w (RetRuns w xs) := by
  obtain ⟨i0, hi, hz0, hz1, hz2⟩ := info_parts (show (Tryz.prog.info? 64).map (fun i => (i.zero, i.size, i.bytes)) = some (some (.agg #[.int .i64 0, .int .i64 0, .int .i64 0, .int .i64 0, .int .i64 0, .int .i64 0, .int .i64 0, .int .i64 0, .int .i64 0, .int .i64 0, .int .i64 0, .int .i64 0, .slice none 0 0]), 13, 120) by kernel_rfl)
  have HLE := Lib.hid hle
  go_enter Tryz.func30, Tryz.ntmps30
  go_wp2_with (at_make; refine wpList_make_full _ rfl _ _ 41 rfl w.heap.size 64 i0 _ 13 Tryz.underlying41 hi hz0 hz1 .i64 .i64 n n n rfl rfl rfl rfl (by rw [hz2]; omega) (by unfold maxLen; omega) (Nat.le_refl _) ?_; intro w1 hown hg; have hb1 : Ext w w1 := Below.grown (Below.refl _ _) hg (Nat.le_refl _) (by simp))
  clear hg hi hz0 hz1 hz2
  go_loopw [4] (fun i wr => ∃ (k : Nat) (L : List Value), k ≤ n ∧ i = .int .i64 k ∧ wr.ownsRow w.heap.size 64 13 (.slice (some ⟨w.heap.size, 0, none⟩) n n) n L ∧ Hid (∀ j x, j < k → xs[j]? = some x → RunO wr (w.heap.size + 1) ((L.drop (j * 13)).take 13) x) ∧ Ext w wr) (fun i _ => n - (intOf i).toNat)
  case atStart => exact ⟨0, _, Nat.zero_le _, rfl, hown, Lib.hid (fun j x hj => by omega), hb1⟩
  case round =>
    obtain ⟨k, L, hk, rfl, hownr, HL, hb⟩ := hrel
    clear hown hb1
    by_cases hlt : k < n
    · obtain ⟨b, o, x, cs, rfl, hbw, hx, _, hc, hr⟩ := (h.ext RRunA.mono hb).at_ hlt
      obtain ⟨A1, c1, rfl, hsl, hml, hf, hj⟩ := runA_cells hr
      have g0 := hc 0 _ rfl
      have g1 := hc 1 _ rfl
      have g2 := hc 2 _ rfl
      have g3 := hc 3 _ rfl
      have g4 := hc 4 _ rfl
      have g5 := hc 5 _ rfl
      have g6 := hc 6 _ rfl
      have g7 := hc 7 _ rfl
      have g8 := hc 8 _ rfl
      have g9 := hc 9 _ rfl
      have g10 := hc 10 _ rfl
      have g11 := hc 11 _ rfl
      have g12 := hc 12 _ rfl
      simp only [Nat.add_zero] at g0
      have HX := Lib.hid hx; have HO := Lib.hid hownr
      have HLX := Lib.hid (HLE.out x (List.mem_of_getElem? hx))
      have HSL := Lib.hid hsl
      have HR := Lib.hid (show (∀ y ∈ x.Nodes, In64 y) ∧ x.Nodes.length ≤ 1048576 ∧ In64 x.At ∧ x.Job.ok from ⟨hsl.all, HLX.out, hf, hj⟩)
      have hgr : w.heap.size < wr.heap.size := (hownr.lt _ rfl).2
      clear hc hr hsl hml hf hj hx hownr h
      go_wp2_with (go_at_call 60; refine (toRun_c x A1 c1 _ HSL.out HLX.out).mono ?_; rintro e w2 ⟨A2, c2, rfl, ho2, hb2⟩; obtain ⟨y0, hy0⟩ := owns_cell (owns_ext HO.out hb2) (j := k * 13) (by omega); have z0 := (owns_ext HO.out hb2).frozenAt (k * 13); obtain ⟨y1, hy1⟩ := owns_cell (owns_ext HO.out hb2) (j := k * 13 + 1) (by omega); have z1 := (owns_ext HO.out hb2).frozenAt (k * 13 + 1); obtain ⟨y2, hy2⟩ := owns_cell (owns_ext HO.out hb2) (j := k * 13 + 2) (by omega); have z2 := (owns_ext HO.out hb2).frozenAt (k * 13 + 2); obtain ⟨y3, hy3⟩ := owns_cell (owns_ext HO.out hb2) (j := k * 13 + 3) (by omega); have z3 := (owns_ext HO.out hb2).frozenAt (k * 13 + 3); obtain ⟨y4, hy4⟩ := owns_cell (owns_ext HO.out hb2) (j := k * 13 + 4) (by omega); have z4 := (owns_ext HO.out hb2).frozenAt (k * 13 + 4); obtain ⟨y5, hy5⟩ := owns_cell (owns_ext HO.out hb2) (j := k * 13 + 5) (by omega); have z5 := (owns_ext HO.out hb2).frozenAt (k * 13 + 5); obtain ⟨y6, hy6⟩ := owns_cell (owns_ext HO.out hb2) (j := k * 13 + 6) (by omega); have z6 := (owns_ext HO.out hb2).frozenAt (k * 13 + 6); obtain ⟨y7, hy7⟩ := owns_cell (owns_ext HO.out hb2) (j := k * 13 + 7) (by omega); have z7 := (owns_ext HO.out hb2).frozenAt (k * 13 + 7); obtain ⟨y8, hy8⟩ := owns_cell (owns_ext HO.out hb2) (j := k * 13 + 8) (by omega); have z8 := (owns_ext HO.out hb2).frozenAt (k * 13 + 8); obtain ⟨y9, hy9⟩ := owns_cell (owns_ext HO.out hb2) (j := k * 13 + 9) (by omega); have z9 := (owns_ext HO.out hb2).frozenAt (k * 13 + 9); obtain ⟨y10, hy10⟩ := owns_cell (owns_ext HO.out hb2) (j := k * 13 + 10) (by omega); have z10 := (owns_ext HO.out hb2).frozenAt (k * 13 + 10); obtain ⟨y11, hy11⟩ := owns_cell (owns_ext HO.out hb2) (j := k * 13 + 11) (by omega); have z11 := (owns_ext HO.out hb2).frozenAt (k * 13 + 11); obtain ⟨y12, hy12⟩ := owns_cell (owns_ext HO.out hb2) (j := k * 13 + 12) (by omega); have z12 := (owns_ext HO.out hb2).frozenAt (k * 13 + 12); have HO2 := Lib.hid ho2; have hz2 : w.heap.size < w2.heap.size := Nat.lt_of_lt_of_le hgr hb2.le; clear g0 g1 g2 g3 g4 g5 g6 g7 g8 g9 g10 g11 g12)
      go_roundw
      case rel =>
        refine ⟨k + 1, setAll L (k * 13) [.int .i64 x.Job.Id, .int .i64 x.Job.Prio, .int .i64 x.Job.Nodes, .int .i64 x.Job.Need.A, .int .i64 x.Job.Need.B, .int .i64 x.Job.Need.C, .int .i64 x.Job.Lic.A, .int .i64 x.Job.Lic.B, .int .i64 x.Job.Lic.C, .int .i64 x.Job.Wall, .int .i64 x.Job.Level, .int .i64 x.At, .slice A2 x.Nodes.length c2], by omega, by go_num, owns_puts [.int .i64 x.Job.Id, .int .i64 x.Job.Prio, .int .i64 x.Job.Nodes, .int .i64 x.Job.Need.A, .int .i64 x.Job.Need.B, .int .i64 x.Job.Need.C, .int .i64 x.Job.Lic.A, .int .i64 x.Job.Lic.B, .int .i64 x.Job.Lic.C, .int .i64 x.Job.Wall, .int .i64 x.Job.Level, .int .i64 x.At, .slice A2 x.Nodes.length c2] _ _ _ (owns_ext HO.out hb2), Lib.hid (fun j y hj hy => ?_), Ext.puts [.int .i64 x.Job.Id, .int .i64 x.Job.Prio, .int .i64 x.Job.Nodes, .int .i64 x.Job.Need.A, .int .i64 x.Job.Need.B, .int .i64 x.Job.Need.C, .int .i64 x.Job.Lic.A, .int .i64 x.Job.Lic.B, .int .i64 x.Job.Lic.C, .int .i64 x.Job.Wall, .int .i64 x.Job.Level, .int .i64 x.At, .slice A2 x.Nodes.length c2] _ _ (hb.trans hb2) (Nat.le_refl _)⟩
        rcases Nat.lt_or_ge j k with hjk | hjk
        · rw [chunk_lowS (by omega)]
          exact RunO.puts (by omega) [.int .i64 x.Job.Id, .int .i64 x.Job.Prio, .int .i64 x.Job.Nodes, .int .i64 x.Job.Need.A, .int .i64 x.Job.Need.B, .int .i64 x.Job.Need.C, .int .i64 x.Job.Lic.A, .int .i64 x.Job.Lic.B, .int .i64 x.Job.Lic.C, .int .i64 x.Job.Wall, .int .i64 x.Job.Level, .int .i64 x.At, .slice A2 x.Nodes.length c2] _ _ ((HL.out j y hjk hy).ext hb2)
        · obtain rfl : j = k := by omega
          rw [HX.out] at hy; injection hy with hy; subst hy
          rw [chunk_newS (s := 13) rfl (by rw [HO.out.1]; omega)]
          exact RunO.puts (by omega) [.int .i64 x.Job.Id, .int .i64 x.Job.Prio, .int .i64 x.Job.Nodes, .int .i64 x.Job.Need.A, .int .i64 x.Job.Need.B, .int .i64 x.Job.Need.C, .int .i64 x.Job.Lic.A, .int .i64 x.Job.Lic.B, .int .i64 x.Job.Lic.C, .int .i64 x.Job.Wall, .int .i64 x.Job.Level, .int .i64 x.At, .slice A2 x.Nodes.length c2] _ _ ⟨A2, c2, rfl, owns_base HO2.out (by omega), HR.out⟩
      case measure => simp [intOf]; omega
    · have hkn : k = n := by omega
      have HO := Lib.hid hownr
      have HKN := Lib.hid hkn
      have HN := Lib.hid h.len
      clear hownr hkn h
      go_wp2
      exact bodyPost_ret (results_tmp rfl _ _ _) rfl ⟨_, n, by rw [HN.out]; rfl, ⟨rfl, L, by rw [HN.out]; exact HO.out, fun j x hx => (HL.out j x (by have := (List.getElem?_eq_some_iff.1 hx).1; rw [HN.out] at this; rw [HKN.out]; exact this) hx).base (by omega)⟩, hb⟩
def RetStateO (w : World) (x : State) : Ending → World → Prop := fun e w' => ∃ B1 d1 B2 d2 B3 d3 B6 d6 B7 d7 B8 d8, e = .returned (.agg #[.slice B1 x.Topo.Parents.length d1, .slice B2 x.Topo.Nodes.length d2, .slice B3 x.Up.length d3, .int .i64 x.Lic.A, .int .i64 x.Lic.B, .int .i64 x.Lic.C, .int .i64 x.Depth, .int .i64 x.Now, .slice B6 x.Queue.length d6, .slice B7 x.Runs.length d7, .slice B8 x.Ends.length d8]) ∧ StateO w' w.heap.size x B1 d1 B2 d2 B3 d3 B6 d6 B7 d7 B8 d8 ∧ Ext w w'
theorem RunsO.puts {lo g : Nat} {A : Option Addr} {n c : Nat} {xs : List Run} (hb : g < lo) (us : List Value) : ∀ (w : World) (p : Nat), RunsO w lo A n c xs → RunsO (setCells w g p us) lo A n c xs := by
  induction us with
  | nil => intro w p h; exact h
  | cons u us ih => intro w p h; exact ih _ _ (h.low hb)
set_option maxHeartbeats 16000000 in
set_option maxRecDepth 10000 in
theorem toState_c (x : State) (A1 : Option Addr) (c1 : Nat) (A2 : Option Addr) (c2 : Nat) (A3 : Option Addr) (c3 : Nat) (A6 : Option Addr) (c6 : Nat) (A7 : Option Addr) (c7 : Nat) (A8 : Option Addr) (c8 : Nat) (w : World) (h : StArg w x A1 A2 A3 A6 A7 A8) (hs : stSmall x) : Calls Tryz.prog 8 #[.agg #[.slice A1 x.Topo.Parents.length c1, .slice A2 x.Topo.Nodes.length c2, .slice A3 x.Up.length c3, .int .i64 x.Lic.A, .int .i64 x.Lic.B, .int .i64 x.Lic.C, .int .i64 x.Depth, .int .i64 x.Now, .slice A6 x.Queue.length c6, .slice A7 x.Runs.length c7, .slice A8 x.Ends.length c8]] w (RetStateO w x) := by
  obtain ⟨⟨hl1, hl2, hl3, hl6, hl7, hl8⟩, hlr⟩ := hs
  have HT := Lib.hid (fun (u : World) (e : Ext w u) => toTopo_c x.Topo A1 c1 A2 c2 u (h.1.ext (Flat.mono _ _) e) (h.2.1.ext (Flat.mono _ _) e) hl1 hl2)
  have HU := Lib.hid (fun (u : World) (e : Ext w u) => toBoolS_c x.Up A3 x.Up.length c3 u (h.2.2.1.ext (Flat.mono _ _) e) hl3)
  have HV := Lib.hid (fun (u : World) => toVec_c x.Lic u)
  have HQ := Lib.hid (fun (u : World) (e : Ext w u) => toJobS_c x.Queue A6 x.Queue.length c6 u (h.2.2.2.1.ext (Flat.mono _ _) e) hl6)
  have HR := Lib.hid (fun (u : World) (e : Ext w u) => toRunS_c x.Runs A7 x.Runs.length c7 u (h.2.2.2.2.1.ext RRunA.mono e) hl7 hlr)
  have HE := Lib.hid (fun (u : World) (e : Ext w u) => toEndS_c x.Ends A8 x.Ends.length c8 u (h.2.2.2.2.2.ext (Flat.mono _ _) e) hl8)
  have HOK := Lib.hid (show (∀ y ∈ x.Topo.Parents, In64 y) ∧ (∀ y ∈ x.Topo.Nodes, y.ok) ∧ (∀ y ∈ x.Queue, y.ok) ∧ ∀ y ∈ x.Ends, y.ok from ⟨h.1.all, h.2.1.all, h.2.2.2.1.all, h.2.2.2.2.2.all⟩)
  have HB := Lib.hid (fun (j : Nat) (u : Value) (q : World) (e : Ext (w.alloc (.cells #[.slice A1 x.Topo.Parents.length c1, .slice A2 x.Topo.Nodes.length c2, .slice A3 x.Up.length c3, .int .i64 x.Lic.A, .int .i64 x.Lic.B, .int .i64 x.Lic.C, .int .i64 x.Depth, .int .i64 x.Now, .slice A6 x.Queue.length c6, .slice A7 x.Runs.length c7, .slice A8 x.Ends.length c8] 33)) q) (hu : [.slice A1 x.Topo.Parents.length c1, .slice A2 x.Topo.Nodes.length c2, .slice A3 x.Up.length c3, .int .i64 x.Lic.A, .int .i64 x.Lic.B, .int .i64 x.Lic.C, .int .i64 x.Depth, .int .i64 x.Now, .slice A6 x.Queue.length c6, .slice A7 x.Runs.length c7, .slice A8 x.Ends.length c8][j]? = some u) => e.cell (law_box w _ 33 j u hu))
  clear h hl1 hl2 hl3 hl6 hl7 hl8 hlr
  go_enter Tryz.func8, Tryz.ntmps8
  go_wp2_with fail
  refine (HT.out _ ((((Ext.refl w).alloc _).alloc _).alloc _)).mono ?_
  rintro e w1 ⟨B1, d1, B2, d2, rfl, ho1, ho2, hb1⟩
  have HX1 := Lib.hid (show Ext w w1 from ((((Ext.refl w).alloc _).alloc _).alloc _).trans hb1)
  have HAX1 := Lib.hid (show Ext (w.alloc (.cells #[.slice A1 x.Topo.Parents.length c1, .slice A2 x.Topo.Nodes.length c2, .slice A3 x.Up.length c3, .int .i64 x.Lic.A, .int .i64 x.Lic.B, .int .i64 x.Lic.C, .int .i64 x.Depth, .int .i64 x.Now, .slice A6 x.Queue.length c6, .slice A7 x.Runs.length c7, .slice A8 x.Ends.length c8] 33)) w1 from (((Ext.refl _).alloc _).alloc _).trans hb1)
  have HBX1 := Lib.hid (owns_ext (gbox ((w.alloc (.cells #[.slice A1 x.Topo.Parents.length c1, .slice A2 x.Topo.Nodes.length c2, .slice A3 x.Up.length c3, .int .i64 x.Lic.A, .int .i64 x.Lic.B, .int .i64 x.Lic.C, .int .i64 x.Depth, .int .i64 x.Now, .slice A6 x.Queue.length c6, .slice A7 x.Runs.length c7, .slice A8 x.Ends.length c8] 33)).alloc (.cells #[.slice none 0 0, .slice none 0 0, .slice none 0 0, .int .i64 0, .int .i64 0, .int .i64 0, .int .i64 0, .int .i64 0, .slice none 0 0, .slice none 0 0, .slice none 0 0] 44)) [.slice none 0 0, .slice none 0 0, .slice none 0 0, .int .i64 0, .int .i64 0, .int .i64 0, .int .i64 0, .int .i64 0, .slice none 0 0, .slice none 0 0, .slice none 0 0] 44 11 rfl) hb1)
  have HRX1 := Lib.hid (owns_ext (gbox (w.alloc (.cells #[.slice A1 x.Topo.Parents.length c1, .slice A2 x.Topo.Nodes.length c2, .slice A3 x.Up.length c3, .int .i64 x.Lic.A, .int .i64 x.Lic.B, .int .i64 x.Lic.C, .int .i64 x.Depth, .int .i64 x.Now, .slice A6 x.Queue.length c6, .slice A7 x.Runs.length c7, .slice A8 x.Ends.length c8] 33)) [.slice none 0 0, .slice none 0 0, .slice none 0 0, .int .i64 0, .int .i64 0, .int .i64 0, .int .i64 0, .int .i64 0, .slice none 0 0, .slice none 0 0, .slice none 0 0] 44 11 rfl) (((Ext.refl _).alloc _).trans hb1))
  simp only [World.size_alloc] at HBX1 HRX1
  have hz1 : w.heap.size + 1 + 1 + 1 ≤ w1.heap.size := by have := hb1.le; simpa using this
  have HO1 := Lib.hid (g_rows (enc := encInt) (sz := 1) (fun _ => rfl) (by decide) (OwnAt.mono (base' := w.heap.size + 1 + 1 + 1) ho1 (by simp))).1
  clear ho1
  have HO2 := Lib.hid (g_rows (enc := Node.enc) (sz := 4) Node.size (by decide) (OwnAt.mono (base' := w.heap.size + 1 + 1 + 1) ho2 (by simp))).1
  clear ho2
  clear hb1
  have t0 := gcell HBX1.out 0 _ rfl
  have tf0 := HBX1.out.frozenAt 0
  have t1 := gcell HBX1.out 1 _ rfl
  have tf1 := HBX1.out.frozenAt 1
  have a2 := HB.out 2 _ _ HAX1.out rfl
  have tl1 := lt_of_cell t0
  have HP1 := Lib.hid (show Ext w (setCells w1 (w.heap.size + 1 + 1) 0 [.slice B1 x.Topo.Parents.length d1, .slice B2 x.Topo.Nodes.length d2]) from Ext.puts [.slice B1 x.Topo.Parents.length d1, .slice B2 x.Topo.Nodes.length d2] _ 0 HX1.out (by omega))
  have HAP1 := Lib.hid (show Ext (w.alloc (.cells #[.slice A1 x.Topo.Parents.length c1, .slice A2 x.Topo.Nodes.length c2, .slice A3 x.Up.length c3, .int .i64 x.Lic.A, .int .i64 x.Lic.B, .int .i64 x.Lic.C, .int .i64 x.Depth, .int .i64 x.Now, .slice A6 x.Queue.length c6, .slice A7 x.Runs.length c7, .slice A8 x.Ends.length c8] 33)) (setCells w1 (w.heap.size + 1 + 1) 0 [.slice B1 x.Topo.Parents.length d1, .slice B2 x.Topo.Nodes.length d2]) from Ext.puts [.slice B1 x.Topo.Parents.length d1, .slice B2 x.Topo.Nodes.length d2] _ 0 HAX1.out (by first | (simp; done) | (simp; omega)))
  have HBP1 := Lib.hid (show (setCells w1 (w.heap.size + 1 + 1) 0 [.slice B1 x.Topo.Parents.length d1, .slice B2 x.Topo.Nodes.length d2]).ownsRow (w.heap.size + 1 + 1) 44 11 (.slice (some ⟨w.heap.size + 1 + 1, 0, none⟩) 1 1) 1 [.slice B1 x.Topo.Parents.length d1, .slice B2 x.Topo.Nodes.length d2, .slice none 0 0, .int .i64 0, .int .i64 0, .int .i64 0, .int .i64 0, .int .i64 0, .slice none 0 0, .slice none 0 0, .slice none 0 0] from owns_puts [.slice B1 x.Topo.Parents.length d1, .slice B2 x.Topo.Nodes.length d2] _ _ _ HBX1.out)
  have HRP1 := Lib.hid (show (setCells w1 (w.heap.size + 1 + 1) 0 [.slice B1 x.Topo.Parents.length d1, .slice B2 x.Topo.Nodes.length d2]).ownsRow (w.heap.size + 1) 44 11 (.slice (some ⟨w.heap.size + 1, 0, none⟩) 1 1) 1 [.slice none 0 0, .slice none 0 0, .slice none 0 0, .int .i64 0, .int .i64 0, .int .i64 0, .int .i64 0, .int .i64 0, .slice none 0 0, .slice none 0 0, .slice none 0 0] from g_puts_far (fun e => by have h : w.heap.size + 1 = w.heap.size + 1 + 1 := Option.some.inj e; omega) [.slice B1 x.Topo.Parents.length d1, .slice B2 x.Topo.Nodes.length d2] _ _ HRX1.out)
  have HZP1 := Lib.hid (show w.heap.size + 1 + 1 + 1 ≤ (setCells w1 (w.heap.size + 1 + 1) 0 [.slice B1 x.Topo.Parents.length d1, .slice B2 x.Topo.Nodes.length d2]).heap.size from by simp only [setCells, World.size_setCell]; exact hz1)
  replace HO1 := Lib.hid (own_puts_low (g := w.heap.size + 1 + 1) (by omega) [.slice B1 x.Topo.Parents.length d1, .slice B2 x.Topo.Nodes.length d2] _ 0 HO1.out)
  replace HO2 := Lib.hid (own_puts_low (g := w.heap.size + 1 + 1) (by omega) [.slice B1 x.Topo.Parents.length d1, .slice B2 x.Topo.Nodes.length d2] _ 0 HO2.out)
  go_wp2_with fail
  refine (HU.out _ HP1.out).mono ?_
  rintro e w2 ⟨B3, d3, rfl, ho3, hb2⟩
  have HX2 := Lib.hid (HP1.out.trans hb2)
  have HAX2 := Lib.hid (HAP1.out.trans hb2)
  have HBX2 := Lib.hid (owns_ext HBP1.out hb2)
  have HRX2 := Lib.hid (owns_ext HRP1.out hb2)
  have hz2 : w.heap.size + 1 + 1 + 1 ≤ w2.heap.size := Nat.le_trans HZP1.out hb2.le
  replace HO1 := Lib.hid (owns_ext HO1.out hb2)
  replace HO2 := Lib.hid (owns_ext HO2.out hb2)
  have HO3 := Lib.hid (g_rows (enc := encB) (sz := 1) (fun _ => rfl) (by decide) (OwnAt.mono (base' := w.heap.size + 1 + 1 + 1) ho3 HZP1.out)).1
  clear ho3
  clear hb2 t0 tf0 t1 tf1 a2 tl1
  have t2 := gcell HBX2.out 2 _ rfl
  have tf2 := HBX2.out.frozenAt 2
  have a3 := HB.out 3 _ _ HAX2.out rfl
  have a4 := HB.out 4 _ _ HAX2.out rfl
  have a5 := HB.out 5 _ _ HAX2.out rfl
  have tl2 := lt_of_cell t2
  have HP2 := Lib.hid (show Ext w (setCells w2 (w.heap.size + 1 + 1) 2 [.slice B3 x.Up.length d3]) from Ext.puts [.slice B3 x.Up.length d3] _ 2 HX2.out (by omega))
  have HAP2 := Lib.hid (show Ext (w.alloc (.cells #[.slice A1 x.Topo.Parents.length c1, .slice A2 x.Topo.Nodes.length c2, .slice A3 x.Up.length c3, .int .i64 x.Lic.A, .int .i64 x.Lic.B, .int .i64 x.Lic.C, .int .i64 x.Depth, .int .i64 x.Now, .slice A6 x.Queue.length c6, .slice A7 x.Runs.length c7, .slice A8 x.Ends.length c8] 33)) (setCells w2 (w.heap.size + 1 + 1) 2 [.slice B3 x.Up.length d3]) from Ext.puts [.slice B3 x.Up.length d3] _ 2 HAX2.out (by first | (simp; done) | (simp; omega)))
  have HBP2 := Lib.hid (show (setCells w2 (w.heap.size + 1 + 1) 2 [.slice B3 x.Up.length d3]).ownsRow (w.heap.size + 1 + 1) 44 11 (.slice (some ⟨w.heap.size + 1 + 1, 0, none⟩) 1 1) 1 [.slice B1 x.Topo.Parents.length d1, .slice B2 x.Topo.Nodes.length d2, .slice B3 x.Up.length d3, .int .i64 0, .int .i64 0, .int .i64 0, .int .i64 0, .int .i64 0, .slice none 0 0, .slice none 0 0, .slice none 0 0] from owns_puts [.slice B3 x.Up.length d3] _ _ _ HBX2.out)
  have HRP2 := Lib.hid (show (setCells w2 (w.heap.size + 1 + 1) 2 [.slice B3 x.Up.length d3]).ownsRow (w.heap.size + 1) 44 11 (.slice (some ⟨w.heap.size + 1, 0, none⟩) 1 1) 1 [.slice none 0 0, .slice none 0 0, .slice none 0 0, .int .i64 0, .int .i64 0, .int .i64 0, .int .i64 0, .int .i64 0, .slice none 0 0, .slice none 0 0, .slice none 0 0] from g_puts_far (fun e => by have h : w.heap.size + 1 = w.heap.size + 1 + 1 := Option.some.inj e; omega) [.slice B3 x.Up.length d3] _ _ HRX2.out)
  have HZP2 := Lib.hid (show w.heap.size + 1 + 1 + 1 ≤ (setCells w2 (w.heap.size + 1 + 1) 2 [.slice B3 x.Up.length d3]).heap.size from by simp only [setCells, World.size_setCell]; exact hz2)
  replace HO1 := Lib.hid (own_puts_low (g := w.heap.size + 1 + 1) (by omega) [.slice B3 x.Up.length d3] _ 2 HO1.out)
  replace HO2 := Lib.hid (own_puts_low (g := w.heap.size + 1 + 1) (by omega) [.slice B3 x.Up.length d3] _ 2 HO2.out)
  replace HO3 := Lib.hid (own_puts_low (g := w.heap.size + 1 + 1) (by omega) [.slice B3 x.Up.length d3] _ 2 HO3.out)
  go_wp2_with fail
  refine (HV.out _).mono ?_
  rintro e w3 ⟨rfl, hb3⟩
  have HX3 := Lib.hid (HP2.out.trans hb3)
  have HAX3 := Lib.hid (HAP2.out.trans hb3)
  have HBX3 := Lib.hid (owns_ext HBP2.out hb3)
  have HRX3 := Lib.hid (owns_ext HRP2.out hb3)
  have hz3 : w.heap.size + 1 + 1 + 1 ≤ w3.heap.size := Nat.le_trans HZP2.out hb3.le
  replace HO1 := Lib.hid (owns_ext HO1.out hb3)
  replace HO2 := Lib.hid (owns_ext HO2.out hb3)
  replace HO3 := Lib.hid (owns_ext HO3.out hb3)
  clear hb3 t2 tf2 a3 a4 a5 tl2
  have t3 := gcell HBX3.out 3 _ rfl
  have tf3 := HBX3.out.frozenAt 3
  have t4 := gcell HBX3.out 4 _ rfl
  have tf4 := HBX3.out.frozenAt 4
  have t5 := gcell HBX3.out 5 _ rfl
  have tf5 := HBX3.out.frozenAt 5
  have t6 := gcell HBX3.out 6 _ rfl
  have tf6 := HBX3.out.frozenAt 6
  have t7 := gcell HBX3.out 7 _ rfl
  have tf7 := HBX3.out.frozenAt 7
  have a6 := HB.out 6 _ _ HAX3.out rfl
  have a7 := HB.out 7 _ _ HAX3.out rfl
  have a8 := HB.out 8 _ _ HAX3.out rfl
  have tl3 := lt_of_cell t3
  have HP3 := Lib.hid (show Ext w (setCells w3 (w.heap.size + 1 + 1) 3 [.int .i64 x.Lic.A, .int .i64 x.Lic.B, .int .i64 x.Lic.C, .int .i64 x.Depth, .int .i64 x.Now]) from Ext.puts [.int .i64 x.Lic.A, .int .i64 x.Lic.B, .int .i64 x.Lic.C, .int .i64 x.Depth, .int .i64 x.Now] _ 3 HX3.out (by omega))
  have HAP3 := Lib.hid (show Ext (w.alloc (.cells #[.slice A1 x.Topo.Parents.length c1, .slice A2 x.Topo.Nodes.length c2, .slice A3 x.Up.length c3, .int .i64 x.Lic.A, .int .i64 x.Lic.B, .int .i64 x.Lic.C, .int .i64 x.Depth, .int .i64 x.Now, .slice A6 x.Queue.length c6, .slice A7 x.Runs.length c7, .slice A8 x.Ends.length c8] 33)) (setCells w3 (w.heap.size + 1 + 1) 3 [.int .i64 x.Lic.A, .int .i64 x.Lic.B, .int .i64 x.Lic.C, .int .i64 x.Depth, .int .i64 x.Now]) from Ext.puts [.int .i64 x.Lic.A, .int .i64 x.Lic.B, .int .i64 x.Lic.C, .int .i64 x.Depth, .int .i64 x.Now] _ 3 HAX3.out (by first | (simp; done) | (simp; omega)))
  have HBP3 := Lib.hid (show (setCells w3 (w.heap.size + 1 + 1) 3 [.int .i64 x.Lic.A, .int .i64 x.Lic.B, .int .i64 x.Lic.C, .int .i64 x.Depth, .int .i64 x.Now]).ownsRow (w.heap.size + 1 + 1) 44 11 (.slice (some ⟨w.heap.size + 1 + 1, 0, none⟩) 1 1) 1 [.slice B1 x.Topo.Parents.length d1, .slice B2 x.Topo.Nodes.length d2, .slice B3 x.Up.length d3, .int .i64 x.Lic.A, .int .i64 x.Lic.B, .int .i64 x.Lic.C, .int .i64 x.Depth, .int .i64 x.Now, .slice none 0 0, .slice none 0 0, .slice none 0 0] from owns_puts [.int .i64 x.Lic.A, .int .i64 x.Lic.B, .int .i64 x.Lic.C, .int .i64 x.Depth, .int .i64 x.Now] _ _ _ HBX3.out)
  have HRP3 := Lib.hid (show (setCells w3 (w.heap.size + 1 + 1) 3 [.int .i64 x.Lic.A, .int .i64 x.Lic.B, .int .i64 x.Lic.C, .int .i64 x.Depth, .int .i64 x.Now]).ownsRow (w.heap.size + 1) 44 11 (.slice (some ⟨w.heap.size + 1, 0, none⟩) 1 1) 1 [.slice none 0 0, .slice none 0 0, .slice none 0 0, .int .i64 0, .int .i64 0, .int .i64 0, .int .i64 0, .int .i64 0, .slice none 0 0, .slice none 0 0, .slice none 0 0] from g_puts_far (fun e => by have h : w.heap.size + 1 = w.heap.size + 1 + 1 := Option.some.inj e; omega) [.int .i64 x.Lic.A, .int .i64 x.Lic.B, .int .i64 x.Lic.C, .int .i64 x.Depth, .int .i64 x.Now] _ _ HRX3.out)
  have HZP3 := Lib.hid (show w.heap.size + 1 + 1 + 1 ≤ (setCells w3 (w.heap.size + 1 + 1) 3 [.int .i64 x.Lic.A, .int .i64 x.Lic.B, .int .i64 x.Lic.C, .int .i64 x.Depth, .int .i64 x.Now]).heap.size from by simp only [setCells, World.size_setCell]; exact hz3)
  replace HO1 := Lib.hid (own_puts_low (g := w.heap.size + 1 + 1) (by omega) [.int .i64 x.Lic.A, .int .i64 x.Lic.B, .int .i64 x.Lic.C, .int .i64 x.Depth, .int .i64 x.Now] _ 3 HO1.out)
  replace HO2 := Lib.hid (own_puts_low (g := w.heap.size + 1 + 1) (by omega) [.int .i64 x.Lic.A, .int .i64 x.Lic.B, .int .i64 x.Lic.C, .int .i64 x.Depth, .int .i64 x.Now] _ 3 HO2.out)
  replace HO3 := Lib.hid (own_puts_low (g := w.heap.size + 1 + 1) (by omega) [.int .i64 x.Lic.A, .int .i64 x.Lic.B, .int .i64 x.Lic.C, .int .i64 x.Depth, .int .i64 x.Now] _ 3 HO3.out)
  go_wp2_with fail
  refine (HQ.out _ HP3.out).mono ?_
  rintro e w4 ⟨B6, d6, rfl, ho6, hb4⟩
  have HX4 := Lib.hid (HP3.out.trans hb4)
  have HAX4 := Lib.hid (HAP3.out.trans hb4)
  have HBX4 := Lib.hid (owns_ext HBP3.out hb4)
  have HRX4 := Lib.hid (owns_ext HRP3.out hb4)
  have hz4 : w.heap.size + 1 + 1 + 1 ≤ w4.heap.size := Nat.le_trans HZP3.out hb4.le
  replace HO1 := Lib.hid (owns_ext HO1.out hb4)
  replace HO2 := Lib.hid (owns_ext HO2.out hb4)
  replace HO3 := Lib.hid (owns_ext HO3.out hb4)
  have HO6 := Lib.hid (g_rows (enc := Job.enc) (sz := 11) Job.size (by decide) (OwnAt.mono (base' := w.heap.size + 1 + 1 + 1) ho6 HZP3.out)).1
  clear ho6
  clear hb4 t3 tf3 t4 tf4 t5 tf5 t6 tf6 t7 tf7 a6 a7 a8 tl3
  have t8 := gcell HBX4.out 8 _ rfl
  have tf8 := HBX4.out.frozenAt 8
  have a9 := HB.out 9 _ _ HAX4.out rfl
  have tl4 := lt_of_cell t8
  have HP4 := Lib.hid (show Ext w (setCells w4 (w.heap.size + 1 + 1) 8 [.slice B6 x.Queue.length d6]) from Ext.puts [.slice B6 x.Queue.length d6] _ 8 HX4.out (by omega))
  have HAP4 := Lib.hid (show Ext (w.alloc (.cells #[.slice A1 x.Topo.Parents.length c1, .slice A2 x.Topo.Nodes.length c2, .slice A3 x.Up.length c3, .int .i64 x.Lic.A, .int .i64 x.Lic.B, .int .i64 x.Lic.C, .int .i64 x.Depth, .int .i64 x.Now, .slice A6 x.Queue.length c6, .slice A7 x.Runs.length c7, .slice A8 x.Ends.length c8] 33)) (setCells w4 (w.heap.size + 1 + 1) 8 [.slice B6 x.Queue.length d6]) from Ext.puts [.slice B6 x.Queue.length d6] _ 8 HAX4.out (by first | (simp; done) | (simp; omega)))
  have HBP4 := Lib.hid (show (setCells w4 (w.heap.size + 1 + 1) 8 [.slice B6 x.Queue.length d6]).ownsRow (w.heap.size + 1 + 1) 44 11 (.slice (some ⟨w.heap.size + 1 + 1, 0, none⟩) 1 1) 1 [.slice B1 x.Topo.Parents.length d1, .slice B2 x.Topo.Nodes.length d2, .slice B3 x.Up.length d3, .int .i64 x.Lic.A, .int .i64 x.Lic.B, .int .i64 x.Lic.C, .int .i64 x.Depth, .int .i64 x.Now, .slice B6 x.Queue.length d6, .slice none 0 0, .slice none 0 0] from owns_puts [.slice B6 x.Queue.length d6] _ _ _ HBX4.out)
  have HRP4 := Lib.hid (show (setCells w4 (w.heap.size + 1 + 1) 8 [.slice B6 x.Queue.length d6]).ownsRow (w.heap.size + 1) 44 11 (.slice (some ⟨w.heap.size + 1, 0, none⟩) 1 1) 1 [.slice none 0 0, .slice none 0 0, .slice none 0 0, .int .i64 0, .int .i64 0, .int .i64 0, .int .i64 0, .int .i64 0, .slice none 0 0, .slice none 0 0, .slice none 0 0] from g_puts_far (fun e => by have h : w.heap.size + 1 = w.heap.size + 1 + 1 := Option.some.inj e; omega) [.slice B6 x.Queue.length d6] _ _ HRX4.out)
  have HZP4 := Lib.hid (show w.heap.size + 1 + 1 + 1 ≤ (setCells w4 (w.heap.size + 1 + 1) 8 [.slice B6 x.Queue.length d6]).heap.size from by simp only [setCells, World.size_setCell]; exact hz4)
  replace HO1 := Lib.hid (own_puts_low (g := w.heap.size + 1 + 1) (by omega) [.slice B6 x.Queue.length d6] _ 8 HO1.out)
  replace HO2 := Lib.hid (own_puts_low (g := w.heap.size + 1 + 1) (by omega) [.slice B6 x.Queue.length d6] _ 8 HO2.out)
  replace HO3 := Lib.hid (own_puts_low (g := w.heap.size + 1 + 1) (by omega) [.slice B6 x.Queue.length d6] _ 8 HO3.out)
  replace HO6 := Lib.hid (own_puts_low (g := w.heap.size + 1 + 1) (by omega) [.slice B6 x.Queue.length d6] _ 8 HO6.out)
  go_wp2_with fail
  refine (HR.out _ HP4.out).mono ?_
  rintro e w5 ⟨B7, d7, rfl, ho7, hb5⟩
  have HX5 := Lib.hid (HP4.out.trans hb5)
  have HAX5 := Lib.hid (HAP4.out.trans hb5)
  have HBX5 := Lib.hid (owns_ext HBP4.out hb5)
  have HRX5 := Lib.hid (owns_ext HRP4.out hb5)
  have hz5 : w.heap.size + 1 + 1 + 1 ≤ w5.heap.size := Nat.le_trans HZP4.out hb5.le
  replace HO1 := Lib.hid (owns_ext HO1.out hb5)
  replace HO2 := Lib.hid (owns_ext HO2.out hb5)
  replace HO3 := Lib.hid (owns_ext HO3.out hb5)
  replace HO6 := Lib.hid (owns_ext HO6.out hb5)
  have HO7 := Lib.hid (ho7.base HZP4.out)
  clear ho7
  clear hb5 t8 tf8 a9 tl4
  have t9 := gcell HBX5.out 9 _ rfl
  have tf9 := HBX5.out.frozenAt 9
  have a10 := HB.out 10 _ _ HAX5.out rfl
  have tl5 := lt_of_cell t9
  have HP5 := Lib.hid (show Ext w (setCells w5 (w.heap.size + 1 + 1) 9 [.slice B7 x.Runs.length d7]) from Ext.puts [.slice B7 x.Runs.length d7] _ 9 HX5.out (by omega))
  have HAP5 := Lib.hid (show Ext (w.alloc (.cells #[.slice A1 x.Topo.Parents.length c1, .slice A2 x.Topo.Nodes.length c2, .slice A3 x.Up.length c3, .int .i64 x.Lic.A, .int .i64 x.Lic.B, .int .i64 x.Lic.C, .int .i64 x.Depth, .int .i64 x.Now, .slice A6 x.Queue.length c6, .slice A7 x.Runs.length c7, .slice A8 x.Ends.length c8] 33)) (setCells w5 (w.heap.size + 1 + 1) 9 [.slice B7 x.Runs.length d7]) from Ext.puts [.slice B7 x.Runs.length d7] _ 9 HAX5.out (by first | (simp; done) | (simp; omega)))
  have HBP5 := Lib.hid (show (setCells w5 (w.heap.size + 1 + 1) 9 [.slice B7 x.Runs.length d7]).ownsRow (w.heap.size + 1 + 1) 44 11 (.slice (some ⟨w.heap.size + 1 + 1, 0, none⟩) 1 1) 1 [.slice B1 x.Topo.Parents.length d1, .slice B2 x.Topo.Nodes.length d2, .slice B3 x.Up.length d3, .int .i64 x.Lic.A, .int .i64 x.Lic.B, .int .i64 x.Lic.C, .int .i64 x.Depth, .int .i64 x.Now, .slice B6 x.Queue.length d6, .slice B7 x.Runs.length d7, .slice none 0 0] from owns_puts [.slice B7 x.Runs.length d7] _ _ _ HBX5.out)
  have HRP5 := Lib.hid (show (setCells w5 (w.heap.size + 1 + 1) 9 [.slice B7 x.Runs.length d7]).ownsRow (w.heap.size + 1) 44 11 (.slice (some ⟨w.heap.size + 1, 0, none⟩) 1 1) 1 [.slice none 0 0, .slice none 0 0, .slice none 0 0, .int .i64 0, .int .i64 0, .int .i64 0, .int .i64 0, .int .i64 0, .slice none 0 0, .slice none 0 0, .slice none 0 0] from g_puts_far (fun e => by have h : w.heap.size + 1 = w.heap.size + 1 + 1 := Option.some.inj e; omega) [.slice B7 x.Runs.length d7] _ _ HRX5.out)
  have HZP5 := Lib.hid (show w.heap.size + 1 + 1 + 1 ≤ (setCells w5 (w.heap.size + 1 + 1) 9 [.slice B7 x.Runs.length d7]).heap.size from by simp only [setCells, World.size_setCell]; exact hz5)
  replace HO1 := Lib.hid (own_puts_low (g := w.heap.size + 1 + 1) (by omega) [.slice B7 x.Runs.length d7] _ 9 HO1.out)
  replace HO2 := Lib.hid (own_puts_low (g := w.heap.size + 1 + 1) (by omega) [.slice B7 x.Runs.length d7] _ 9 HO2.out)
  replace HO3 := Lib.hid (own_puts_low (g := w.heap.size + 1 + 1) (by omega) [.slice B7 x.Runs.length d7] _ 9 HO3.out)
  replace HO6 := Lib.hid (own_puts_low (g := w.heap.size + 1 + 1) (by omega) [.slice B7 x.Runs.length d7] _ 9 HO6.out)
  replace HO7 := Lib.hid (show RunsO (setCells w5 (w.heap.size + 1 + 1) 9 [.slice B7 x.Runs.length d7]) (w.heap.size + 1 + 1 + 1) B7 x.Runs.length d7 x.Runs from RunsO.puts (by omega) [.slice B7 x.Runs.length d7] _ _ HO7.out)
  go_wp2_with fail
  refine (HE.out _ HP5.out).mono ?_
  rintro e w6 ⟨B8, d8, rfl, ho8, hb6⟩
  have HX6 := Lib.hid (HP5.out.trans hb6)
  have HAX6 := Lib.hid (HAP5.out.trans hb6)
  have HBX6 := Lib.hid (owns_ext HBP5.out hb6)
  have HRX6 := Lib.hid (owns_ext HRP5.out hb6)
  have hz6 : w.heap.size + 1 + 1 + 1 ≤ w6.heap.size := Nat.le_trans HZP5.out hb6.le
  replace HO1 := Lib.hid (owns_ext HO1.out hb6)
  replace HO2 := Lib.hid (owns_ext HO2.out hb6)
  replace HO3 := Lib.hid (owns_ext HO3.out hb6)
  replace HO6 := Lib.hid (owns_ext HO6.out hb6)
  replace HO7 := Lib.hid (HO7.out.ext hb6)
  have HO8 := Lib.hid (g_rows (enc := End.enc) (sz := 3) End.size (by decide) (OwnAt.mono (base' := w.heap.size + 1 + 1 + 1) ho8 HZP5.out)).1
  clear ho8
  clear hb6 t9 tf9 a10 tl5
  have t10 := gcell HBX6.out 10 _ rfl
  have tf10 := HBX6.out.frozenAt 10
  have t0 := gcell HBX6.out 0 _ rfl
  have r0 := gcell HRX6.out 0 _ rfl
  have rf0 := HRX6.out.frozenAt 0
  have t1 := gcell HBX6.out 1 _ rfl
  have r1 := gcell HRX6.out 1 _ rfl
  have rf1 := HRX6.out.frozenAt 1
  have t2 := gcell HBX6.out 2 _ rfl
  have r2 := gcell HRX6.out 2 _ rfl
  have rf2 := HRX6.out.frozenAt 2
  have t3 := gcell HBX6.out 3 _ rfl
  have r3 := gcell HRX6.out 3 _ rfl
  have rf3 := HRX6.out.frozenAt 3
  have t4 := gcell HBX6.out 4 _ rfl
  have r4 := gcell HRX6.out 4 _ rfl
  have rf4 := HRX6.out.frozenAt 4
  have t5 := gcell HBX6.out 5 _ rfl
  have r5 := gcell HRX6.out 5 _ rfl
  have rf5 := HRX6.out.frozenAt 5
  have t6 := gcell HBX6.out 6 _ rfl
  have r6 := gcell HRX6.out 6 _ rfl
  have rf6 := HRX6.out.frozenAt 6
  have t7 := gcell HBX6.out 7 _ rfl
  have r7 := gcell HRX6.out 7 _ rfl
  have rf7 := HRX6.out.frozenAt 7
  have t8 := gcell HBX6.out 8 _ rfl
  have r8 := gcell HRX6.out 8 _ rfl
  have rf8 := HRX6.out.frozenAt 8
  have t9 := gcell HBX6.out 9 _ rfl
  have r9 := gcell HRX6.out 9 _ rfl
  have rf9 := HRX6.out.frozenAt 9
  have r10 := gcell HRX6.out 10 _ rfl
  have rf10 := HRX6.out.frozenAt 10
  have rl := lt_of_cell r0
  have tl6 := lt_of_cell t10
  have HSO := Lib.hid (show StateO w6 (w.heap.size + 1 + 1 + 1) x B1 d1 B2 d2 B3 d3 B6 d6 B7 d7 B8 d8 from ⟨HO1.out, HO2.out, HO3.out, HO6.out, HO7.out, HO8.out, HOK.out⟩)
  go_wp2
  clear t10 tf10 t0 rf0 t1 rf1 t2 rf2 t3 rf3 t4 rf4 t5 rf5 t6 rf6 t7 rf7 t8 rf8 t9 rf9 rf10 tl6
  have HXF := Lib.hid (show Ext w (setCells (w6.setCell ⟨w.heap.size + 1 + 1, 10, none⟩ (.slice B8 x.Ends.length d8)) (w.heap.size + 1) 0 [.slice B1 x.Topo.Parents.length d1, .slice B2 x.Topo.Nodes.length d2, .slice B3 x.Up.length d3, .int .i64 x.Lic.A, .int .i64 x.Lic.B, .int .i64 x.Lic.C, .int .i64 x.Depth, .int .i64 x.Now, .slice B6 x.Queue.length d6, .slice B7 x.Runs.length d7, .slice B8 x.Ends.length d8]) from Ext.puts [.slice B1 x.Topo.Parents.length d1, .slice B2 x.Topo.Nodes.length d2, .slice B3 x.Up.length d3, .int .i64 x.Lic.A, .int .i64 x.Lic.B, .int .i64 x.Lic.C, .int .i64 x.Depth, .int .i64 x.Now, .slice B6 x.Queue.length d6, .slice B7 x.Runs.length d7, .slice B8 x.Ends.length d8] _ 0 (HX6.out.setCell (by simp only []; omega) _) (by omega))
  have HSF := Lib.hid (show StateO (setCells (w6.setCell ⟨w.heap.size + 1 + 1, 10, none⟩ (.slice B8 x.Ends.length d8)) (w.heap.size + 1) 0 [.slice B1 x.Topo.Parents.length d1, .slice B2 x.Topo.Nodes.length d2, .slice B3 x.Up.length d3, .int .i64 x.Lic.A, .int .i64 x.Lic.B, .int .i64 x.Lic.C, .int .i64 x.Depth, .int .i64 x.Now, .slice B6 x.Queue.length d6, .slice B7 x.Runs.length d7, .slice B8 x.Ends.length d8]) (w.heap.size + 1 + 1 + 1) x B1 d1 B2 d2 B3 d3 B6 d6 B7 d7 B8 d8 from StateO.puts (by omega) [.slice B1 x.Topo.Parents.length d1, .slice B2 x.Topo.Nodes.length d2, .slice B3 x.Up.length d3, .int .i64 x.Lic.A, .int .i64 x.Lic.B, .int .i64 x.Lic.C, .int .i64 x.Depth, .int .i64 x.Now, .slice B6 x.Queue.length d6, .slice B7 x.Runs.length d7, .slice B8 x.Ends.length d8] _ 0 (HSO.out.low (by omega)))
  exact bodyPost_ret (v := .agg #[.slice B1 x.Topo.Parents.length d1, .slice B2 x.Topo.Nodes.length d2, .slice B3 x.Up.length d3, .int .i64 x.Lic.A, .int .i64 x.Lic.B, .int .i64 x.Lic.C, .int .i64 x.Depth, .int .i64 x.Now, .slice B6 x.Queue.length d6, .slice B7 x.Runs.length d7, .slice B8 x.Ends.length d8]) (by simp [results, Tryz.results8, go_sem, *]) rfl ⟨B1, d1, B2, d2, B3, d3, B6, d6, B7, d7, B8, d8, rfl, HSF.out.base (by omega), HXF.out⟩
end Go.Proofs.YtfcffcgdbmkfgaaGreat
/-! StC -/
namespace Go.Proofs.YtfcffcgdbmkfgaaGreat
open Go.RowKit
set_option linter.unusedVariables false
set_option maxHeartbeats 4000000 in
theorem eqBoolS_t (xs : List Bool) (A A' : Option Addr) (n c c' : Nat) (w : World) (h1 : SlAt RB 1 w A n xs) (h2 : SlAt RB 1 w A' n xs) (hl : n ≤ maxLen) : Calls Tryz.prog 34 #[.slice A n c, .slice A' n c'] w (Ret w (.bool true)) := by
  unfold maxLen at hl
  go_enter Tryz.func34, Tryz.ntmps34
  go_wp2
  go_loopw [5] (fun i wr => ∃ k : Nat, k ≤ n ∧ i = .int .i64 k ∧ Ext w wr) (fun i _ => n - (intOf i).toNat)
  case atStart => exact ⟨0, Nat.zero_le _, rfl, Ext.refl _⟩
  case round =>
    obtain ⟨k, hk, rfl, hb⟩ := hrel
    by_cases hlt : k < n
    · obtain ⟨b, o, x, cs, rfl, hbw, hx, _, hc, rfl, _⟩ := (h1.ext (Flat.mono _ _) hb).at_ hlt
      obtain ⟨b', o', y, cs', rfl, hbw', hy, _, hc', rfl, _⟩ := (h2.ext (Flat.mono _ _) hb).at_ hlt
      rw [hx] at hy; injection hy with hy; subst hy
      have g0 := hc 0 _ rfl
      simp only [Nat.mul_one, Nat.add_zero] at g0
      have d0 := hc' 0 _ rfl
      simp only [Nat.mul_one, Nat.add_zero] at d0
      have HB := Lib.hid hb
      clear hc hc' hx h1 h2 hb
      have hcx := @Later.cell wr
      cases x
      all_goals
        go_wp2
        refine wp_region_ext (by kernel_rfl) (by kernel_rfl) ?_
        repeat (go_big_quiet_step (fail))
        refine wpQuiet_nil ?_
        intro w1 hb1
        have HB1 := Lib.hid hb1
        clear hcx g0 d0 hb1
        go_wp2
        go_roundw
        case rel => exact ⟨k + 1, by omega, by go_num, HB.out.trans HB1.out⟩
        case measure => simp [intOf]; omega
    · clear h1 h2
      go_wp2
      exact ret_bool rfl rfl rfl rfl hb
set_option maxHeartbeats 4000000 in
set_option maxRecDepth 8000 in
theorem eqRun_t (x : Run) (A : Option Addr) (c : Nat) (B : Option Addr) (d : Nat) (w : World) (h1 : SlAt RInt 1 w A x.Nodes.length x.Nodes) (h2 : SlAt RInt 1 w B x.Nodes.length x.Nodes) (hl : x.Nodes.length ≤ maxLen) : Calls Tryz.prog 70 #[.agg #[.int .i64 x.Job.Id, .int .i64 x.Job.Prio, .int .i64 x.Job.Nodes, .int .i64 x.Job.Need.A, .int .i64 x.Job.Need.B, .int .i64 x.Job.Need.C, .int .i64 x.Job.Lic.A, .int .i64 x.Job.Lic.B, .int .i64 x.Job.Lic.C, .int .i64 x.Job.Wall, .int .i64 x.Job.Level, .int .i64 x.At, .slice A x.Nodes.length c], .agg #[.int .i64 x.Job.Id, .int .i64 x.Job.Prio, .int .i64 x.Job.Nodes, .int .i64 x.Job.Need.A, .int .i64 x.Job.Need.B, .int .i64 x.Job.Need.C, .int .i64 x.Job.Lic.A, .int .i64 x.Job.Lic.B, .int .i64 x.Job.Lic.C, .int .i64 x.Job.Wall, .int .i64 x.Job.Level, .int .i64 x.At, .slice B x.Nodes.length d]] w (Ret w (.bool true)) := by
  have HJ := Lib.hid (fun (u : World) => show Calls Tryz.prog 69 #[.agg #[.int .i64 x.Job.Id, .int .i64 x.Job.Prio, .int .i64 x.Job.Nodes, .int .i64 x.Job.Need.A, .int .i64 x.Job.Need.B, .int .i64 x.Job.Need.C, .int .i64 x.Job.Lic.A, .int .i64 x.Job.Lic.B, .int .i64 x.Job.Lic.C, .int .i64 x.Job.Wall, .int .i64 x.Job.Level], .agg #[.int .i64 x.Job.Id, .int .i64 x.Job.Prio, .int .i64 x.Job.Nodes, .int .i64 x.Job.Need.A, .int .i64 x.Job.Need.B, .int .i64 x.Job.Need.C, .int .i64 x.Job.Lic.A, .int .i64 x.Job.Lic.B, .int .i64 x.Job.Lic.C, .int .i64 x.Job.Wall, .int .i64 x.Job.Level]] u (Ret u (.bool true)) from by have := eqJob_c x.Job x.Job u; rw [decide_eq_true rfl] at this; exact this)
  have HN := Lib.hid (fun (u : World) (e : Ext w u) => show Calls Tryz.prog 10 #[.slice A x.Nodes.length c, .slice B x.Nodes.length d] u (Ret u (.bool true)) from by have := eqIntS_c x.Nodes x.Nodes A B x.Nodes.length c x.Nodes.length d u (h1.ext (Flat.mono _ _) e) (h2.ext (Flat.mono _ _) e) hl; rw [decide_eq_true rfl] at this; exact this)
  clear h1 h2
  go_enter Tryz.func70, Tryz.ntmps70
  go_wp2_with fail
  refine (HJ.out _).mono ?_
  rintro e w1 ⟨rfl, hb1⟩
  have hx1 : Ext w w1 := (((Ext.refl w).alloc _).alloc _).trans hb1
  have a11 := ((((Ext.refl _).alloc _)).trans hb1).cell (cell_box_at w w.heap.size rfl [.int .i64 x.Job.Id, .int .i64 x.Job.Prio, .int .i64 x.Job.Nodes, .int .i64 x.Job.Need.A, .int .i64 x.Job.Need.B, .int .i64 x.Job.Need.C, .int .i64 x.Job.Lic.A, .int .i64 x.Job.Lic.B, .int .i64 x.Job.Lic.C, .int .i64 x.Job.Wall, .int .i64 x.Job.Level, .int .i64 x.At, .slice A x.Nodes.length c] 64 11 _ rfl)
  have a12 := ((((Ext.refl _).alloc _)).trans hb1).cell (cell_box_at w w.heap.size rfl [.int .i64 x.Job.Id, .int .i64 x.Job.Prio, .int .i64 x.Job.Nodes, .int .i64 x.Job.Need.A, .int .i64 x.Job.Need.B, .int .i64 x.Job.Need.C, .int .i64 x.Job.Lic.A, .int .i64 x.Job.Lic.B, .int .i64 x.Job.Lic.C, .int .i64 x.Job.Wall, .int .i64 x.Job.Level, .int .i64 x.At, .slice A x.Nodes.length c] 64 12 _ rfl)
  have b11 := hb1.cell (cell_box_at (w.alloc (.cells #[.int .i64 x.Job.Id, .int .i64 x.Job.Prio, .int .i64 x.Job.Nodes, .int .i64 x.Job.Need.A, .int .i64 x.Job.Need.B, .int .i64 x.Job.Need.C, .int .i64 x.Job.Lic.A, .int .i64 x.Job.Lic.B, .int .i64 x.Job.Lic.C, .int .i64 x.Job.Wall, .int .i64 x.Job.Level, .int .i64 x.At, .slice A x.Nodes.length c] 64)) (w.heap.size + 1) (by simp) [.int .i64 x.Job.Id, .int .i64 x.Job.Prio, .int .i64 x.Job.Nodes, .int .i64 x.Job.Need.A, .int .i64 x.Job.Need.B, .int .i64 x.Job.Need.C, .int .i64 x.Job.Lic.A, .int .i64 x.Job.Lic.B, .int .i64 x.Job.Lic.C, .int .i64 x.Job.Wall, .int .i64 x.Job.Level, .int .i64 x.At, .slice B x.Nodes.length d] 64 11 _ rfl)
  have b12 := hb1.cell (cell_box_at (w.alloc (.cells #[.int .i64 x.Job.Id, .int .i64 x.Job.Prio, .int .i64 x.Job.Nodes, .int .i64 x.Job.Need.A, .int .i64 x.Job.Need.B, .int .i64 x.Job.Need.C, .int .i64 x.Job.Lic.A, .int .i64 x.Job.Lic.B, .int .i64 x.Job.Lic.C, .int .i64 x.Job.Wall, .int .i64 x.Job.Level, .int .i64 x.At, .slice A x.Nodes.length c] 64)) (w.heap.size + 1) (by simp) [.int .i64 x.Job.Id, .int .i64 x.Job.Prio, .int .i64 x.Job.Nodes, .int .i64 x.Job.Need.A, .int .i64 x.Job.Need.B, .int .i64 x.Job.Need.C, .int .i64 x.Job.Lic.A, .int .i64 x.Job.Lic.B, .int .i64 x.Job.Lic.C, .int .i64 x.Job.Wall, .int .i64 x.Job.Level, .int .i64 x.At, .slice B x.Nodes.length d] 64 12 _ rfl)
  have al := lt_of_cell a11
  have bl := lt_of_cell b11
  go_wp2_with fail
  refine (HN.out _ hx1).mono ?_
  rintro e w2 ⟨rfl, hb2⟩
  clear a11 a12 b11 b12
  go_wp2
  exact ret_bool rfl rfl rfl rfl (hx1.trans hb2)
set_option maxHeartbeats 4000000 in
set_option maxRecDepth 8000 in
theorem eqRunS_t (xs : List Run) (A A' : Option Addr) (n c c' : Nat) (w : World) (h1 : SlAt RRun 13 w A n xs) (h2 : SlAt RRun 13 w A' n xs) (hl : n ≤ maxLen) : Calls Tryz.prog 37 #[.slice A n c, .slice A' n c'] w (Ret w (.bool true)) := by
  unfold maxLen at hl
  go_enter Tryz.func37, Tryz.ntmps37
  go_wp2
  go_loopw [5] (fun i wr => ∃ k : Nat, k ≤ n ∧ i = .int .i64 k ∧ Ext w wr) (fun i _ => n - (intOf i).toNat)
  case atStart => exact ⟨0, Nat.zero_le _, rfl, Ext.refl _⟩
  case round =>
    obtain ⟨k, hk, rfl, hb⟩ := hrel
    by_cases hlt : k < n
    · obtain ⟨b, o, x, cs, rfl, hbw, hx, _, hc, A1, c1, rfl, hsl, hcp, hml, hf, hj⟩ := (h1.ext RRun.mono hb).at_ hlt
      obtain ⟨b', o', y, cs', rfl, hbw', hy, _, hc', A2, c2, rfl, hsl', _, _, _, _⟩ := (h2.ext RRun.mono hb).at_ hlt
      rw [hx] at hy; injection hy with hy; subst hy
      have g0 := hc 0 _ rfl
      have g1 := hc 1 _ rfl
      have g2 := hc 2 _ rfl
      have g3 := hc 3 _ rfl
      have g4 := hc 4 _ rfl
      have g5 := hc 5 _ rfl
      have g6 := hc 6 _ rfl
      have g7 := hc 7 _ rfl
      have g8 := hc 8 _ rfl
      have g9 := hc 9 _ rfl
      have g10 := hc 10 _ rfl
      have g11 := hc 11 _ rfl
      have g12 := hc 12 _ rfl
      simp only [Nat.add_zero] at g0
      have d0 := hc' 0 _ rfl
      have d1 := hc' 1 _ rfl
      have d2 := hc' 2 _ rfl
      have d3 := hc' 3 _ rfl
      have d4 := hc' 4 _ rfl
      have d5 := hc' 5 _ rfl
      have d6 := hc' 6 _ rfl
      have d7 := hc' 7 _ rfl
      have d8 := hc' 8 _ rfl
      have d9 := hc' 9 _ rfl
      have d10 := hc' 10 _ rfl
      have d11 := hc' 11 _ rfl
      have d12 := hc' 12 _ rfl
      simp only [Nat.add_zero] at d0
      have HB := Lib.hid hb
      have HC := Lib.hid (fun (u : World) (e : Ext wr u) => eqRun_t x A1 c1 A2 c2 u (hsl.ext (Flat.mono _ _) e) (hsl'.ext (Flat.mono _ _) e) (by unfold maxLen; omega))
      have hcx := @Later.cell wr
      clear hc hc' hsl hsl' hml hcp hf hj hx h1 h2 hb
      go_wp2
      refine wp_region_ext (by kernel_rfl) (by kernel_rfl) ?_
      repeat (go_big_quiet_step ((go_at_call 70; exact Calls.quiet_ext ((HC.out _ (Later.ext _))))))
      refine wpQuiet_nil ?_
      intro w1 hb1
      have HB1 := Lib.hid hb1
      clear hcx g0 d0 g1 d1 g2 d2 g3 d3 g4 d4 g5 d5 g6 d6 g7 d7 g8 d8 g9 d9 g10 d10 g11 d11 g12 d12 hb1
      go_wp2
      go_roundw
      case rel => exact ⟨k + 1, by omega, by go_num, HB.out.trans HB1.out⟩
      case measure => simp [intOf]; omega
    · clear h1 h2
      go_wp2
      exact ret_bool rfl rfl rfl rfl hb
set_option maxHeartbeats 8000000 in
set_option maxRecDepth 8000 in
theorem eqState_t (x : State) (v v' : Value) (w : World) (h : StateAt w x v) (h' : StateAt w x v') (hs : stateLen x) : Calls Tryz.prog 11 #[v, v'] w (Ret w (.bool true)) := by
  obtain ⟨hl1, hl2, hl3, hl6, hl7, hl8⟩ := hs
  obtain ⟨A1, c1, A2, c2, A3, c3, A6, c6, A7, c7, A8, c8, rfl, h1, h2, h3, h6, h7, h8⟩ := h
  obtain ⟨B1, d1, B2, d2, B3, d3, B6, d6, B7, d7, B8, d8, rfl, k1, k2, k3, k6, k7, k8⟩ := h'
  have HT := Lib.hid (fun (u : World) (e : Ext w u) => eqTopo_t x.Topo A1 c1 A2 c2 B1 d1 B2 d2 u (h1.ext (Flat.mono _ _) e) (h2.ext (Flat.mono _ _) e) (k1.ext (Flat.mono _ _) e) (k2.ext (Flat.mono _ _) e) (by unfold maxLen; omega) (by unfold maxLen; omega))
  have HU := Lib.hid (fun (u : World) (e : Ext w u) => eqBoolS_t x.Up A3 B3 x.Up.length c3 d3 u (h3.ext (Flat.mono _ _) e) (k3.ext (Flat.mono _ _) e) (by unfold maxLen; omega))
  have HV := Lib.hid (fun (u : World) => show Calls Tryz.prog 35 #[.agg #[.int .i64 x.Lic.A, .int .i64 x.Lic.B, .int .i64 x.Lic.C], .agg #[.int .i64 x.Lic.A, .int .i64 x.Lic.B, .int .i64 x.Lic.C]] u (Ret u (.bool true)) from by have := eqVec_c x.Lic x.Lic u; rw [decide_eq_true rfl] at this; exact this)
  have HQ := Lib.hid (fun (u : World) (e : Ext w u) => show Calls Tryz.prog 36 #[.slice A6 x.Queue.length c6, .slice B6 x.Queue.length d6] u (Ret u (.bool true)) from by have := eqJobS_c x.Queue x.Queue A6 B6 x.Queue.length c6 x.Queue.length d6 u (h6.ext (Flat.mono _ _) e) (k6.ext (Flat.mono _ _) e) (by unfold maxLen; omega); rw [decide_eq_true rfl] at this; exact this)
  have HR := Lib.hid (fun (u : World) (e : Ext w u) => eqRunS_t x.Runs A7 B7 x.Runs.length c7 d7 u (h7.ext RRun.mono e) (k7.ext RRun.mono e) (by unfold maxLen; omega))
  have HE := Lib.hid (fun (u : World) (e : Ext w u) => show Calls Tryz.prog 38 #[.slice A8 x.Ends.length c8, .slice B8 x.Ends.length d8] u (Ret u (.bool true)) from by have := eqEndS_c x.Ends x.Ends A8 B8 x.Ends.length c8 x.Ends.length d8 u (h8.ext (Flat.mono _ _) e) (k8.ext (Flat.mono _ _) e) (by unfold maxLen; omega); rw [decide_eq_true rfl] at this; exact this)
  have HA := Lib.hid (fun (j : Nat) (u : Value) (q : World) (e : Ext ((w.alloc (.cells #[.slice A1 x.Topo.Parents.length c1, .slice A2 x.Topo.Nodes.length c2, .slice A3 x.Up.length c3, .int .i64 x.Lic.A, .int .i64 x.Lic.B, .int .i64 x.Lic.C, .int .i64 x.Depth, .int .i64 x.Now, .slice A6 x.Queue.length c6, .slice A7 x.Runs.length c7, .slice A8 x.Ends.length c8] 44)).alloc (.cells #[.slice B1 x.Topo.Parents.length d1, .slice B2 x.Topo.Nodes.length d2, .slice B3 x.Up.length d3, .int .i64 x.Lic.A, .int .i64 x.Lic.B, .int .i64 x.Lic.C, .int .i64 x.Depth, .int .i64 x.Now, .slice B6 x.Queue.length d6, .slice B7 x.Runs.length d7, .slice B8 x.Ends.length d8] 44)) q) (hu : [.slice A1 x.Topo.Parents.length c1, .slice A2 x.Topo.Nodes.length c2, .slice A3 x.Up.length c3, .int .i64 x.Lic.A, .int .i64 x.Lic.B, .int .i64 x.Lic.C, .int .i64 x.Depth, .int .i64 x.Now, .slice A6 x.Queue.length c6, .slice A7 x.Runs.length c7, .slice A8 x.Ends.length c8][j]? = some u) => (((Ext.refl _).alloc _).trans e).cell (law_box w _ 44 j u hu))
  have HB := Lib.hid (fun (j : Nat) (u : Value) (q : World) (e : Ext ((w.alloc (.cells #[.slice A1 x.Topo.Parents.length c1, .slice A2 x.Topo.Nodes.length c2, .slice A3 x.Up.length c3, .int .i64 x.Lic.A, .int .i64 x.Lic.B, .int .i64 x.Lic.C, .int .i64 x.Depth, .int .i64 x.Now, .slice A6 x.Queue.length c6, .slice A7 x.Runs.length c7, .slice A8 x.Ends.length c8] 44)).alloc (.cells #[.slice B1 x.Topo.Parents.length d1, .slice B2 x.Topo.Nodes.length d2, .slice B3 x.Up.length d3, .int .i64 x.Lic.A, .int .i64 x.Lic.B, .int .i64 x.Lic.C, .int .i64 x.Depth, .int .i64 x.Now, .slice B6 x.Queue.length d6, .slice B7 x.Runs.length d7, .slice B8 x.Ends.length d8] 44)) q) (hu : [.slice B1 x.Topo.Parents.length d1, .slice B2 x.Topo.Nodes.length d2, .slice B3 x.Up.length d3, .int .i64 x.Lic.A, .int .i64 x.Lic.B, .int .i64 x.Lic.C, .int .i64 x.Depth, .int .i64 x.Now, .slice B6 x.Queue.length d6, .slice B7 x.Runs.length d7, .slice B8 x.Ends.length d8][j]? = some u) => e.cell (cell_box_at (w.alloc (.cells #[.slice A1 x.Topo.Parents.length c1, .slice A2 x.Topo.Nodes.length c2, .slice A3 x.Up.length c3, .int .i64 x.Lic.A, .int .i64 x.Lic.B, .int .i64 x.Lic.C, .int .i64 x.Depth, .int .i64 x.Now, .slice A6 x.Queue.length c6, .slice A7 x.Runs.length c7, .slice A8 x.Ends.length c8] 44)) (w.heap.size + 1) (by simp) _ 44 j u hu))
  clear h1 h2 h3 h6 h7 h8 k1 k2 k3 k6 k7 k8
  go_enter Tryz.func11, Tryz.ntmps11
  go_wp2_with fail
  refine (HT.out _ ((((Ext.refl w).alloc _).alloc _))).mono ?_
  rintro e w1 ⟨rfl, hb1⟩
  have HX1 := Lib.hid (show Ext w w1 from (((Ext.refl w).alloc _).alloc _).trans hb1)
  have HY1 := Lib.hid (show Ext ((w.alloc (.cells #[.slice A1 x.Topo.Parents.length c1, .slice A2 x.Topo.Nodes.length c2, .slice A3 x.Up.length c3, .int .i64 x.Lic.A, .int .i64 x.Lic.B, .int .i64 x.Lic.C, .int .i64 x.Depth, .int .i64 x.Now, .slice A6 x.Queue.length c6, .slice A7 x.Runs.length c7, .slice A8 x.Ends.length c8] 44)).alloc (.cells #[.slice B1 x.Topo.Parents.length d1, .slice B2 x.Topo.Nodes.length d2, .slice B3 x.Up.length d3, .int .i64 x.Lic.A, .int .i64 x.Lic.B, .int .i64 x.Lic.C, .int .i64 x.Depth, .int .i64 x.Now, .slice B6 x.Queue.length d6, .slice B7 x.Runs.length d7, .slice B8 x.Ends.length d8] 44)) w1 from hb1)
  clear hb1 
  have a2 := HA.out 2 _ _ HY1.out rfl
  have b2 := HB.out 2 _ _ HY1.out rfl
  have al := lt_of_cell a2
  have bl := lt_of_cell b2
  go_wp2_with fail
  refine (HU.out _ HX1.out).mono ?_
  rintro e w2 ⟨rfl, hb2⟩
  have HX2 := Lib.hid (show Ext w w2 from HX1.out.trans hb2)
  have HY2 := Lib.hid (show Ext ((w.alloc (.cells #[.slice A1 x.Topo.Parents.length c1, .slice A2 x.Topo.Nodes.length c2, .slice A3 x.Up.length c3, .int .i64 x.Lic.A, .int .i64 x.Lic.B, .int .i64 x.Lic.C, .int .i64 x.Depth, .int .i64 x.Now, .slice A6 x.Queue.length c6, .slice A7 x.Runs.length c7, .slice A8 x.Ends.length c8] 44)).alloc (.cells #[.slice B1 x.Topo.Parents.length d1, .slice B2 x.Topo.Nodes.length d2, .slice B3 x.Up.length d3, .int .i64 x.Lic.A, .int .i64 x.Lic.B, .int .i64 x.Lic.C, .int .i64 x.Depth, .int .i64 x.Now, .slice B6 x.Queue.length d6, .slice B7 x.Runs.length d7, .slice B8 x.Ends.length d8] 44)) w2 from HY1.out.trans hb2)
  clear hb2 a2 b2 al bl
  have a3 := HA.out 3 _ _ HY2.out rfl
  have b3 := HB.out 3 _ _ HY2.out rfl
  have a4 := HA.out 4 _ _ HY2.out rfl
  have b4 := HB.out 4 _ _ HY2.out rfl
  have a5 := HA.out 5 _ _ HY2.out rfl
  have b5 := HB.out 5 _ _ HY2.out rfl
  have al := lt_of_cell a3
  have bl := lt_of_cell b3
  go_wp2_with fail
  refine (HV.out _).mono ?_
  rintro e w3 ⟨rfl, hb3⟩
  have HX3 := Lib.hid (show Ext w w3 from HX2.out.trans hb3)
  have HY3 := Lib.hid (show Ext ((w.alloc (.cells #[.slice A1 x.Topo.Parents.length c1, .slice A2 x.Topo.Nodes.length c2, .slice A3 x.Up.length c3, .int .i64 x.Lic.A, .int .i64 x.Lic.B, .int .i64 x.Lic.C, .int .i64 x.Depth, .int .i64 x.Now, .slice A6 x.Queue.length c6, .slice A7 x.Runs.length c7, .slice A8 x.Ends.length c8] 44)).alloc (.cells #[.slice B1 x.Topo.Parents.length d1, .slice B2 x.Topo.Nodes.length d2, .slice B3 x.Up.length d3, .int .i64 x.Lic.A, .int .i64 x.Lic.B, .int .i64 x.Lic.C, .int .i64 x.Depth, .int .i64 x.Now, .slice B6 x.Queue.length d6, .slice B7 x.Runs.length d7, .slice B8 x.Ends.length d8] 44)) w3 from HY2.out.trans hb3)
  clear hb3 a3 b3 a4 b4 a5 b5 al bl
  have a6 := HA.out 6 _ _ HY3.out rfl
  have b6 := HB.out 6 _ _ HY3.out rfl
  have a7 := HA.out 7 _ _ HY3.out rfl
  have b7 := HB.out 7 _ _ HY3.out rfl
  have a8 := HA.out 8 _ _ HY3.out rfl
  have b8 := HB.out 8 _ _ HY3.out rfl
  have al := lt_of_cell a6
  have bl := lt_of_cell b6
  go_wp2_with fail
  refine (HQ.out _ HX3.out).mono ?_
  rintro e w4 ⟨rfl, hb4⟩
  have HX4 := Lib.hid (show Ext w w4 from HX3.out.trans hb4)
  have HY4 := Lib.hid (show Ext ((w.alloc (.cells #[.slice A1 x.Topo.Parents.length c1, .slice A2 x.Topo.Nodes.length c2, .slice A3 x.Up.length c3, .int .i64 x.Lic.A, .int .i64 x.Lic.B, .int .i64 x.Lic.C, .int .i64 x.Depth, .int .i64 x.Now, .slice A6 x.Queue.length c6, .slice A7 x.Runs.length c7, .slice A8 x.Ends.length c8] 44)).alloc (.cells #[.slice B1 x.Topo.Parents.length d1, .slice B2 x.Topo.Nodes.length d2, .slice B3 x.Up.length d3, .int .i64 x.Lic.A, .int .i64 x.Lic.B, .int .i64 x.Lic.C, .int .i64 x.Depth, .int .i64 x.Now, .slice B6 x.Queue.length d6, .slice B7 x.Runs.length d7, .slice B8 x.Ends.length d8] 44)) w4 from HY3.out.trans hb4)
  clear hb4 a6 b6 a7 b7 a8 b8 al bl
  have a9 := HA.out 9 _ _ HY4.out rfl
  have b9 := HB.out 9 _ _ HY4.out rfl
  have al := lt_of_cell a9
  have bl := lt_of_cell b9
  go_wp2_with fail
  refine (HR.out _ HX4.out).mono ?_
  rintro e w5 ⟨rfl, hb5⟩
  have HX5 := Lib.hid (show Ext w w5 from HX4.out.trans hb5)
  have HY5 := Lib.hid (show Ext ((w.alloc (.cells #[.slice A1 x.Topo.Parents.length c1, .slice A2 x.Topo.Nodes.length c2, .slice A3 x.Up.length c3, .int .i64 x.Lic.A, .int .i64 x.Lic.B, .int .i64 x.Lic.C, .int .i64 x.Depth, .int .i64 x.Now, .slice A6 x.Queue.length c6, .slice A7 x.Runs.length c7, .slice A8 x.Ends.length c8] 44)).alloc (.cells #[.slice B1 x.Topo.Parents.length d1, .slice B2 x.Topo.Nodes.length d2, .slice B3 x.Up.length d3, .int .i64 x.Lic.A, .int .i64 x.Lic.B, .int .i64 x.Lic.C, .int .i64 x.Depth, .int .i64 x.Now, .slice B6 x.Queue.length d6, .slice B7 x.Runs.length d7, .slice B8 x.Ends.length d8] 44)) w5 from HY4.out.trans hb5)
  clear hb5 a9 b9 al bl
  have a10 := HA.out 10 _ _ HY5.out rfl
  have b10 := HB.out 10 _ _ HY5.out rfl
  have al := lt_of_cell a10
  have bl := lt_of_cell b10
  go_wp2_with fail
  refine (HE.out _ HX5.out).mono ?_
  rintro e w6 ⟨rfl, hb6⟩
  have HX6 := Lib.hid (show Ext w w6 from HX5.out.trans hb6)
  have HY6 := Lib.hid (show Ext ((w.alloc (.cells #[.slice A1 x.Topo.Parents.length c1, .slice A2 x.Topo.Nodes.length c2, .slice A3 x.Up.length c3, .int .i64 x.Lic.A, .int .i64 x.Lic.B, .int .i64 x.Lic.C, .int .i64 x.Depth, .int .i64 x.Now, .slice A6 x.Queue.length c6, .slice A7 x.Runs.length c7, .slice A8 x.Ends.length c8] 44)).alloc (.cells #[.slice B1 x.Topo.Parents.length d1, .slice B2 x.Topo.Nodes.length d2, .slice B3 x.Up.length d3, .int .i64 x.Lic.A, .int .i64 x.Lic.B, .int .i64 x.Lic.C, .int .i64 x.Depth, .int .i64 x.Now, .slice B6 x.Queue.length d6, .slice B7 x.Runs.length d7, .slice B8 x.Ends.length d8] 44)) w6 from HY5.out.trans hb6)
  clear hb6 a10 b10 al bl
  go_wp2
  exact ret_bool rfl rfl rfl rfl HX6.out
end Go.Proofs.YtfcffcgdbmkfgaaGreat
