/- What a right state is: plain words. -/
import Derived.Test.YtgmlcohffdeplaaGreatChgLaw
import Derived.Test.YtgmlcohffdeplaaGreatTopo
import Derived.Test.YtgmlcohffdeplaaGreatJob
namespace Go.Proofs.YtgmlcohffdeplaaGreat
open Go.RowKit
set_option linter.unusedVariables false
/-! ### levels -/
theorem topo_parts {ps : List Int} {ns : List Node} (h : topoB ps ns = true) : (1 ≤ ps.length ∧ ps.length ≤ 24) ∧ ns.length ≤ 24 ∧ upGo (ps.drop 1) 1 = true ∧ deepGo ps ps.length 0 (-1) = true ∧ (∀ x ∈ ns, nodeB ps x = true) ∧ ps.getD 0 0 = 0 := by
  unfold topoB at h
  simp only [Bool.and_eq_true, decide_eq_true_iff, List.all_eq_true, beq_iff_eq] at h
  exact ⟨h.1.1, h.1.2.2, h.2.1, h.2.2.1, h.2.2.2, h.1.2.1⟩
def levT (ps : List Int) (s : Nat) : Int := (dep ps (ps.length - 1) : Int) - dep ps s
theorem last_leaf {ps : List Int} (h : upGo (ps.drop 1) 1 = true) (h0 : 0 < ps.length) : leafB ps ((ps.length - 1 : Nat) : Int) = true := by
  unfold leafB
  rw [Bool.not_eq_true', Bool.eq_false_iff]
  intro hc
  rw [List.contains_iff_mem] at hc
  obtain ⟨j, hj⟩ := List.mem_iff_getElem?.1 hc
  have := upGo_at _ 1 h j _ hj
  have h2 := (List.getElem?_eq_some_iff.1 hj).1
  rw [List.length_drop] at h2
  omega
theorem lev_eq {ps : List Int} {ns : List Node} (ht : topoB ps ns = true) {f s : Nat} (hs : s < ps.length) (hf : ps.length - s ≤ f) : levF ps f s = levT ps s := by
  obtain ⟨⟨h1, h2⟩, _, hup, hd, _, _⟩ := topo_parts ht
  have hall := (deep_neg ps ps.length 0).1 hd
  have hl := last_leaf hup (by omega)
  rcases lev_spec hup f s hs hf with ⟨h3, h4, x, h5, h6, h7⟩ | ⟨_, x, y, h3, h4, h5, h6, _, _, h9⟩
  · have e1 := h4 x h5 h6 h7
    have e2 := hall x (ps.length - 1) (Nat.zero_le _) (by omega) (Nat.zero_le _) (by omega) h6 hl
    unfold levT
    omega
  · exact absurd (hall x y (Nat.zero_le _) (by omega) (Nat.zero_le _) (by omega) h5 h6) h9
/-- A switch and all above it. -/
def upL (ps : List Int) (s : Nat) : List Int := if s = 0 then [0] else if parN ps s < s then (s : Int) :: upL ps (parN ps s) else [(s : Int)]
termination_by s
theorem upL_zero (ps : List Int) : upL ps 0 = [0] := by rw [upL]; rfl
theorem upL_succ {ps : List Int} (h : upGo (ps.drop 1) 1 = true) {s : Nat} (h1 : 1 ≤ s) (hs : s < ps.length) : upL ps s = (s : Int) :: upL ps (parN ps s) := by
  rw [upL, if_neg (by omega), if_pos (par_lt h h1 hs).2]
theorem upL_len (ps : List Int) : ∀ s : Nat, (upL ps s).length ≤ s + 1 := by
  intro s
  induction s using Nat.strongRecOn with
  | ind s ih =>
    rw [upL]
    split
    · simp
    · split
      · rename_i hp; have := ih _ hp; simp; omega
      · simp
/-- Whether a switch is above all of some nodes. -/
def overAll (ps : List Int) (ns : List Node) (nodes : List Int) (s : Int) : Bool := nodes.all (fun n => (upL ps ((ns.getD n.toNat ⟨0, ⟨0, 0, 0⟩⟩).Leaf.toNat)).contains s)
def lowGo (ps : List Int) (ns : List Node) (nodes : List Int) : Nat → Nat → Int → Int
  | 0, _, best => best
  | r + 1, s, best => lowGo ps ns nodes r (s + 1) (if (overAll ps ns nodes s && (decide (best < 0) || decide (levT ps s ≤ levT ps best.toNat))) = true then s else best)
def nodesIn (m : Nat) (l : List Int) : Bool := l.all (fun x => withinB x 0 ((m : Int) - 1))
def lowestI (ps : List Int) (ns : List Node) (nodes : List Int) : Int := if (topoB ps ns && nodesIn ns.length nodes && decide (0 < nodes.length)) = true then lowGo ps ns nodes ps.length 0 (-1) else -1
/-! ### rooms -/
def spanT (a b : Int) : Bool := timeB a && timeB b && decide (a < b)
def takeQ (p : List Pt) (fr to : Int) (v : Vec) : Option (List Pt) := if (profB p && spanT fr to && vecB v) = true then takeP p fr to v else none
def takeAll (fr to : Int) (v : Vec) : List Int → List (List Pt) → Option (List (List Pt))
  | [], ps => some ps
  | n :: r, ps => match takeQ (ps.getD n.toNat []) fr to v with
    | none => none
    | some p => takeAll fr to v r (ps.set n.toNat p)
def moveM (fr to : Int) (j : Job) (nodes : List Int) (r : List (List Pt) × List Pt) : Option (List (List Pt) × List Pt) :=
  match takeAll fr to j.Need nodes r.1 with
  | none => none
  | some ps => match takeQ r.2 fr to j.Lic with
    | none => none
    | some l => some (ps, l)
def distGo : List Int → List Int → Bool
  | _, [] => true
  | B, n :: r => !B.contains n && distGo (B ++ [n]) r
def jobNodesB (m : Nat) (j : Job) (nodes : List Int) : Bool := distGo [] nodes && nodesIn m nodes && decide ((nodes.length : Int) = j.Nodes)
def runOkB (m : Nat) (now : Int) (x : Run) : Bool := jobB x.Job && jobNodesB m x.Job x.Nodes && (withinB x.At 0 now && withinB (x.At + x.Job.Wall) (now + 1) 1000000000)
def roomGo (m : Nat) (now : Int) : List Run → List (List Pt) × List Pt → Option (List (List Pt) × List Pt)
  | [], r => some r
  | x :: q, r => if runOkB m now x = true then match moveM now (x.At + x.Job.Wall) x.Job x.Nodes r with
      | none => none
      | some r' => roomGo m now q r'
    else none
def room0 (ns : List Node) (lic : Vec) : List (List Pt) × List Pt := (ns.map (fun n => [⟨0, n.Cap⟩]), [⟨0, lic⟩])
def stateHeadB (s : State) : Bool := topoB s.Topo.Parents s.Topo.Nodes && decide (s.Up.length = s.Topo.Nodes.length) && vecB s.Lic && timeB s.Now
def roomF (s : State) : Option (List (List Pt) × List Pt) := if stateHeadB s = true then roomGo s.Topo.Nodes.length s.Now s.Runs (room0 s.Topo.Nodes s.Lic) else none
/-! ### states -/
def queueGo : List Job → List Job → Bool
  | _, [] => true
  | B, j :: r => jobB j && !B.any (fun k => k.Id == j.Id) && queueGo (B ++ [j]) r
def queueB (l : List Job) : Bool := queueGo [] l && decide (l.length ≤ 60)
def ascGo : List Int → Bool
  | a :: b :: r => decide (a < b) && ascGo (b :: r)
  | _ => true
def runLevB (s : State) (x : Run) : Bool := x.Nodes.all (fun n => s.Up.getD n.toNat false) && ascGo x.Nodes && decide (levT s.Topo.Parents (lowestI s.Topo.Parents s.Topo.Nodes x.Nodes).toNat ≤ x.Job.Level)
def endB (now : Int) (e : End) : Bool := withinB e.Id 1 999 && withinB e.At 0 now && withinB e.Why 1 4
def stateB (s : State) : Bool := (roomF s).isSome && withinB s.Depth 0 60 && queueB (s.Queue ++ s.Runs.map Run.Job) && decide (s.Ends.length ≤ 300) && s.Runs.all (runLevB s) && s.Ends.all (endB s.Now)
/-- A room whose profiles are right. -/
def roomOkM (m : Nat) (r : List (List Pt) × List Pt) : Prop := r.1.length = m ∧ (∀ p ∈ r.1, profB p = true) ∧ profB r.2 = true
theorem timesL_head {l : List Pt} {fr to : Int} (hl : profB l = true) (hs : timeB fr = true ∧ timeB to = true ∧ fr < to) : ∃ r, timesL l fr to = 0 :: r := by
  obtain ⟨_, _, ⟨x, r, rfl, hx⟩, hp, hall⟩ := profB_parts hl
  have hsort := timesL_sorted fr to hp
  have hmem0 : (0 : Int) ∈ timesL (x :: r) fr to := timesL_mem.2 (.inr (.inr ⟨x, List.mem_cons_self .., hx⟩))
  cases ht : timesL (x :: r) fr to with
  | nil => rw [ht] at hmem0; cases hmem0
  | cons a q =>
    rw [ht] at hmem0 hsort
    have ha : 0 ≤ a := by
      have hm : a ∈ timesL (x :: r) fr to := by rw [ht]; exact List.mem_cons_self ..
      obtain ⟨h1, h2, _⟩ := hs
      unfold timeB at h1 h2
      rw [decide_eq_true_iff] at h1 h2
      rcases timesL_mem.1 hm with rfl | rfl | ⟨y, hy, rfl⟩
      · exact h2.1
      · exact h1.1
      · exact (ptB_parts (hall y hy)).1.1
    rcases List.mem_cons.1 hmem0 with h0 | h0
    · exact ⟨q, by rw [h0]⟩
    · have := (List.pairwise_cons.1 hsort).1 0 h0
      omega
theorem timesL_time {l : List Pt} {fr to : Int} (hl : profB l = true) (hs : timeB fr = true ∧ timeB to = true ∧ fr < to) : ∀ t ∈ timesL l fr to, timeB t = true := by
  obtain ⟨_, _, _, _, hall⟩ := profB_parts hl
  intro t ht
  rcases timesL_mem.1 ht with rfl | rfl | ⟨y, hy, rfl⟩
  · exact hs.2.1
  · exact hs.1
  · have := (ptB_parts (hall y hy)).1
    unfold timeB; rw [decide_eq_true_iff]; exact this
theorem free_vec {l : List Pt} (hl : profB l = true) (t : Int) : vecB (freeAt l t) = true := by
  obtain ⟨_, _, _, _, hall⟩ := profB_parts hl
  have := freeAt_in hall t
  unfold vecB; rw [decide_eq_true_iff]; exact this
theorem span_parts {a b : Int} (h : spanT a b = true) : timeB a = true ∧ timeB b = true ∧ a < b := by
  unfold spanT at h
  rw [Bool.and_eq_true, Bool.and_eq_true, decide_eq_true_iff] at h
  exact ⟨h.1.1, h.1.2, h.2⟩
theorem takeQ_valid {p o : List Pt} {fr to : Int} {v : Vec} (h : takeQ p fr to v = some o) : profB o = true := by
  unfold takeQ at h
  split at h
  · rename_i hc
    rw [Bool.and_eq_true, Bool.and_eq_true] at hc
    obtain ⟨⟨hp, hs⟩, _⟩ := hc
    have hs' := span_parts hs
    unfold takeP takeG at h
    split at h
    · cases h
    · rename_i o' ho
      split at h
      · rename_i hle
        injection h with h; subst h
        rw [take_valid (fun _ _ _ h => byV_ok h) hp hs' (free_vec hp) (timesL_sorted fr to (profB_parts hp).2.2.2.1) (timesL_time hp hs') (timesL_head hp hs') ho]
        rw [decide_eq_true_iff]; exact hle
      · cases h
  · cases h
theorem takeAll_valid {fr to : Int} {v : Vec} : ∀ (nodes : List Int) (ps qs : List (List Pt)), (∀ p ∈ ps, profB p = true) → takeAll fr to v nodes ps = some qs → qs.length = ps.length ∧ ∀ p ∈ qs, profB p = true := by
  intro nodes
  induction nodes with
  | nil => intro ps qs h e; injection e with e; subst e; exact ⟨rfl, h⟩
  | cons n r ih =>
    intro ps qs h e
    rw [takeAll] at e
    split at e
    · cases e
    · rename_i p hp
      obtain ⟨h1, h2⟩ := ih (ps.set n.toNat p) qs (fun q hq => by
        rcases List.mem_or_eq_of_mem_set hq with hq | rfl
        · exact h q hq
        · exact takeQ_valid hp) e
      exact ⟨by rw [h1, List.length_set], h2⟩
theorem moveM_valid {m : Nat} {fr to : Int} {j : Job} {nodes : List Int} {r r' : List (List Pt) × List Pt} (h : roomOkM m r) (e : moveM fr to j nodes r = some r') : roomOkM m r' := by
  unfold moveM at e
  split at e
  · cases e
  · rename_i ps hp
    split at e
    · cases e
    · rename_i l hl
      injection e with e; subst e
      obtain ⟨h1, h2⟩ := takeAll_valid _ _ _ h.2.1 hp
      exact ⟨by rw [h1]; exact h.1, h2, takeQ_valid hl⟩
theorem prof_one {v : Vec} (h : vecB v = true) : profB [⟨0, v⟩] = true := by
  unfold profB
  simp [chainGo, ptB, h, timeB]
theorem room0_ok {ps : List Int} {ns : List Node} {lic : Vec} (ht : topoB ps ns = true) (hl : vecB lic = true) : roomOkM ns.length (room0 ns lic) := by
  refine ⟨by unfold room0; simp, fun p hp => ?_, prof_one hl⟩
  unfold room0 at hp
  obtain ⟨n, hn, rfl⟩ := List.mem_map.1 hp
  have := (topo_parts ht).2.2.2.2.1 n hn
  unfold nodeB at this
  simp only [Bool.and_eq_true] at this
  exact prof_one this.2.2
end Go.Proofs.YtgmlcohffdeplaaGreat
