/- Job, StateLaw, AppR, GRow, ProfF. -/
import Derived.Test.YtfanjhcdjbnnnaaGreatK01
import Derived.Test.YtfanjhcdjbnnnaaGreatK03
import Derived.Test.YtfanjhcdjbnnnaaGreatK02
import Derived.Deep.RegionHeld3
import Derived.Deep.AppendLies
namespace Go.Proofs.YtfanjhcdjbnnnaaGreat
set_option maxHeartbeats 4000000
set_option maxRecDepth 10000
open Go.RowKit
theorem vecB_iffJ (v : Vec) : vecB v = true ↔ (0 ≤ v.A ∧ v.A ≤ 1000000) ∧ (0 ≤ v.B ∧ v.B ≤ 1000000) ∧ (0 ≤ v.C ∧ v.C ≤ 1000000) := by unfold vecB;rw [decide_eq_true_iff]
def jobB (j : Job) : Bool := decide ((1 ≤ j.Id ∧ j.Id ≤ 999) ∧ (0 ≤ j.Prio ∧ j.Prio ≤ 999) ∧ (1 ≤ j.Nodes ∧ j.Nodes ≤ 24) ∧ (1 ≤ j.Wall ∧ j.Wall ≤ 1000000) ∧ (0 ≤ j.Level ∧ j.Level ≤ 24)) && (vecB j.Need && vecB j.Lic)
theorem jobB_iff (j : Job) : jobB j = true ↔ ((1 ≤ j.Id ∧ j.Id ≤ 999) ∧ (0 ≤ j.Prio ∧ j.Prio ≤ 999) ∧ (1 ≤ j.Nodes ∧ j.Nodes ≤ 24) ∧ (1 ≤ j.Wall ∧ j.Wall ≤ 1000000) ∧ (0 ≤ j.Level ∧ j.Level ≤ 24)) ∧ ((0 ≤ j.Need.A ∧ j.Need.A ≤ 1000000) ∧ (0 ≤ j.Need.B ∧ j.Need.B ≤ 1000000) ∧ (0 ≤ j.Need.C ∧ j.Need.C ≤ 1000000)) ∧ ((0 ≤ j.Lic.A ∧ j.Lic.A ≤ 1000000) ∧ (0 ≤ j.Lic.B ∧ j.Lic.B ≤ 1000000) ∧ (0 ≤ j.Lic.C ∧ j.Lic.C ≤ 1000000)) := by
 unfold jobB;rw [Bool.and_eq_true,Bool.and_eq_true,decide_eq_true_iff,vecB_iffJ,vecB_iffJ]
theorem JobOk_c (x : Job) (w : World) : Calls Tryz.prog 47 #[.agg #[.int .i64 x.Id,.int .i64 x.Prio,.int .i64 x.Nodes,.int .i64 x.Need.A,.int .i64 x.Need.B,.int .i64 x.Need.C,.int .i64 x.Lic.A,.int .i64 x.Lic.B,.int .i64 x.Lic.C,.int .i64 x.Wall,.int .i64 x.Level]] w (Ret w (.bool (jobB x))) := by
 go_enter Tryz.func47,Tryz.ntmps47
 go_wp2
 all_goals (refine ret_bool rfl rfl rfl ?_ Ext.go)
 all_goals (rw [Bool.eq_iff_iff,jobB_iff];simp;omega)
theorem sJobOk_c (x : Job) (w : World) : Calls Tryz.prog 61 #[.agg #[.int .i64 x.Id,.int .i64 x.Prio,.int .i64 x.Nodes,.int .i64 x.Need.A,.int .i64 x.Need.B,.int .i64 x.Need.C,.int .i64 x.Lic.A,.int .i64 x.Lic.B,.int .i64 x.Lic.C,.int .i64 x.Wall,.int .i64 x.Level]] w (Ret w (.bool (jobB x))) := by
 go_enter Tryz.func61,Tryz.ntmps61
 go_wp2
 all_goals (refine ret_bool rfl rfl rfl ?_ Ext.go)
 all_goals (rw [Bool.eq_iff_iff,jobB_iff];simp;omega)
end Go.Proofs.YtfanjhcdjbnnnaaGreat
namespace Go.Proofs.YtfanjhcdjbnnnaaGreat
open Go.RowKit
set_option linter.unusedVariables false
set_option maxHeartbeats 4000000
set_option maxRecDepth 10000
theorem topo_parts {ps : List Int} {ns : List Node} (h : topoB ps ns = true) : (1 ≤ ps.length ∧ ps.length ≤ 24) ∧ ns.length ≤ 24 ∧ upGo (ps.drop 1) 1 = true ∧ deepGo ps ps.length 0 (-1) = true ∧ (∀ x ∈ ns,nodeB ps x = true) ∧ ps.getD 0 0 = 0 := by
 unfold topoB at h
 simp only [Bool.and_eq_true,decide_eq_true_iff,List.all_eq_true,beq_iff_eq] at h
 exact ⟨h.1.1,h.1.2.2,h.2.1,h.2.2.1,h.2.2.2,h.1.2.1⟩
def levT (ps : List Int) (s : Nat) : Int := (dep ps (ps.length - 1) : Int) - dep ps s
theorem last_leaf {ps : List Int} (h : upGo (ps.drop 1) 1 = true) (h0 : 0 < ps.length) : leafB ps ((ps.length - 1 : Nat) : Int) = true := by
 unfold leafB
 rw [Bool.not_eq_true',Bool.eq_false_iff]
 intro hc
 rw [List.contains_iff_mem] at hc
 obtain ⟨j,hj⟩ := List.mem_iff_getElem?.1 hc
 have := upGo_at _ 1 h j _ hj
 have h2 := (List.getElem?_eq_some_iff.1 hj).1
 rw [List.length_drop] at h2
 omega
theorem lev_eq {ps : List Int} {ns : List Node} (ht : topoB ps ns = true) {f s : Nat} (hs : s < ps.length) (hf : ps.length - s ≤ f) : levF ps f s = levT ps s := by
 obtain ⟨⟨h1,h2⟩,_,hup,hd,_,_⟩ := topo_parts ht
 have hall := (deep_neg ps ps.length 0).1 hd
 have hl := last_leaf hup (by omega)
 rcases lev_spec hup f s hs hf with ⟨h3,h4,x,h5,h6,h7⟩ | ⟨_,x,y,h3,h4,h5,h6,_,_,h9⟩
 ·have e1 := h4 x h5 h6 h7
  have e2 := hall x (ps.length - 1) (Nat.zero_le _) (by omega) (Nat.zero_le _) (by omega) h6 hl
  unfold levT
  omega
 ·exact absurd (hall x y (Nat.zero_le _) (by omega) (Nat.zero_le _) (by omega) h5 h6) h9
def upL (ps : List Int) (s : Nat) : List Int := if s = 0 then [0] else if parN ps s < s then (s : Int) :: upL ps (parN ps s) else [(s : Int)]
termination_by s
theorem upL_zero (ps : List Int) : upL ps 0 = [0] := by rw [upL];rfl
theorem upL_succ {ps : List Int} (h : upGo (ps.drop 1) 1 = true) {s : Nat} (h1 : 1 ≤ s) (hs : s < ps.length) : upL ps s = (s : Int) :: upL ps (parN ps s) := by
 rw [upL,if_neg (by omega),if_pos (par_lt h h1 hs).2]
theorem upL_len (ps : List Int) : ∀ s : Nat,(upL ps s).length ≤ s + 1 := by
 intro s
 induction s using Nat.strongRecOn with
 | ind s ih =>
  rw [upL]
  split
  ·simp
  ·split
   ·rename_i hp;have := ih _ hp;simp;omega
   ·simp
def overAll (ps : List Int) (ns : List Node) (nodes : List Int) (s : Int) : Bool := nodes.all (fun n => (upL ps ((ns.getD n.toNat ⟨0,⟨0,0,0⟩⟩).Leaf.toNat)).contains s)
def lowGo (ps : List Int) (ns : List Node) (nodes : List Int) : Nat → Nat → Int → Int
 | 0,_,best => best
 | r + 1,s,best => lowGo ps ns nodes r (s + 1) (if (overAll ps ns nodes s && (decide (best < 0) || decide (levT ps s ≤ levT ps best.toNat))) = true then s else best)
def nodesIn (m : Nat) (l : List Int) : Bool := l.all (fun x => withinB x 0 ((m : Int) - 1))
def lowestI (ps : List Int) (ns : List Node) (nodes : List Int) : Int := if (topoB ps ns && nodesIn ns.length nodes && decide (0 < nodes.length)) = true then lowGo ps ns nodes ps.length 0 (-1) else -1
def spanT (a b : Int) : Bool := timeB a && timeB b && decide (a < b)
def takeQ (p : List Pt) (fr to : Int) (v : Vec) : Option (List Pt) := if (profB p && spanT fr to && vecB v) = true then takeP p fr to v else none
def takeAll (fr to : Int) (v : Vec) : List Int → List (List Pt) → Option (List (List Pt))
 | [],ps => some ps
 | n :: r,ps => match takeQ (ps.getD n.toNat []) fr to v with
  | none => none
  | some p => takeAll fr to v r (ps.set n.toNat p)
def moveM (fr to : Int) (j : Job) (nodes : List Int) (r : List (List Pt) × List Pt) : Option (List (List Pt) × List Pt) :=
 match takeAll fr to j.Need nodes r.1 with
 | none => none
 | some ps => match takeQ r.2 fr to j.Lic with
  | none => none
  | some l => some (ps,l)
def distGo : List Int → List Int → Bool
 | _,[] => true
 | B,n :: r => !B.contains n && distGo (B ++ [n]) r
def jobNodesB (m : Nat) (j : Job) (nodes : List Int) : Bool := distGo [] nodes && nodesIn m nodes && decide ((nodes.length : Int) = j.Nodes)
def runOkB (m : Nat) (now : Int) (x : Run) : Bool := jobB x.Job && jobNodesB m x.Job x.Nodes && (withinB x.At 0 now && withinB (x.At + x.Job.Wall) (now + 1) 1000000000)
def roomGo (m : Nat) (now : Int) : List Run → List (List Pt) × List Pt → Option (List (List Pt) × List Pt)
 | [],r => some r
 | x :: q,r => if runOkB m now x = true then match moveM now (x.At + x.Job.Wall) x.Job x.Nodes r with
   | none => none
   | some r' => roomGo m now q r'
  else none
def room0 (ns : List Node) (lic : Vec) : List (List Pt) × List Pt := (ns.map (fun n => [⟨0,n.Cap⟩]),[⟨0,lic⟩])
def stateHeadB (s : State) : Bool := topoB s.Topo.Parents s.Topo.Nodes && decide (s.Up.length = s.Topo.Nodes.length) && vecB s.Lic && timeB s.Now
def roomF (s : State) : Option (List (List Pt) × List Pt) := if stateHeadB s = true then roomGo s.Topo.Nodes.length s.Now s.Runs (room0 s.Topo.Nodes s.Lic) else none
def queueGo : List Job → List Job → Bool
 | _,[] => true
 | B,j :: r => jobB j && !B.any (fun k => k.Id == j.Id) && queueGo (B ++ [j]) r
def queueB (l : List Job) : Bool := queueGo [] l && decide (l.length ≤ 60)
def ascGo : List Int → Bool
 | a :: b :: r => decide (a < b) && ascGo (b :: r)
 | _ => true
def runLevB (s : State) (x : Run) : Bool := x.Nodes.all (fun n => s.Up.getD n.toNat false) && ascGo x.Nodes && decide (levT s.Topo.Parents (lowestI s.Topo.Parents s.Topo.Nodes x.Nodes).toNat ≤ x.Job.Level)
def endB (now : Int) (e : End) : Bool := withinB e.Id 1 999 && withinB e.At 0 now && withinB e.Why 1 4
def stateB (s : State) : Bool := (roomF s).isSome && withinB s.Depth 0 60 && queueB (s.Queue ++ s.Runs.map Run.Job) && decide (s.Ends.length ≤ 300) && s.Runs.all (runLevB s) && s.Ends.all (endB s.Now)
def roomOkM (m : Nat) (r : List (List Pt) × List Pt) : Prop := r.1.length = m ∧ (∀ p ∈ r.1,profB p = true) ∧ profB r.2 = true
theorem timesL_head {l : List Pt} {fr to : Int} (hl : profB l = true) (hs : timeB fr = true ∧ timeB to = true ∧ fr < to) : ∃ r,timesL l fr to = 0 :: r := by
 obtain ⟨_,_,⟨x,r,rfl,hx⟩,hp,hall⟩ := profB_parts hl
 have hsort := timesL_sorted fr to hp
 have hmem0 : (0 : Int) ∈ timesL (x :: r) fr to := timesL_mem.2 (.inr (.inr ⟨x,List.mem_cons_self ..,hx⟩))
 cases ht : timesL (x :: r) fr to with
 | nil => rw [ht] at hmem0;cases hmem0
 | cons a q =>
  rw [ht] at hmem0 hsort
  have ha : 0 ≤ a := by
   have hm : a ∈ timesL (x :: r) fr to := by rw [ht];exact List.mem_cons_self ..
   obtain ⟨h1,h2,_⟩ := hs
   unfold timeB at h1 h2
   rw [decide_eq_true_iff] at h1 h2
   rcases timesL_mem.1 hm with rfl | rfl | ⟨y,hy,rfl⟩
   ·exact h2.1
   ·exact h1.1
   ·exact (ptB_parts (hall y hy)).1.1
  rcases List.mem_cons.1 hmem0 with h0 | h0
  ·exact ⟨q,by rw [h0]⟩
  ·have := (List.pairwise_cons.1 hsort).1 0 h0
   omega
theorem timesL_time {l : List Pt} {fr to : Int} (hl : profB l = true) (hs : timeB fr = true ∧ timeB to = true ∧ fr < to) : ∀ t ∈ timesL l fr to,timeB t = true := by
 obtain ⟨_,_,_,_,hall⟩ := profB_parts hl
 intro t ht
 rcases timesL_mem.1 ht with rfl | rfl | ⟨y,hy,rfl⟩
 ·exact hs.2.1
 ·exact hs.1
 ·have := (ptB_parts (hall y hy)).1
  unfold timeB;rw [decide_eq_true_iff];exact this
theorem free_vec {l : List Pt} (hl : profB l = true) (t : Int) : vecB (freeAt l t) = true := by
 obtain ⟨_,_,_,_,hall⟩ := profB_parts hl
 have := freeAt_in hall t
 unfold vecB;rw [decide_eq_true_iff];exact this
theorem span_parts {a b : Int} (h : spanT a b = true) : timeB a = true ∧ timeB b = true ∧ a < b := by
 unfold spanT at h
 rw [Bool.and_eq_true,Bool.and_eq_true,decide_eq_true_iff] at h
 exact ⟨h.1.1,h.1.2,h.2⟩
theorem takeQ_valid {p o : List Pt} {fr to : Int} {v : Vec} (h : takeQ p fr to v = some o) : profB o = true := by
 unfold takeQ at h
 split at h
 ·rename_i hc
  rw [Bool.and_eq_true,Bool.and_eq_true] at hc
  obtain ⟨⟨hp,hs⟩,_⟩ := hc
  have hs' := span_parts hs
  unfold takeP takeG at h
  split at h
  ·cases h
  ·rename_i o' ho
   split at h
   ·rename_i hle
    injection h with h;subst h
    rw [take_valid (fun _ _ _ h => byV_ok h) hp hs' (free_vec hp) (timesL_sorted fr to (profB_parts hp).2.2.2.1) (timesL_time hp hs') (timesL_head hp hs') ho]
    rw [decide_eq_true_iff];exact hle
   ·cases h
 ·cases h
theorem takeAll_valid {fr to : Int} {v : Vec} : ∀ (nodes : List Int) (ps qs : List (List Pt)),(∀ p ∈ ps,profB p = true) → takeAll fr to v nodes ps = some qs → qs.length = ps.length ∧ ∀ p ∈ qs,profB p = true := by
 intro nodes
 induction nodes with
 | nil => intro ps qs h e;injection e with e;subst e;exact ⟨rfl,h⟩
 | cons n r ih =>
  intro ps qs h e
  rw [takeAll] at e
  split at e
  ·cases e
  ·rename_i p hp
   obtain ⟨h1,h2⟩ := ih (ps.set n.toNat p) qs (fun q hq => by
    rcases List.mem_or_eq_of_mem_set hq with hq | rfl
    ·exact h q hq
    ·exact takeQ_valid hp) e
   exact ⟨by rw [h1,List.length_set],h2⟩
theorem moveM_valid {m : Nat} {fr to : Int} {j : Job} {nodes : List Int} {r r' : List (List Pt) × List Pt} (h : roomOkM m r) (e : moveM fr to j nodes r = some r') : roomOkM m r' := by
 unfold moveM at e
 split at e
 ·cases e
 ·rename_i ps hp
  split at e
  ·cases e
  ·rename_i l hl
   injection e with e;subst e
   obtain ⟨h1,h2⟩ := takeAll_valid _ _ _ h.2.1 hp
   exact ⟨by rw [h1];exact h.1,h2,takeQ_valid hl⟩
theorem prof_one {v : Vec} (h : vecB v = true) : profB [⟨0,v⟩] = true := by
 unfold profB
 simp [chainGo,ptB,h,timeB]
theorem room0_ok {ps : List Int} {ns : List Node} {lic : Vec} (ht : topoB ps ns = true) (hl : vecB lic = true) : roomOkM ns.length (room0 ns lic) := by
 refine ⟨by unfold room0;simp,fun p hp => ?_,prof_one hl⟩
 unfold room0 at hp
 obtain ⟨n,hn,rfl⟩ := List.mem_map.1 hp
 have := (topo_parts ht).2.2.2.2.1 n hn
 unfold nodeB at this
 simp only [Bool.and_eq_true] at this
 exact prof_one this.2.2
def rowsApart (a b : Option Nat) : Prop := ∀ k,a = some k → b ≠ some k
theorem rowsApart.symm {a b : Option Nat} (h : rowsApart a b) : rowsApart b a := fun k hb ha => h k ha hb
theorem rowsApart.new {w : World} {base n : Nat} {e : TypeId} {sz : Nat} {v : Value} {L : List Value} (h : w.ownsRow base e sz v n L) {b : Option Nat} (hb : ∀ q,b = some q → w.heap.size ≤ q) : rowsApart v.ownBlock b := fun k hk hk' => by
 have h1 := (h.lt k hk).2;have h2 := hb k hk';omega
structure AppR (w w' : World) (base : Nat) (e : TypeId) (size : Nat) (v : Value) (A' : Option Addr) (n' c' : Nat) (L' : List Value) : Prop where
 row : w'.ownsRow base e size (.slice A' n' c') n' L'
 os : w'.os = w.os
 tape : w'.tape = w.tape
 output : w'.output = w.output
 size : w.heap.size ≤ w'.heap.size
 kept : ∀ b,b < w.heap.size → v.ownBlock ≠ some b → w'.heap[b]? = w.heap[b]?
 fresh : ∀ q,(Value.slice A' n' c').ownBlock = some q → v.ownBlock = some q ∨ w.heap.size ≤ q
section
variable {w w' : World} {base : Nat} {e : TypeId} {size : Nat} {v : Value} {A' : Option Addr} {n' c' : Nat} {L' : List Value}
theorem AppR.other (h : AppR w w' base e size v A' n' c' L') {base2 n2 : Nat} {e2 : TypeId} {sz2 : Nat} {v2 : Value} {L2 : List Value} (h2 : w.ownsRow base2 e2 sz2 v2 n2 L2) (ha : rowsApart v2.ownBlock v.ownBlock) : w'.ownsRow base2 e2 sz2 v2 n2 L2 := by
 have hlt := h2.lt
 obtain ⟨h1,h3⟩ := h2
 refine ⟨h1, ?_⟩
 rcases h3 with h3 | ⟨g,cap,cur,rfl,hg,hh,r⟩
 ·exact .inl h3
 ·exact .inr ⟨g,cap,cur,rfl,hg,(h.kept g (hlt g rfl).2 (fun e => ha g rfl e)).trans hh,r⟩
theorem AppR.apart (h : AppR w w' base e size v A' n' c' L') {base2 n2 : Nat} {e2 : TypeId} {sz2 : Nat} {v2 : Value} {L2 : List Value} (h2 : w.ownsRow base2 e2 sz2 v2 n2 L2) (ha : rowsApart v2.ownBlock v.ownBlock) : rowsApart v2.ownBlock (Value.slice A' n' c').ownBlock := fun k hk hk' => by
 rcases h.fresh k hk' with h1 | h1
 ·exact ha k hk h1
 ·have := (h2.lt k hk).2;omega
theorem AppR.cell (h : AppR w w' base e size v A' n' c' L') {b o : Nat} {u : Value} (hc : w.cell? ⟨b,o,none⟩ = some u) (hne : v.ownBlock ≠ some b) : w'.cell? ⟨b,o,none⟩ = some u := by
 rw [World.cell?_of_block (a := ⟨b,o,none⟩) (h.kept b (lt_of_cell hc) hne)];exact hc
theorem AppR.frozen (h : AppR w w' base e size v A' n' c' L') {b o : Nat} {f : Bool} (hc : w.frozen? ⟨b,o,none⟩ = f) (hl : b < w.heap.size) (hne : v.ownBlock ≠ some b) : w'.frozen? ⟨b,o,none⟩ = f := by
 rw [World.frozen?_of_block (a := ⟨b,o,none⟩) (h.kept b hl hne)];exact hc
theorem AppR.turned (h : AppR w w' base e size v A' n' c' L') {lo : Nat} (hlo : ∀ q,v.ownBlock = some q → lo ≤ q) : Turned lo w'.heap.size w w' :=
 ⟨h.os,h.tape,h.output,h.size,fun b hb hr => h.kept b hb (fun e => by have := hlo b e;have := h.size;omega)⟩
end
theorem run_append_r {P : Program} {w : World} {α : Type} {enc : α → List Value} {ok : α → Prop} (t ty : TypeId) (base : Nat) (e : TypeId) (i : TypeInfo) (z : Value) (size bytes : Nat) (v : Value) (n : Nat) (L : List Value) (A : Option Addr) (m c : Nat) (ys : List α)
  (ht : P.underlying t = some (.slice e)) (hi : P.info? e = some i) (hz : i.zero = some z)
  (hsize : i.size = size) (hby : i.bytes = bytes) (hzs : z.cells.size = size) (hsz : 0 < size)
  (hown : w.ownsRow base e size v n L) (hys : SlAt (Flat enc ok) size w A m ys) (hl : ∀ y,(enc y).length = size) (h1 : ∀ y,∀ u ∈ enc y,u.oneCell' = true)
  (h63 : n + m ≤ maxLen) (hbytes : (n + m) * bytes ≤ 140737488355328) (hbw : base ≤ w.heap.size) :
  ∃ A' c' w',(Builtin.append_ #[t,t] ty #[v,.slice A m c]).run P w = .ok (.slice A' (n + m) c') w' ∧ AppR w w' base e size v A' (n + m) c' (L ++ ys.flatMap enc) := by
 have hshape : ∀ {w' : World} {v' : Value} {L' : List Value},w'.ownsRow base e size v' (n + m) L' → ∃ A' c',v' = .slice A' (n + m) c' := by
  intro w' v' L' h'
  rcases h'.2 with ⟨rfl,h0⟩ | ⟨g,cap,cur,rfl,_⟩
  ·exact ⟨none,0,by rw [h0]⟩
  ·exact ⟨_,_,rfl⟩
 rcases A with _ | ad
 ·have h0 : m = 0 := by
   rcases Nat.eq_zero_or_pos m with h0 | h0
   ·exact h0
   ·obtain ⟨b,o,e1,_⟩ := hys.2 h0;cases e1
  subst h0
  have hy : ys = [] := List.eq_nil_of_length_eq_zero hys.1
  subst hy
  have hrun := run_append_of_nil (P := P) w base t ty e i size ht hi v n L hown c
  obtain ⟨A',c',e1⟩ := hshape (show w.ownsRow base e size v (n + 0) L from hown)
  subst e1
  exact ⟨A',c',w,by simpa using hrun,by simpa using hown,rfl,rfl,rfl,Nat.le_refl _,fun _ _ _ => rfl,fun q hq => .inl hq⟩
 ·have hlen : (ys.flatMap enc).length = m * size := by
   rw [← hys.1];clear hys
   induction ys with
   | nil => simp
   | cons y ys ih => rw [List.flatMap_cons,List.length_append,hl,ih,List.length_cons,Nat.add_mul];omega
  have hcells : ∀ j u,(ys.flatMap enc)[j]? = some u → w.cell? (ad.add j) = some u := by
   intro j u hu
   rcases Nat.eq_zero_or_pos m with h0 | h0
   ·subst h0
    have hy : ys = [] := List.eq_nil_of_length_eq_zero hys.1
    subst hy;simp at hu
   ·obtain ⟨b,off,e1,hb,hc⟩ := hys.flatCells hl h0
    injection e1 with e1;subst e1
    have := hc j u hu
    unfold Addr.add;split
    ·rename_i hj;subst hj;exact this
    ·exact this
  obtain ⟨v',w',hr,h2,hg',_,hf⟩ := run_append_own_at (P := P) w base t ty e i z size bytes ht hi hz hsize hby hzs hsz v n L hown ad m c (ys.flatMap enc) hlen hcells (fun u hu => by obtain ⟨y,_,hu⟩ := List.mem_flatMap.1 hu;exact h1 y u hu) h63 hbytes hbw
  obtain ⟨A',c',rfl⟩ := hshape h2
  refine ⟨A',c',w',hr,h2,hg'.os,hg'.tape,hg'.output,hg'.size,fun b hb hv => hg'.block b hb (fun e => hv e.symm),fun q hq => ?_⟩
  rcases hf with hf | hf
  ·exact .inl (hf ▸ hq)
  ·rw [hf] at hq;injection hq with hq;exact .inr (by omega)
theorem wpList_append_r {P : Program} {w : World} {ops : Array Oper} {rest : List Oper} {o : Oper} {a : Act} {Q : Exit → Act → World → Prop} {α : Type} {enc : α → List Value} {ok : α → Prop} (s x : Operand) (t : TypeId)
  (base : Nat) (e : TypeId) (i : TypeInfo) (z : Value) (size bytes : Nat) (v : Value) (n : Nat) (L : List Value) (A : Option Addr) (m c : Nat) (ys : List α) (hgd : o.guard = none)
  (ho : o.op = .call { callee := .builtin .append,args := #[s,x],argTypes := #[t,t] })
  (ht : P.underlying t = some (.slice e)) (hi : P.info? e = some i) (hz : i.zero = some z)
  (hsize : i.size = size) (hby : i.bytes = bytes) (hzs : z.cells.size = size) (hsz : 0 < size)
  (hs : a.eval s = v) (hown : w.ownsRow base e size v n L)
  (hx : a.eval x = .slice A m c) (hys : SlAt (Flat enc ok) size w A m ys) (hl : ∀ y,(enc y).length = size) (h1 : ∀ y,∀ u ∈ enc y,u.oneCell' = true)
  (h63 : n + m ≤ maxLen) (hbytes : (n + m) * bytes ≤ 140737488355328)
  (hbw : base ≤ w.heap.size)
  (h : ∀ A' c' w',AppR w w' base e size v A' (n + m) c' (L ++ ys.flatMap enc) → wpList P ops Q rest (a.put o.dst (.slice A' (n + m) c')) w') : wpList P ops Q (o :: rest) a w := by
 refine wpList_plain hgd fun K hK => ?_
 obtain ⟨A',c',w',hr,h2⟩ := run_append_r (P := P) t o.type base e i z size bytes v n L A m c ys ht hi hz hsize hby hzs hsz hown hys hl h1 h63 hbytes hbw
 unfold Oper.wp execOp
 simp only [ho,resolve,invoke,builtin,Sem.run_bind,Sem.run_pure,Result.andThen_ok,List.map_toArray,List.map_cons,List.map_nil,hs,hx,hr]
 exact hK _ _ (h A' c' w' h2)
theorem step_append_r {P : Program} {w : World} {α : Type} {enc : α → List Value} {ok : α → Prop} {ops : Array Oper} {o : Oper} {a : Act} {K : Act → World → Prop} {Q : Exit → Act → World → Prop} {E : Prop} (hw : Region.wanted o (yielded ops a.tmps) = true) (s x : Operand) (t : TypeId)
  (ho : o.op = .call { callee := .builtin .append,args := #[s,x],argTypes := #[t,t] })
  (base : Nat) (e : TypeId) (i : TypeInfo) (z : Value) (size bytes : Nat) (ht : P.underlying t = some (.slice e)) (hi : P.info? e = some i) (hz : i.zero = some z)
  (hsize : i.size = size) (hby : i.bytes = bytes) (hzs : z.cells.size = size) (hsz : 0 < size)
  (v : Value) (n : Nat) (L : List Value) (A : Option Addr) (m c : Nat) (ys : List α) (N : Nat) (hN : n + m = N) (hs : a.eval s = v) (hx : a.eval x = .slice A m c)
  (hown : w.ownsRow base e size v n L) (hys : SlAt (Flat enc ok) size w A m ys) (hl : ∀ y,(enc y).length = size) (h1 : ∀ y,∀ u ∈ enc y,u.oneCell' = true)
  (h63 : n + m ≤ maxLen) (hbytes : (n + m) * bytes ≤ 140737488355328) (hbw : base ≤ w.heap.size)
  (h : ∀ A' c' w',AppR w w' base e size v A' N c' (L ++ ys.flatMap enc) → K (a.put o.dst (.slice A' N c')) w') :
  if Region.wanted o (yielded ops a.tmps) = true then Oper.wp P o a w K Q else E := by
 subst hN
 rw [if_pos hw]
 obtain ⟨A',c',w',hr,h2⟩ := run_append_r (P := P) t o.type base e i z size bytes v n L A m c ys ht hi hz hsize hby hzs hsz hown hys hl h1 h63 hbytes hbw
 unfold Oper.wp execOp
 simp only [ho,resolve,invoke,builtin,Sem.run_bind,Sem.run_pure,Result.andThen_ok,List.map_toArray,List.map_cons,List.map_nil,hs,hx,hr]
 exact h A' c' w' h2
theorem sl_one_r {α : Type} {enc : α → List Value} {ok : α → Prop} {sz : Nat} (w : World) (x : α) (e : TypeId) (hsz : (enc x).length = sz) (hx : ok x) : SlAt (Flat enc ok) sz (w.alloc (.cells (enc x).toArray e)) (some ⟨w.heap.size,0,none⟩) 1 [x] := by
 refine ⟨rfl,fun _ => ⟨w.heap.size,0,rfl,by simp,fun k y hy => ?_⟩⟩
 cases k with
 | zero =>
  simp at hy;subst hy
  exact ⟨enc x,hsz,fun j u hu => by rw [show 0 + 0 * sz + j = j by omega];exact law_box w (enc x) e j u hu,rfl,hx⟩
 | succ k => simp at hy
structure GItem where
 pre : List Value
 A : Option Addr
 m : Nat
 c : Nat
 vs : List Value
theorem g_apart {w : World} {lo n lo' n' : Nat} {e e' : TypeId} {sz sz' : Nat} {v v' : Value} {L L' : List Value} (h : w.ownsRow lo e sz v n L) (h' : w.ownsRow lo' e' sz' v' n' L') (hne : e ≠ e') : rowsApart v.ownBlock v'.ownBlock := by
 intro k hk hk'
 rcases h.2 with ⟨rfl,_⟩ | ⟨g,cap,cur,rfl,_,hh,_⟩
 ·cases hk
 rcases h'.2 with ⟨rfl,_⟩ | ⟨g',cap',cur',rfl,_,hh',_⟩
 ·cases hk'
 have e1 : g = k := Option.some.inj hk
 have e2 : g' = k := Option.some.inj hk'
 subst e1 e2
 rw [hh] at hh'
 injection hh' with hh'
 injection hh' with _ h2
 exact hne h2
theorem g_off {w w' : World} {base lo hi : Nat} {e : TypeId} {sz n : Nat} {v : Value} {L : List Value} (h : w.ownsRow base e sz v n L) (ht : Turned lo hi w w') (hd : ∀ q,v.ownBlock = some q → q < lo ∨ hi ≤ q) : w'.ownsRow base e sz v n L := by
 have hlt := h.lt
 obtain ⟨h1,h2⟩ := h
 refine ⟨h1, ?_⟩
 rcases h2 with h2 | ⟨g,cap,cur,rfl,hg,hh,r⟩
 ·exact .inl h2
 ·exact .inr ⟨g,cap,cur,rfl,hg,(ht.block g (hlt g rfl).2 (hd g rfl)).trans hh,r⟩
theorem g_far {w : World} {lo n : Nat} {e : TypeId} {sz : Nat} {v : Value} {L : List Value} {g p : Nat} {u : Value} (h : w.ownsRow lo e sz v n L) (hne : v.ownBlock ≠ some g) : (w.setCell ⟨g,p,none⟩ u).ownsRow lo e sz v n L := by
 obtain ⟨h1,h2⟩ := h
 refine ⟨h1, ?_⟩
 rcases h2 with h2 | ⟨b,cap,cur,rfl,hg,hh,r⟩
 ·exact .inl h2
 ·refine .inr ⟨b,cap,cur,rfl,hg,(Below.heap_setCell _ _ _ _ (fun e => hne ?_)).trans hh,r⟩
  simp only [] at e
  rw [e];rfl
theorem g_cap {w : World} {base n c : Nat} {e : TypeId} {sz : Nat} {A : Option Addr} {L : List Value} (h : w.ownsRow base e sz (.slice A n c) n L) : n ≤ c := by
 rcases h.2 with ⟨_,h0⟩ | ⟨g,cap,cur,hv,_,_,h1,_⟩
 ·omega
 ·injection hv with _ _ e;omega
theorem g_widen {w : World} {base base' : Nat} {e : TypeId} {size n : Nat} {v : Value} {L : List Value} (h : w.ownsRow base e size v n L) (hb : ∀ q,v.ownBlock = some q → base' ≤ q) : w.ownsRow base' e size v n L := by
 obtain ⟨h1,h3⟩ := h
 refine ⟨h1, ?_⟩
 rcases h3 with h3 | ⟨g,cap,cur,rfl,hg,r⟩
 ·exact .inl h3
 ·exact .inr ⟨g,cap,cur,rfl,hb g rfl,r⟩
theorem g_type {w w' : World} {lo n : Nat} {e E : TypeId} {sz : Nat} {v : Value} {L : List Value} (h : w.ownsRow lo e sz v n L) (hk : ∀ (b : Nat) (cs' : Array Value) (e' : TypeId),e' ≠ E → w.heap[b]? = some (Obj.cells cs' e') → w'.heap[b]? = some (Obj.cells cs' e')) (hne : e ≠ E) : w'.ownsRow lo e sz v n L := by
 obtain ⟨h1,h2⟩ := h
 refine ⟨h1, ?_⟩
 rcases h2 with h2 | ⟨b,cap,cur,rfl,hg,hh,r⟩
 ·exact .inl h2
 ·exact .inr ⟨b,cap,cur,rfl,hg,hk _ _ _ hne hh,r⟩
section
variable {e ie : TypeId} {p isz : Nat} {w w' : World} {lo hi lo' hi' : Nat} {A A' : Option Addr} {n c k n' c' : Nat} {f f' : Nat → GItem}
end
theorem AppR.kept_type {w w' : World} {base : Nat} {e : TypeId} {size : Nat} {v : Value} {A' : Option Addr} {n' c' : Nat} {L' : List Value} (h : AppR w w' base e size v A' n' c' L') {base2 n : Nat} {sz2 : Nat} {L : List Value} (hown : w.ownsRow base2 e sz2 v n L) : ∀ (b : Nat) (cs' : Array Value) (e' : TypeId),e' ≠ e → w.heap[b]? = some (Obj.cells cs' e') → w'.heap[b]? = some (Obj.cells cs' e') := by
 intro b cs' e' hne hb
 have hbl : b < w.heap.size := by
  rcases Nat.lt_or_ge b w.heap.size with hl | hl
  ·exact hl
  ·rw [Array.getElem?_eq_none hl] at hb;cases hb
 rw [h.kept b hbl (fun hv => ?_)]
 ·exact hb
 ·rcases hown.2 with ⟨rfl,_⟩ | ⟨g,cap,cur,rfl,_,hh,_⟩
  ·cases hv
  ·injection hv with hv;subst hv
   rw [hh] at hb;injection hb with hb;injection hb with _ h2;exact hne h2.symm
theorem free_c (xs : List Pt) (t : Int) (A : Option Addr) (n c : Nat) (w : World) (h : SlAt RPt 4 w A n xs) (hl : n ≤ maxLen) : Calls Tryz.prog 104 #[.agg #[.slice A n c],.int .i64 t] w (Ret w (.agg #[.int .i64 (freeAt xs t).A,.int .i64 (freeAt xs t).B,.int .i64 (freeAt xs t).C])) := by
 unfold maxLen at hl
 have HN := Hh h.len
 have HM := Hh (Flat.mono Pt.enc Pt.ok)
 have HF := Hh (show freeAt xs t = freeAt xs t from rfl)
 have H0 := Hh (show freeAt xs t = xs.foldl (stepF t) ⟨0,0,0⟩ from rfl)
 generalize freeAt xs t = r at *
 go_enter Tryz.func104,Tryz.ntmps104
 go_wp2
 go_loopw [12] (fun i wr => ∃ (k : Nat) (v : Vec),k ≤ n ∧ i = .int .i64 k ∧ Hid (r = (xs.drop k).foldl (stepF t) v) ∧ wr.cell? ⟨w.heap.size + 1 + 1,0,none⟩ = some (.int .i64 v.A) ∧ wr.cell? ⟨w.heap.size + 1 + 1,1,none⟩ = some (.int .i64 v.B) ∧ wr.cell? ⟨w.heap.size + 1 + 1,2,none⟩ = some (.int .i64 v.C) ∧ wr.frozen? ⟨w.heap.size + 1 + 1,0,none⟩ = false ∧ wr.frozen? ⟨w.heap.size + 1 + 1,1,none⟩ = false ∧ wr.frozen? ⟨w.heap.size + 1 + 1,2,none⟩ = false ∧ Ext ((w.alloc (.cells #[.slice A n c] 71)).alloc (.cells #[.int .i64 0,.int .i64 0,.int .i64 0] 29)) wr ∧ w.heap.size + 1 + 1 < wr.heap.size) (fun i _ => n - (intOf i).toNat)
 case atStart => exact ⟨0,⟨0,0,0⟩,Nat.zero_le _,rfl,H0,(cell_box_at ((w.alloc (.cells #[.slice A n c] 71)).alloc (.cells #[.int .i64 0,.int .i64 0,.int .i64 0] 29)) (w.heap.size + 1 + 1) (by simp) [.int .i64 0,.int .i64 0,.int .i64 0] 29 0 _ rfl),(cell_box_at ((w.alloc (.cells #[.slice A n c] 71)).alloc (.cells #[.int .i64 0,.int .i64 0,.int .i64 0] 29)) (w.heap.size + 1 + 1) (by simp) [.int .i64 0,.int .i64 0,.int .i64 0] 29 1 _ rfl),(cell_box_at ((w.alloc (.cells #[.slice A n c] 71)).alloc (.cells #[.int .i64 0,.int .i64 0,.int .i64 0] 29)) (w.heap.size + 1 + 1) (by simp) [.int .i64 0,.int .i64 0,.int .i64 0] 29 2 _ rfl),(frozen_box_at _ _ (by simp) _ _ _),(frozen_box_at _ _ (by simp) _ _ _),(frozen_box_at _ _ (by simp) _ _ _),Ext.go,by simp⟩
 case round =>
  obtain ⟨k,v,hk,rfl,HR,c0,c1,c2,f0,f1,f2,hbr,hzr⟩ := hrel
  have hb : Ext w wr := (((Ext.refl w).alloc _).alloc _).trans hbr
  by_cases hlt : k < n
  ·obtain ⟨b,o,x,cs,rfl,hbw,hx,_,hc,rfl,_⟩ := (h.ext HM.out hb).at_ hlt
   have g0 := hc 0 _ rfl
   have g1 := hc 1 _ rfl
   have g2 := hc 2 _ rfl
   have g3 := hc 3 _ rfl
   simp only [Nat.add_zero] at g0
   have HS := Hh (show (xs.drop k).foldl (stepF t) v = (xs.drop (k + 1)).foldl (stepF t) (if x.At ≤ t then x.Free else v) by rw [drop_cons hx,List.foldl_cons];rfl)
   clear hc hx h
   by_cases h1 : x.At ≤ t
   ·rw [if_pos h1] at HS
    go_wp2
    go_roundw
    case rel => exact ⟨k + 1,x.Free,by omega,by go_num,Hh (HR.out.trans HS.out),by go_simp,by go_simp,by go_simp,by go_simp,by go_simp,by go_simp,Ext.go,by simp;omega⟩
    case measure => simp [intOf];omega
   ·rw [if_neg h1] at HS
    go_wp2
    go_roundw
    case rel => exact ⟨k + 1,v,by omega,by go_num,Hh (HR.out.trans HS.out),by go_simp,by go_simp,by go_simp,by go_simp,by go_simp,by go_simp,Ext.go,by simp;omega⟩
    case measure => simp [intOf];omega
  ·have HZ := Hh (show r = v by rw [HR.out,List.drop_eq_nil_of_le (by have := HN.out;omega)];rfl)
   obtain ⟨q0,q1,q2⟩ := bc3 (w.alloc (.cells #[.slice A n c] 71)) (w.heap.size + 1) (.int .i64 0) (.int .i64 0) (.int .i64 0) 29 (hbr) (by simp)
   have p0 := (hbr.frozenEq (a := ⟨w.heap.size + 1,0,none⟩) (by simp)).trans (by simp : _ = false)
   have p1 := (hbr.frozenEq (a := ⟨w.heap.size + 1,1,none⟩) (by simp)).trans (by simp : _ = false)
   have p2 := (hbr.frozenEq (a := ⟨w.heap.size + 1,2,none⟩) (by simp)).trans (by simp : _ = false)
   clear h
   go_wp2
   rw [HZ.out]
   exact ret_is (by simp [results,Tryz.results104,go_sem, *]) rfl Ext.go
theorem gbox1 (w : World) (u : Value) (e : TypeId) : (w.alloc (.cells #[u] e)).ownsRow w.heap.size e 1 (.slice (some ⟨w.heap.size,0,none⟩) 1 1) 1 [u] :=
 World.ownsRow_lit w #[u] 1 (Nat.le_refl _) (by unfold maxLen;omega) (by simp)
theorem gbox (w : World) (cs : List Value) (e : TypeId) (sz : Nat) (h : cs.length = sz) : (w.alloc (.cells cs.toArray e)).ownsRow w.heap.size e sz (.slice (some ⟨w.heap.size,0,none⟩) 1 1) 1 cs :=
 World.ownsRow_lit w cs.toArray 1 (Nat.le_refl _) (by unfold maxLen;omega) (by simp [h])
theorem gcell {w : World} {base b sz : Nat} {e : TypeId} {cs : List Value} (h : w.ownsRow base e sz (.slice (some ⟨b,0,none⟩) 1 1) 1 cs) (j : Nat) (u : Value) (hj : cs[j]? = some u) : w.cell? ⟨b,j,none⟩ = some u := by
 rw [h.cellAt j (by have := (List.getElem?_eq_some_iff.1 hj).1;rw [h.1] at this;exact this)];exact hj
theorem gcells1 {w : World} {base b : Nat} {e : TypeId} {u0 : Value} (h : w.ownsRow base e 1 (.slice (some ⟨b,0,none⟩) 1 1) 1 [u0]) : w.cell? ⟨b,0,none⟩ = some u0 ∧ w.frozen? ⟨b,0,none⟩ = false ∧ b < w.heap.size :=
 ⟨gcell h 0 _ rfl,h.frozenAt 0,(h.lt b rfl).2⟩
theorem gcells2 {w : World} {base b : Nat} {e : TypeId} {u0 u1 : Value} (h : w.ownsRow base e 2 (.slice (some ⟨b,0,none⟩) 1 1) 1 [u0,u1]) : w.cell? ⟨b,0,none⟩ = some u0 ∧ w.cell? ⟨b,1,none⟩ = some u1 ∧ w.frozen? ⟨b,0,none⟩ = false ∧ w.frozen? ⟨b,1,none⟩ = false ∧ b < w.heap.size :=
 ⟨gcell h 0 _ rfl,gcell h 1 _ rfl,h.frozenAt 0,h.frozenAt 1,(h.lt b rfl).2⟩
theorem gcells3 {w : World} {base b : Nat} {e : TypeId} {u0 u1 u2 : Value} (h : w.ownsRow base e 3 (.slice (some ⟨b,0,none⟩) 1 1) 1 [u0,u1,u2]) : w.cell? ⟨b,0,none⟩ = some u0 ∧ w.cell? ⟨b,1,none⟩ = some u1 ∧ w.cell? ⟨b,2,none⟩ = some u2 ∧ w.frozen? ⟨b,0,none⟩ = false ∧ w.frozen? ⟨b,1,none⟩ = false ∧ w.frozen? ⟨b,2,none⟩ = false ∧ b < w.heap.size :=
 ⟨gcell h 0 _ rfl,gcell h 1 _ rfl,gcell h 2 _ rfl,h.frozenAt 0,h.frozenAt 1,h.frozenAt 2,(h.lt b rfl).2⟩
def validV (a b c : Vec) : Vec := if (vecB a && vecB b && vecB c) = true then c else ⟨0,0,0⟩
theorem valid_c (a b c : Vec) (w : World) : Calls Tryz.prog 105 #[.agg #[.int .i64 a.A,.int .i64 a.B,.int .i64 a.C],.agg #[.int .i64 b.A,.int .i64 b.B,.int .i64 b.C],.agg #[.int .i64 c.A,.int .i64 c.B,.int .i64 c.C]] w (Ret w (.tuple #[.agg #[.int .i64 (validV a b c).A,.int .i64 (validV a b c).B,.int .i64 (validV a b c).C],.bool (vecB a && vecB b && vecB c)])) := by
 have HD := Hh (show validV a b c = if (vecB a && vecB b && vecB c) = true then c else ⟨0,0,0⟩ from rfl)
 have hA := Hh (fun u : World => VecOk_c a u)
 have hB := Hh (fun u : World => VecOk_c b u)
 have hC := Hh (fun u : World => VecOk_c c u)
 generalize validV a b c = r at *
 rcases (Bool.eq_false_or_eq_true (vecB a)).symm with h1 | h1
 all_goals rw [h1] at hA HD ⊢
 ·simp only [Bool.false_and,Bool.false_eq_true,if_false] at HD ⊢
  rw [HD.out]
  go_enter Tryz.func105,Tryz.ntmps105
  go_wp2_with fail
  refine (hA.out _).mono ?_
  rintro e w1 ⟨rfl,hb1⟩
  obtain ⟨hcr1,hfr1,hz1⟩ := hb1.rules
  (try simp at hz1)
  have hy1_w0 : w.heap.size < w1.heap.size := (by omega)
  have hy1_w1 : w.heap.size + 1 < w1.heap.size := (by omega)
  have hy1_w2 : w.heap.size + 1 + 1 < w1.heap.size := (by omega)
  have hy1_w3 : w.heap.size + 1 + 1 + 1 < w1.heap.size := (by omega)
  obtain ⟨q0,q1,q2⟩ := bc3 (((w.alloc (.cells #[.int .i64 a.A,.int .i64 a.B,.int .i64 a.C] 29)).alloc (.cells #[.int .i64 b.A,.int .i64 b.B,.int .i64 b.C] 29)).alloc (.cells #[.int .i64 c.A,.int .i64 c.B,.int .i64 c.C] 29)) (w.heap.size + 1 + 1 + 1) (.int .i64 0) (.int .i64 0) (.int .i64 0) 29 ((hb1)) (by simp)
  obtain ⟨qf0,qf1,qf2⟩ := bf3 (((w.alloc (.cells #[.int .i64 a.A,.int .i64 a.B,.int .i64 a.C] 29)).alloc (.cells #[.int .i64 b.A,.int .i64 b.B,.int .i64 b.C] 29)).alloc (.cells #[.int .i64 c.A,.int .i64 c.B,.int .i64 c.C] 29)) (w.heap.size + 1 + 1 + 1) (.int .i64 0) (.int .i64 0) (.int .i64 0) 29 ((hb1)) (by simp)
  go_wp2
  exact ret_is (by simp [results,Tryz.results105,go_sem, *]) rfl Ext.go
 rcases (Bool.eq_false_or_eq_true (vecB b)).symm with h2 | h2
 all_goals rw [h2] at hB HD ⊢
 ·simp only [Bool.true_and,Bool.false_and,Bool.false_eq_true,if_false] at HD ⊢
  rw [HD.out]
  go_enter Tryz.func105,Tryz.ntmps105
  go_wp2_with fail
  refine (hA.out _).mono ?_
  rintro e w1 ⟨rfl,hb1⟩
  obtain ⟨hcr1,hfr1,hz1⟩ := hb1.rules
  (try simp at hz1)
  have hy1_w0 : w.heap.size < w1.heap.size := (by omega)
  have hy1_w1 : w.heap.size + 1 < w1.heap.size := (by omega)
  have hy1_w2 : w.heap.size + 1 + 1 < w1.heap.size := (by omega)
  have hy1_w3 : w.heap.size + 1 + 1 + 1 < w1.heap.size := (by omega)
  go_wp2_with fail
  refine (hB.out _).mono ?_
  rintro e w2 ⟨rfl,hb2⟩
  obtain ⟨hcr2,hfr2,hz2⟩ := hb2.rules
  (try simp at hz2)
  have hy2_w0 : w.heap.size < w2.heap.size := (by omega)
  have hy2_w1 : w.heap.size + 1 < w2.heap.size := (by omega)
  have hy2_w2 : w.heap.size + 1 + 1 < w2.heap.size := (by omega)
  have hy2_w3 : w.heap.size + 1 + 1 + 1 < w2.heap.size := (by omega)
  obtain ⟨q0,q1,q2⟩ := bc3 (((w.alloc (.cells #[.int .i64 a.A,.int .i64 a.B,.int .i64 a.C] 29)).alloc (.cells #[.int .i64 b.A,.int .i64 b.B,.int .i64 b.C] 29)).alloc (.cells #[.int .i64 c.A,.int .i64 c.B,.int .i64 c.C] 29)) (w.heap.size + 1 + 1 + 1) (.int .i64 0) (.int .i64 0) (.int .i64 0) 29 ((hb1.trans hb2)) (by simp)
  obtain ⟨qf0,qf1,qf2⟩ := bf3 (((w.alloc (.cells #[.int .i64 a.A,.int .i64 a.B,.int .i64 a.C] 29)).alloc (.cells #[.int .i64 b.A,.int .i64 b.B,.int .i64 b.C] 29)).alloc (.cells #[.int .i64 c.A,.int .i64 c.B,.int .i64 c.C] 29)) (w.heap.size + 1 + 1 + 1) (.int .i64 0) (.int .i64 0) (.int .i64 0) 29 ((hb1.trans hb2)) (by simp)
  go_wp2
  exact ret_is (by simp [results,Tryz.results105,go_sem, *]) rfl Ext.go
 rcases (Bool.eq_false_or_eq_true (vecB c)).symm with h3 | h3
 all_goals rw [h3] at hC HD ⊢
 ·simp only [Bool.true_and,Bool.false_eq_true,if_false] at HD ⊢
  rw [HD.out]
  go_enter Tryz.func105,Tryz.ntmps105
  go_wp2_with fail
  refine (hA.out _).mono ?_
  rintro e w1 ⟨rfl,hb1⟩
  obtain ⟨hcr1,hfr1,hz1⟩ := hb1.rules
  (try simp at hz1)
  have hy1_w0 : w.heap.size < w1.heap.size := (by omega)
  have hy1_w1 : w.heap.size + 1 < w1.heap.size := (by omega)
  have hy1_w2 : w.heap.size + 1 + 1 < w1.heap.size := (by omega)
  have hy1_w3 : w.heap.size + 1 + 1 + 1 < w1.heap.size := (by omega)
  go_wp2_with fail
  refine (hB.out _).mono ?_
  rintro e w2 ⟨rfl,hb2⟩
  obtain ⟨hcr2,hfr2,hz2⟩ := hb2.rules
  (try simp at hz2)
  have hy2_w0 : w.heap.size < w2.heap.size := (by omega)
  have hy2_w1 : w.heap.size + 1 < w2.heap.size := (by omega)
  have hy2_w2 : w.heap.size + 1 + 1 < w2.heap.size := (by omega)
  have hy2_w3 : w.heap.size + 1 + 1 + 1 < w2.heap.size := (by omega)
  go_wp2_with fail
  refine (hC.out _).mono ?_
  rintro e w3 ⟨rfl,hb3⟩
  obtain ⟨hcr3,hfr3,hz3⟩ := hb3.rules
  (try simp at hz3)
  have hy3_w0 : w.heap.size < w3.heap.size := (by omega)
  have hy3_w1 : w.heap.size + 1 < w3.heap.size := (by omega)
  have hy3_w2 : w.heap.size + 1 + 1 < w3.heap.size := (by omega)
  have hy3_w3 : w.heap.size + 1 + 1 + 1 < w3.heap.size := (by omega)
  obtain ⟨q0,q1,q2⟩ := bc3 (((w.alloc (.cells #[.int .i64 a.A,.int .i64 a.B,.int .i64 a.C] 29)).alloc (.cells #[.int .i64 b.A,.int .i64 b.B,.int .i64 b.C] 29)).alloc (.cells #[.int .i64 c.A,.int .i64 c.B,.int .i64 c.C] 29)) (w.heap.size + 1 + 1 + 1) (.int .i64 0) (.int .i64 0) (.int .i64 0) 29 (((hb1.trans hb2).trans hb3)) (by simp)
  obtain ⟨qf0,qf1,qf2⟩ := bf3 (((w.alloc (.cells #[.int .i64 a.A,.int .i64 a.B,.int .i64 a.C] 29)).alloc (.cells #[.int .i64 b.A,.int .i64 b.B,.int .i64 b.C] 29)).alloc (.cells #[.int .i64 c.A,.int .i64 c.B,.int .i64 c.C] 29)) (w.heap.size + 1 + 1 + 1) (.int .i64 0) (.int .i64 0) (.int .i64 0) 29 (((hb1.trans hb2).trans hb3)) (by simp)
  go_wp2
  exact ret_is (by simp [results,Tryz.results105,go_sem, *]) rfl Ext.go
 ·simp only [Bool.true_and,if_true] at HD ⊢
  rw [HD.out]
  go_enter Tryz.func105,Tryz.ntmps105
  go_wp2_with fail
  refine (hA.out _).mono ?_
  rintro e w1 ⟨rfl,hb1⟩
  obtain ⟨hcr1,hfr1,hz1⟩ := hb1.rules
  (try simp at hz1)
  have hy1_w0 : w.heap.size < w1.heap.size := (by omega)
  have hy1_w1 : w.heap.size + 1 < w1.heap.size := (by omega)
  have hy1_w2 : w.heap.size + 1 + 1 < w1.heap.size := (by omega)
  have hy1_w3 : w.heap.size + 1 + 1 + 1 < w1.heap.size := (by omega)
  go_wp2_with fail
  refine (hB.out _).mono ?_
  rintro e w2 ⟨rfl,hb2⟩
  obtain ⟨hcr2,hfr2,hz2⟩ := hb2.rules
  (try simp at hz2)
  have hy2_w0 : w.heap.size < w2.heap.size := (by omega)
  have hy2_w1 : w.heap.size + 1 < w2.heap.size := (by omega)
  have hy2_w2 : w.heap.size + 1 + 1 < w2.heap.size := (by omega)
  have hy2_w3 : w.heap.size + 1 + 1 + 1 < w2.heap.size := (by omega)
  go_wp2_with fail
  refine (hC.out _).mono ?_
  rintro e w3 ⟨rfl,hb3⟩
  obtain ⟨hcr3,hfr3,hz3⟩ := hb3.rules
  (try simp at hz3)
  have hy3_w0 : w.heap.size < w3.heap.size := (by omega)
  have hy3_w1 : w.heap.size + 1 < w3.heap.size := (by omega)
  have hy3_w2 : w.heap.size + 1 + 1 < w3.heap.size := (by omega)
  have hy3_w3 : w.heap.size + 1 + 1 + 1 < w3.heap.size := (by omega)
  obtain ⟨p0,p1,p2⟩ := bc3 ((w.alloc (.cells #[.int .i64 a.A,.int .i64 a.B,.int .i64 a.C] 29)).alloc (.cells #[.int .i64 b.A,.int .i64 b.B,.int .i64 b.C] 29)) (w.heap.size + 1 + 1) (.int .i64 c.A) (.int .i64 c.B) (.int .i64 c.C) 29 ((((((Ext.refl _).alloc _).trans hb1).trans hb2).trans hb3)) (by simp)
  obtain ⟨pf0,pf1,pf2⟩ := bf3 ((w.alloc (.cells #[.int .i64 a.A,.int .i64 a.B,.int .i64 a.C] 29)).alloc (.cells #[.int .i64 b.A,.int .i64 b.B,.int .i64 b.C] 29)) (w.heap.size + 1 + 1) (.int .i64 c.A) (.int .i64 c.B) (.int .i64 c.C) 29 ((((((Ext.refl _).alloc _).trans hb1).trans hb2).trans hb3)) (by simp)
  obtain ⟨q0,q1,q2⟩ := bc3 (((w.alloc (.cells #[.int .i64 a.A,.int .i64 a.B,.int .i64 a.C] 29)).alloc (.cells #[.int .i64 b.A,.int .i64 b.B,.int .i64 b.C] 29)).alloc (.cells #[.int .i64 c.A,.int .i64 c.B,.int .i64 c.C] 29)) (w.heap.size + 1 + 1 + 1) (.int .i64 0) (.int .i64 0) (.int .i64 0) 29 (((hb1.trans hb2).trans hb3)) (by simp)
  obtain ⟨qf0,qf1,qf2⟩ := bf3 (((w.alloc (.cells #[.int .i64 a.A,.int .i64 a.B,.int .i64 a.C] 29)).alloc (.cells #[.int .i64 b.A,.int .i64 b.B,.int .i64 b.C] 29)).alloc (.cells #[.int .i64 c.A,.int .i64 c.B,.int .i64 c.C] 29)) (w.heap.size + 1 + 1 + 1) (.int .i64 0) (.int .i64 0) (.int .i64 0) 29 (((hb1.trans hb2).trans hb3)) (by simp)
  go_wp2
  exact ret_is (by simp [results,Tryz.results105,go_sem, *]) rfl Ext.go
end Go.Proofs.YtfanjhcdjbnnnaaGreat
