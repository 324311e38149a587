/- Queue, St, SRow, Lev, Low. -/
import Derived.Test.YtfanjhcdjbnnnaaGreatK04
import Derived.Test.YtfanjhcdjbnnnaaGreatK07
import Derived.Test.YtfanjhcdjbnnnaaGreatK10
import Derived.ArgAppend
import Derived.Test.YtfanjhcdjbnnnaaGreatK09
import Derived.Deep.RegionHeld3
namespace Go.Proofs.YtfanjhcdjbnnnaaGreat
open Go.RowKit
set_option linter.unusedVariables false
set_option maxHeartbeats 16000000
set_option maxRecDepth 10000
def idxP {α : Type} (p : α → Bool) : List α → Nat → Int
 | [],_ => -1
 | a :: r,k => if p a = true then k else idxP p r (k + 1)
theorem idxP_ge {α : Type} (p : α → Bool) (l : List α) : ∀ k : Nat,(decide (0 ≤ idxP p l k)) = l.any p := by
 induction l with
 | nil => intro k;rfl
 | cons a r ih =>
  intro k
  rw [idxP]
  by_cases h : p a = true
  ·rw [if_pos h,List.any_cons,h,Bool.true_or,decide_eq_true_iff];omega
  ·rw [if_neg h,ih,List.any_cons,Bool.eq_false_iff.2 h,Bool.false_or]
theorem IndexFuncJ_c (xs : List Job) (p : Job → Bool) (f : FuncId) (cap : Array Value) (A : Option Addr) (n c : Nat) (w : World) (h : SlAt RJob 11 w A n xs) (hl : n ≤ maxLen)
  (hr : ∀ (vs : Array Value) (u : World),Sem.run Tryz.prog (callFunc f vs) u = .ok (.enter f vs) u)
  (hf : ∀ (x : Job) (u : World),Ext w u → Calls Tryz.prog f (#[.agg #[.int .i64 x.Id,.int .i64 x.Prio,.int .i64 x.Nodes,.int .i64 x.Need.A,.int .i64 x.Need.B,.int .i64 x.Need.C,.int .i64 x.Lic.A,.int .i64 x.Lic.B,.int .i64 x.Lic.C,.int .i64 x.Wall,.int .i64 x.Level]] ++ cap) u (Ret u (.bool (p x)))) : Calls Tryz.prog 85 #[.slice A n c,.func (.func f) #[] cap] w (Ret w (.int .i64 (idxP p xs 0))) := by
 unfold maxLen at hl
 have HN := Hh h.len
 have HF := Hh hf
 clear hf
 go_enter Tryz.func85,Tryz.ntmps85
 go_wp2
 go_loopw [8] (fun i wr => ∃ k : Nat,k ≤ n ∧ i = .int .i64 k ∧ Ext w wr ∧ idxP p xs 0 = idxP p (xs.drop k) k) (fun i _ => n - (intOf i).toNat)
 case atStart => exact ⟨0,Nat.zero_le _,rfl,Ext.refl _,rfl⟩
 case round =>
  obtain ⟨k,hk,rfl,hb,hE⟩ := hrel
  have HE := Hh hE;clear hE
  by_cases hlt : k < n
  ·obtain ⟨b,o,x,cs,rfl,hbw,hx,_,hc,rfl,_⟩ := (h.ext (Flat.mono _ _) hb).at_ hlt
   have c0 := hc 0 _ rfl
   have c1 := hc 1 _ rfl
   have c2 := hc 2 _ rfl
   have c3 := hc 3 _ rfl
   have c4 := hc 4 _ rfl
   have c5 := hc 5 _ rfl
   have c6 := hc 6 _ rfl
   have c7 := hc 7 _ rfl
   have c8 := hc 8 _ rfl
   have c9 := hc 9 _ rfl
   have c10 := hc 10 _ rfl
   simp only [Nat.add_zero] at c0
   have HX := Hh hx
   clear hc hx h
   rcases Bool.eq_false_or_eq_true (p x) with h1 | h1
   ·have H1 := Hh (show idxP p (x :: xs.drop (k + 1)) k = k by rw [idxP,if_pos h1])
    go_wp2_with fail
    refine (HF.out x _ hb).mono ?_
    rintro e w1 ⟨rfl,hb1⟩
    go_wp2
    exact ret_int rfl rfl rfl (by rw [HE.out,drop_cons HX.out,H1.out]) (hb.trans hb1)
   ·have H1 := Hh (show idxP p (x :: xs.drop (k + 1)) k = idxP p (xs.drop (k + 1)) (k + 1) by rw [idxP,if_neg (by rw [h1];simp)])
    go_wp2_with fail
    refine (HF.out x _ hb).mono ?_
    rintro e w1 ⟨rfl,hb1⟩
    go_wp2
    go_roundw
    case rel => exact ⟨k + 1,by omega,by go_num,hb.trans hb1,by rw [HE.out,drop_cons HX.out,H1.out]⟩
    case measure => simp [intOf];omega
  ·go_wp2
   exact ret_int rfl rfl rfl (by rw [HE.out,List.drop_eq_nil_of_le (by have := HN.out;omega)];rfl) hb
theorem ContainsFuncJ_c (xs : List Job) (p : Job → Bool) (f : FuncId) (cap : Array Value) (A : Option Addr) (n c : Nat) (w : World) (h : SlAt RJob 11 w A n xs) (hl : n ≤ maxLen)
  (hr : ∀ (vs : Array Value) (u : World),Sem.run Tryz.prog (callFunc f vs) u = .ok (.enter f vs) u)
  (hf : ∀ (x : Job) (u : World),Ext w u → Calls Tryz.prog f (#[.agg #[.int .i64 x.Id,.int .i64 x.Prio,.int .i64 x.Nodes,.int .i64 x.Need.A,.int .i64 x.Need.B,.int .i64 x.Need.C,.int .i64 x.Lic.A,.int .i64 x.Lic.B,.int .i64 x.Lic.C,.int .i64 x.Wall,.int .i64 x.Level]] ++ cap) u (Ret u (.bool (p x)))) : Calls Tryz.prog 50 #[.slice A n c,.func (.func f) #[] cap] w (Ret w (.bool (xs.any p))) := by
 have HN := Hh (idxP_ge p xs 0)
 have HC := Hh (IndexFuncJ_c xs p f cap A n c w h hl hr hf)
 clear hr hf
 rw [← HN.out]
 generalize idxP p xs 0 = ix at *
 go_enter Tryz.func50,Tryz.ntmps50
 go_wp2_with fail
 refine HC.out.mono ?_
 rintro e w1 ⟨rfl,hb1⟩
 go_wp2
 exact ret_bool rfl rfl rfl rfl hb1
theorem Queue1_run (vs : Array Value) (u : World) : Sem.run Tryz.prog (callFunc 51 vs) u = .ok (.enter 51 vs) u := by
 simp [go_sem]
theorem Queue1_c (x j : Job) (b : Nat) (w : World) (hb : b < w.heap.size) (h0 : w.cell? ⟨b,0,none⟩ = some (.int .i64 j.Id)) : Calls Tryz.prog 51 #[.agg #[.int .i64 x.Id,.int .i64 x.Prio,.int .i64 x.Nodes,.int .i64 x.Need.A,.int .i64 x.Need.B,.int .i64 x.Need.C,.int .i64 x.Lic.A,.int .i64 x.Lic.B,.int .i64 x.Lic.C,.int .i64 x.Wall,.int .i64 x.Level],.pointer (some ⟨b,0,none⟩)] w (Ret w (.bool (x.Id == j.Id))) := by
 go_enter Tryz.func51,Tryz.ntmps51
 go_wp2
 exact ret_bool rfl rfl rfl rfl Ext.go
theorem SlAt.cutq {α : Type} {R : Rel α} {sz n k : Nat} {w : World} {A : Option Addr} {xs : List α} (h : SlAt R sz w A n xs) (hk : k ≤ n) : SlAt R sz w A k (xs.take k) := by
 refine ⟨by rw [List.length_take,h.1];omega,fun h0 => ?_⟩
 obtain ⟨b,o,e,hb,hc⟩ := h.2 (by omega)
 refine ⟨b,o,e,hb,fun j x hx => ?_⟩
 rw [List.getElem?_take] at hx
 split at hx
 ·exact hc j x hx
 ·cases hx
theorem queue_step {xs : List Job} {k : Nat} {x : Job} (hx : xs[k]? = some x) : queueGo (xs.take k) (xs.drop k) = (jobB x && !(xs.take k).any (fun y => y.Id == x.Id) && queueGo (xs.take (k + 1)) (xs.drop (k + 1))) := by
 rw [drop_cons hx,queueGo,take_succ hx]
theorem QueueOk_c (xs : List Job) (A : Option Addr) (n c : Nat) (w : World) (h : SlAt RJob 11 w A n xs) (hl : n ≤ maxLen) (hcap : n ≤ c) : Calls Tryz.prog 28 #[.slice A n c] w (Ret w (.bool (queueB xs))) := by
 have hl' := hl
 unfold maxLen at hl
 have HN := Hh h.len
 have HS := Hh (fun (u : World) (e : Ext w u) => h.ext (Flat.mono _ _) e)
 have HQ := Hh (show queueB xs = (queueGo [] xs && decide (n ≤ 60)) by unfold queueB;rw [h.len])
 generalize queueB xs = R at *
 generalize hg0 : queueGo [] xs = q0 at *
 go_enter Tryz.func28,Tryz.ntmps28
 go_wp2
 go_loopw [7] (fun iv wr => ∃ k : Nat,k ≤ n ∧ iv = .int .i64 k ∧ Hid (q0 = queueGo (xs.take k) (xs.drop k)) ∧ Ext w wr) (fun iv _ => n - (intOf iv).toNat)
 case atStart => exact ⟨0,Nat.zero_le _,rfl,Hh hg0.symm,Ext.refl _⟩
 case round =>
  clear hg0
  obtain ⟨k,hk,rfl,HE,hb⟩ := hrel
  by_cases hlt : k < n
  ·obtain ⟨b,o,x,cs,rfl,hbw,hx,_,hc,rfl,_⟩ := (HS.out wr hb).at_ hlt
   have g0 := hc 0 _ rfl
   have g1 := hc 1 _ rfl
   have g2 := hc 2 _ rfl
   have g3 := hc 3 _ rfl
   have g4 := hc 4 _ rfl
   have g5 := hc 5 _ rfl
   have g6 := hc 6 _ rfl
   have g7 := hc 7 _ rfl
   have g8 := hc 8 _ rfl
   have g9 := hc 9 _ rfl
   have g10 := hc 10 _ rfl
   simp only [Nat.add_zero] at g0
   have HST := Hh (queue_step hx)
   have HCU := Hh (fun (u : World) (e : Ext wr u) => (HS.out u (hb.trans e)).cutq hk)
   have hkc : k ≤ c := by omega
   clear hc hx h
   rcases (Bool.eq_false_or_eq_true (jobB x)).symm with h1 | h1
   ·have HJ := Hh (fun u : World => JobOk_c x u)
    rw [h1] at HJ HST
    go_wp2_with fail
    refine (HJ.out _).mono ?_
    rintro e w1 ⟨rfl,hb1⟩
    go_wp2
    refine ret_bool rfl rfl rfl ?_ ((hb.alloc _).trans hb1)
    rw [HQ.out,HE.out,HST.out];rfl
   ·have HJ := Hh (fun u : World => JobOk_c x u)
    rw [h1] at HJ HST
    go_wp2_with fail
    refine (HJ.out _).mono ?_
    rintro e w1 ⟨rfl,hb1⟩
    have hz1 := hb1.le
    have j0 := hb1.cell (cell_box_at wr wr.heap.size rfl [.int .i64 x.Id,.int .i64 x.Prio,.int .i64 x.Nodes,.int .i64 x.Need.A,.int .i64 x.Need.B,.int .i64 x.Need.C,.int .i64 x.Lic.A,.int .i64 x.Lic.B,.int .i64 x.Lic.C,.int .i64 x.Wall,.int .i64 x.Level] 52 0 _ rfl)
    have hj0 := lt_of_cell j0
    go_wp2_with fail
    refine (ContainsFuncJ_c (xs.take k) (fun y => y.Id == x.Id) 51 #[.pointer (some ⟨wr.heap.size,0,none⟩)] (some ⟨b,o,none⟩) k c w1 (HCU.out _ (((Ext.refl _).alloc _).trans hb1)) (by unfold maxLen;omega) Queue1_run (fun y u hu => Queue1_c y x wr.heap.size u (Nat.lt_of_lt_of_le hj0 hu.le) (hu.cell j0))).mono ?_
    rintro e w2 ⟨rfl,hb2⟩
    generalize (xs.take k).any (fun y => y.Id == x.Id) = ct at *
    rcases ct with _ | _
    ·go_wp2
     go_roundw
     case rel => exact ⟨k + 1,by omega,by go_num,Hh (by rw [HE.out,HST.out];rfl),((hb.alloc _).trans hb1).trans hb2⟩
     case measure => simp [intOf];omega
    ·go_wp2
     refine ret_bool rfl rfl rfl ?_ (((hb.alloc _).trans hb1).trans hb2)
     rw [HQ.out,HE.out,HST.out];rfl
  ·have HZ := Hh (show q0 = true by rw [HE.out,List.drop_eq_nil_of_le (by have := HN.out;omega)];rfl)
   go_wp2
   refine ret_bool rfl rfl rfl ?_ hb
   rw [HQ.out,HZ.out,Bool.true_and,decide_eq_decide];omega
def RRun : Rel Run := fun w cs x => ∃ A c,cs = x.Job.enc ++ [.int .i64 x.At,.slice A x.Nodes.length c] ∧ SlAt RInt 1 w A x.Nodes.length x.Nodes ∧ x.Nodes.length ≤ c ∧ x.Nodes.length ≤ 1048576 ∧ In64 x.At ∧ x.Job.ok
theorem RRun.mono : RRun.Mono := fun w w' cs x hb ⟨A,c,e,h,r⟩ => ⟨A,c,e,h.ext (Flat.mono _ _) hb,r⟩
def StateAt (w : World) (s : State) (v : Value) : Prop :=
 ∃ A1 c1 A2 c2 A3 c3 A6 c6 A7 c7 A8 c8,v = .agg #[.slice A1 s.Topo.Parents.length c1,.slice A2 s.Topo.Nodes.length c2,.slice A3 s.Up.length c3,.int .i64 s.Lic.A,.int .i64 s.Lic.B,.int .i64 s.Lic.C,.int .i64 s.Depth,.int .i64 s.Now,.slice A6 s.Queue.length c6,.slice A7 s.Runs.length c7,.slice A8 s.Ends.length c8] ∧ SlAt RInt 1 w A1 s.Topo.Parents.length s.Topo.Parents ∧ SlAt RNode 4 w A2 s.Topo.Nodes.length s.Topo.Nodes ∧ SlAt RB 1 w A3 s.Up.length s.Up ∧ SlAt RJob 11 w A6 s.Queue.length s.Queue ∧ SlAt RRun 13 w A7 s.Runs.length s.Runs ∧ SlAt REnd 3 w A8 s.Ends.length s.Ends
theorem StateAt.ext {w w' : World} {s : State} {v : Value} (h : StateAt w s v) (hb : Ext w w') : StateAt w' s v := by
 obtain ⟨A1,c1,A2,c2,A3,c3,A6,c6,A7,c7,A8,c8,e,h1,h2,h3,h6,h7,h8⟩ := h
 exact ⟨A1,c1,A2,c2,A3,c3,A6,c6,A7,c7,A8,c8,e,h1.ext (Flat.mono _ _) hb,h2.ext (Flat.mono _ _) hb,h3.ext (Flat.mono _ _) hb,h6.ext (Flat.mono _ _) hb,h7.ext RRun.mono hb,h8.ext (Flat.mono _ _) hb⟩
def stateLen (s : State) : Prop := s.Topo.Parents.length ≤ 1048576 ∧ s.Topo.Nodes.length ≤ 1048576 ∧ s.Up.length ≤ 1048576 ∧ s.Queue.length ≤ 1048576 ∧ s.Runs.length ≤ 1048576 ∧ s.Ends.length ≤ 1048576
theorem room_step {m : Nat} {now : Int} {l : List Run} {k : Nat} {x : Run} {r : List (List Pt) × List Pt} (hx : l[k]? = some x) : roomGo m now (l.drop k) r = if runOkB m now x = true then (match moveM now (x.At + x.Job.Wall) x.Job x.Nodes r with
   | none => none
   | some r' => roomGo m now (l.drop (k + 1)) r')
  else none := by
 rw [drop_cons hx,roomGo]
 split
 ·cases moveM now (x.At + x.Job.Wall) x.Job x.Nodes r <;> rfl
 ·rfl
def own0 (w : World) (lo : Nat) (e : TypeId) (sz : Nat) (A : Option Addr) (c n : Nat) (L : List Value) : Prop := n = 0 ∨ w.ownsRow lo e sz (.slice A n c) n L
section
variable {w w' : World} {lo lo' g p : Nat} {e e' : TypeId} {sz sz' : Nat} {A : Option Addr} {c n : Nat} {L : List Value} {u : Value}
theorem own0.ext (h : own0 w lo e sz A c n L) (hb : Ext w w') : own0 w' lo e sz A c n L := h.imp id (fun h => owns_ext h hb)
theorem own0.base (h : own0 w lo e sz A c n L) (hb : lo' ≤ lo) : own0 w lo' e sz A c n L := h.imp id (fun h => owns_base h hb)
theorem own0.low (h : own0 w lo e sz A c n L) (hb : g < lo) : own0 (w.setCell ⟨g,p,none⟩ u) lo e sz A c n L := h.imp id (fun h => own_set h hb)
theorem own0.far {L0 : List Value} {m d : Nat} (h : own0 w lo e sz A c n L) (hbox : w.ownsRow lo' e' sz' (.slice (some ⟨g,0,none⟩) m d) m L0) (hne : e ≠ e') : own0 (w.setCell ⟨g,p,none⟩ u) lo e sz A c n L := h.imp id (fun h => g_far h (fun q => g_apart h hbox hne _ q rfl))
theorem own0.other {v : Value} {m k c' : Nat} {A' : Option Addr} {L0 L' : List Value} (h : own0 w lo e sz A c n L) (hr : AppR w w' lo' e' sz' v A' k c' L') (h2 : w.ownsRow lo' e' sz' v m L0) (hne : e ≠ e') : own0 w' lo e sz A c n L := h.imp id (fun h => hr.other h (g_apart h h2 hne))
end
theorem own0.sl {α : Type} {enc : α → List Value} {ok : α → Prop} {sz : Nat} {w : World} {base : Nat} {e : TypeId} {A : Option Addr} {c : Nat} {xs : List α} (h : own0 w base e sz A c xs.length (xs.flatMap enc)) (hsz : ∀ x,(enc x).length = sz) (hok : ∀ x ∈ xs,ok x) : SlAt (Flat enc ok) sz w A xs.length xs := by
 rcases h with h | h
 ·exact ⟨rfl,fun h0 => absurd h (by omega)⟩
 ·exact owns_sl hsz h hok
structure RoomS (w : World) (lo : Nat) (ps : List Int) (ns : List Node) (up : List Bool) (r : List (List Pt) × List Pt) (A1 : Option Addr) (c1 : Nat) (A2 : Option Addr) (c2 : Nat) (A3 : Option Addr) (c3 : Nat) (A4 : Option Addr) (c4 : Nat) (A5 : Option Addr) (c5 : Nat) : Prop where
 par : own0 w lo 3 1 A1 c1 ps.length (ps.flatMap encInt)
 nod : own0 w lo 85 4 A2 c2 ns.length (ns.flatMap Node.enc)
 ups : own0 w lo 4 1 A3 c3 up.length (up.flatMap encB)
 pro : PO w lo A4 r.1.length c4 r.1
 lic : w.ownsRow lo 133 4 (.slice A5 r.2.length c5) r.2.length (r.2.flatMap Pt.enc)
 ok1 : ∀ x ∈ ps,In64 x
 ok2 : ∀ x ∈ ns,x.ok
 ok3 : ∀ x ∈ r.2,x.ok
section
variable {w w' : World} {lo lo' b g p : Nat} {u : Value} {ps : List Int} {ns : List Node} {up : List Bool} {r : List (List Pt) × List Pt} {pl : List (List Pt)} {lic : List Pt} {A1 : Option Addr} {c1 : Nat} {A2 : Option Addr} {c2 : Nat} {A3 : Option Addr} {c3 : Nat} {A4 : Option Addr} {c4 : Nat} {A5 : Option Addr} {c5 : Nat}
theorem RoomS.ext (h : RoomS w lo ps ns up r A1 c1 A2 c2 A3 c3 A4 c4 A5 c5) (hb : Ext w w') : RoomS w' lo ps ns up r A1 c1 A2 c2 A3 c3 A4 c4 A5 c5 :=
 ⟨h.par.ext hb,h.nod.ext hb,h.ups.ext hb,h.pro.ext hb,owns_ext h.lic hb,h.ok1,h.ok2,h.ok3⟩
theorem RoomS.base (h : RoomS w lo ps ns up r A1 c1 A2 c2 A3 c3 A4 c4 A5 c5) (hb : lo' ≤ lo) : RoomS w lo' ps ns up r A1 c1 A2 c2 A3 c3 A4 c4 A5 c5 :=
 ⟨h.par.base hb,h.nod.base hb,h.ups.base hb,h.pro.base hb,owns_base h.lic hb,h.ok1,h.ok2,h.ok3⟩
theorem RoomS.low (h : RoomS w lo ps ns up r A1 c1 A2 c2 A3 c3 A4 c4 A5 c5) (hb : b < lo) : RoomS (w.setCell ⟨b,p,none⟩ u) lo ps ns up r A1 c1 A2 c2 A3 c3 A4 c4 A5 c5 :=
 ⟨h.par.low hb,h.nod.low hb,h.ups.low hb,h.pro.low hb,own_set h.lic hb,h.ok1,h.ok2,h.ok3⟩
theorem RoomS.at_ (h : RoomS w lo ps ns up r A1 c1 A2 c2 A3 c3 A4 c4 A5 c5) : RoomAt w ps ns up r (.agg #[.slice A1 ps.length c1,.slice A2 ns.length c2,.slice A3 up.length c3,.slice A4 r.1.length c4,.slice A5 r.2.length c5]) :=
 ⟨A1,c1,A2,c2,A3,c3,A4,c4,A5,c5,rfl,h.par.sl (fun _ => rfl) h.ok1,h.nod.sl Node.size h.ok2,own0.sl (enc := encB) (ok := fun _ => True) h.ups (fun _ => rfl) (fun _ _ => trivial),h.pro.sl,owns_sl Pt.size h.lic h.ok3⟩
theorem RoomS.far {L0 : List Value} (h : RoomS w lo ps ns up r A1 c1 A2 c2 A3 c3 A4 c4 A5 c5) (hbox : w.ownsRow lo' 73 5 (.slice (some ⟨g,0,none⟩) 1 1) 1 L0) : RoomS (w.setCell ⟨g,p,none⟩ u) lo ps ns up r A1 c1 A2 c2 A3 c3 A4 c4 A5 c5 :=
 ⟨h.par.far hbox (by decide),h.nod.far hbox (by decide),h.ups.far hbox (by decide),h.pro.far hbox (by decide) (by decide),g_far h.lic (fun e => g_apart h.lic hbox (by decide) _ e rfl),h.ok1,h.ok2,h.ok3⟩
theorem RoomS.push {A' : Option Addr} {c' m : Nat} {q : List Pt} {B1 : Option Addr} {d1 : Nat} {L L' : List Value} (h : RoomS w lo ps ns up (pl,lic) A1 c1 A2 c2 A3 c3 A4 c4 A5 c5) (hm : pl.length = m) (h2 : w.ownsRow lo 71 1 (.slice A4 m c4) m L) (h3 : ∀ (k : Nat) (p : List Pt),pl[k]? = some p → ∃ A' c',L[k]? = some (.slice A' p.length c') ∧ w.ownsRow lo 133 4 (.slice A' p.length c') p.length (p.flatMap Pt.enc) ∧ ∀ y ∈ p,y.ok)
  (hr : AppR w w' lo 71 1 (.slice A4 m c4) A' (m + 1) c' L') (e : L' = L ++ [.slice B1 q.length d1]) (ho : w.ownsRow lo 133 4 (.slice B1 q.length d1) q.length (q.flatMap Pt.enc)) (hy : ∀ y ∈ q,y.ok) : RoomS w' lo ps ns up (pl ++ [q],lic) A1 c1 A2 c2 A3 c3 A' c' A5 c5 :=
 ⟨h.par.other hr h2 (by decide),h.nod.other hr h2 (by decide),h.ups.other hr h2 (by decide),by have := PO.grow hm h2 h3 hr e ho hy;show PO w' lo A' (pl ++ [q]).length c' (pl ++ [q]);rw [List.length_append,hm];exact this,hr.other h.lic (g_apart h.lic h2 (by decide)),h.ok1,h.ok2,h.ok3⟩
theorem RoomS.setp {i : Nat} {q : List Pt} {A' : Option Addr} {c' : Nat} (h : RoomS w lo ps ns up (pl,lic) A1 c1 A2 c2 A3 c3 (some ⟨g,0,none⟩) c4 A5 c5) (hi : i < pl.length) (ho : w.ownsRow lo 133 4 (.slice A' q.length c') q.length (q.flatMap Pt.enc)) (hy : ∀ y ∈ q,y.ok) :
  RoomS (w.setCell ⟨g,i,none⟩ (.slice A' q.length c')) lo ps ns up (pl.set i q,lic) A1 c1 A2 c2 A3 c3 (some ⟨g,0,none⟩) c4 A5 c5 := by
 obtain ⟨_,L,hL,_⟩ := h.pro
 have hs := h.pro.set hi ho hy
 exact ⟨h.par.far hL (by decide),h.nod.far hL (by decide),h.ups.far hL (by decide),by show PO _ _ _ (pl.set i q).length _ _;rw [List.length_set];exact hs,g_far h.lic (fun e => g_apart h.lic hL (by decide) _ e rfl),h.ok1,h.ok2,h.ok3⟩
theorem RoomS.box_far {i : Nat} {L0 : List Value} (h : RoomS w lo ps ns up (pl,lic) A1 c1 A2 c2 A3 c3 (some ⟨g,0,none⟩) c4 A5 c5) (hbox : w.ownsRow lo' 73 5 (.slice (some ⟨b,0,none⟩) 1 1) 1 L0) : (w.setCell ⟨g,i,none⟩ u).ownsRow lo' 73 5 (.slice (some ⟨b,0,none⟩) 1 1) 1 L0 := by
 obtain ⟨_,L,hL,_⟩ := h.pro
 exact g_far hbox (fun e => g_apart hbox hL (by decide) _ e rfl)
theorem RoomS.lics {l : List Pt} {A6 : Option Addr} {c6 : Nat} (h : RoomS w lo ps ns up (pl,lic) A1 c1 A2 c2 A3 c3 A4 c4 A5 c5) (ho : w.ownsRow lo 133 4 (.slice A6 l.length c6) l.length (l.flatMap Pt.enc)) (hy : ∀ y ∈ l,y.ok) : RoomS w lo ps ns up (pl,l) A1 c1 A2 c2 A3 c3 A4 c4 A6 c6 :=
 ⟨h.par,h.nod,h.ups,h.pro,ho,h.ok1,h.ok2,hy⟩
end
theorem flat_len {α : Type} {enc : α → List Value} {size : Nat} (hl : ∀ y,(enc y).length = size) (ys : List α) : (ys.flatMap enc).length = ys.length * size := by
 induction ys with
 | nil => simp
 | cons y ys ih => rw [List.flatMap_cons,List.length_append,hl,ih,List.length_cons,Nat.add_mul];omega
theorem run_append0 {P : Program} {u : World} {α : Type} {enc : α → List Value} {ok : α → Prop} (t ty : TypeId)
  (e : TypeId) (i : TypeInfo) (z : Value) (size bytes : Nat) (ht : P.underlying t = some (.slice e)) (hi : P.info? e = some i) (hz : i.zero = some z)
  (hsize : i.size = size) (hby : i.bytes = bytes) (hzs : z.cells.size = size) (hsz : 0 < size)
  (b : Nat) (A : Option Addr) (m c : Nat) (ys : List α) (hys : SlAt (Flat enc ok) size u A m ys) (hl : ∀ y,(enc y).length = size)
  (h63 : m ≤ maxLen) (hbytes : m * bytes ≤ 140737488355328) :
  ∃ A' c' w',(Builtin.append_ #[t,t] ty #[.slice (some ⟨b,0,none⟩) 0 0,.slice A m c]).run P u = .ok (.slice A' m c') w' ∧ Ext u w' ∧ own0 w' u.heap.size e size A' c' m (ys.flatMap enc) := by
 rcases Nat.eq_zero_or_pos m with h0 | h0
 ·subst h0
  refine ⟨some ⟨b,0,none⟩,0,u, ?_,Ext.refl _,.inl rfl⟩
  cases A with
  | none => simp [Builtin.append_,run_underlying ht,sizeOf,typeInfo,hi,Builtin.lenOf,run_firstCells_none,storeCells]
  | some a =>
   have hf := run_firstCells_some (P := P) u i.size 0 a 0 c [] (by simp) (by simp)
   simp [Builtin.append_,run_underlying ht,sizeOf,typeInfo,hi,Builtin.lenOf,hf,storeCells]
 ·obtain ⟨bb,off,rfl,_⟩ := hys.2 h0
  have hlen : (ys.flatMap enc).length = m * size := by
   rw [← hys.1];exact flat_len hl ys
  have hcells : ∀ j v,(ys.flatMap enc)[j]? = some v → u.cell? ((⟨bb,off,none⟩ : Addr).add j) = some v := by
   intro j v hv
   obtain ⟨b2,off2,e1,hb2,hc⟩ := hys.flatCells hl h0
   injection e1 with e1
   injection e1 with e1 e2 _
   subst e1;subst e2
   have := hc j v hv
   unfold Addr.add;split
   ·rename_i hj;subst hj;exact this
   ·exact this
  obtain ⟨v',w',hr,h2,hg⟩ := run_append_arg_grows (P := P) u t ty e i z size bytes ht hi hz hsize hby hzs hsz ⟨b,0,none⟩ 0 0 [] (by simp) (by simp) ⟨bb,off,none⟩ m c (ys.flatMap enc) hlen hcells (by omega) (by omega) (by rw [Nat.zero_add];exact hbytes)
  rw [Nat.zero_add,List.nil_append] at h2
  obtain ⟨A',c',rfl⟩ : ∃ A' c',v' = .slice A' m c' := by
   rcases h2.2 with ⟨rfl,h0⟩ | ⟨g,cap,cur,rfl,_⟩
   ·exact ⟨none,0,by rw [h0]⟩
   ·exact ⟨_,_,rfl⟩
  exact ⟨A',c',w',hr,ext_turned (Ext.refl u) (⟨hg.os,hg.tape,hg.output,hg.size,fun q hq _ => hg.block q hq (fun e => by cases e)⟩ : Turned u.heap.size w'.heap.size u w') (Nat.le_refl _),.inr h2⟩
theorem grow_append0 {P : Program} {u : World} {V : Value → Prop} {F : Value → World → Prop} {α : Type} {enc : α → List Value} {ok : α → Prop} {o : Oper} {a : Act} (s x : Operand) (t : TypeId)
  (ho : o.op = .call { callee := .builtin .append,args := #[s,x],argTypes := #[t,t] })
  (e : TypeId) (i : TypeInfo) (z : Value) (size bytes : Nat) (ht : P.underlying t = some (.slice e)) (hi : P.info? e = some i) (hz : i.zero = some z)
  (hsize : i.size = size) (hby : i.bytes = bytes) (hzs : z.cells.size = size) (hsz : 0 < size)
  (b : Nat) (A : Option Addr) (m c : Nat) (ys : List α) (hs : a.eval s = .slice (some ⟨b,0,none⟩) 0 0) (hx : a.eval x = .slice A m c)
  (hys : SlAt (Flat enc ok) size u A m ys) (hl : ∀ y,(enc y).length = size) (h63 : m ≤ maxLen) (hbytes : m * bytes ≤ 140737488355328)
  (h : ∀ A' c' w',Ext u w' → own0 w' u.heap.size e size A' c' m (ys.flatMap enc) → V (.slice A' m c') ∧ F (.slice A' m c') w') :
  growUpon P u V F ((execOp a.eval o).run P u) := by
 obtain ⟨A',c',w',hr,h1,h2⟩ := run_append0 (P := P) t o.type e i z size bytes ht hi hz hsize hby hzs hsz b A m c ys hys hl h63 hbytes
 unfold execOp
 simp only [ho,resolve,invoke,builtin,Sem.run_bind,Sem.run_pure,Result.andThen_ok,List.map_toArray,List.map_cons,List.map_nil,hs,hx,hr]
 exact ⟨h1,h A' c' w' h1 h2⟩
def gLit : GSp := ⟨fun v => ∃ b,v = .slice (some ⟨b,0,none⟩) 0 0,fun v w => True⟩
def gRow0 (lo : Nat) (e : TypeId) (sz n : Nat) (L : List Value) : GSp := ⟨fun v => ∃ A c,v = .slice A n c,fun v w => ∀ A c,v = .slice A n c → own0 w lo e sz A c n L⟩
theorem gLit_ok : (∀ v,FMono (gLit.F v)) ∧ ∃ v,gLit.V v := ⟨fun v w w' hb h => trivial,_,0,rfl⟩
theorem gRow0_ok (lo : Nat) (e : TypeId) (sz n : Nat) (L : List Value) : (∀ v,FMono ((gRow0 lo e sz n L).F v)) ∧ ∃ v,(gRow0 lo e sz n L).V v := ⟨fun v w w' hb h A c e => (h A c e).ext hb,_,none,0,rfl⟩
theorem height_c (ps : List Int) (A : Option Addr) (m c : Nat) (w : World) (h : SlAt RInt 1 w A (m + 1) ps) (hl : m ≤ 1000) (hup : upGo (ps.drop 1) 1 = true) : Calls Tryz.prog 52 #[.slice A (m + 1) c] w (Same w (.int .i64 (dep ps m))) := by
 have HD := Hh (depth_c ps m A (m + 1) c w h (by unfold maxLen;omega) (by omega) hup)
 clear h hup
 have hg2 : IntKind.i64.wrap ((m : Int) + 1 - 1) = (m : Int) := by rw [show (m : Int) + 1 - 1 = m by omega];exact IntWalk.i64_in _ ⟨by omega,by omega⟩
 generalize (dep ps m : Int) = d at *
 go_enter Tryz.func52,Tryz.ntmps52
 go_wp2_with fail
 refine HD.out.mono ?_
 rintro e w1 ⟨rfl,rfl⟩
 go_wp2
 exact same_int rfl rfl rfl rfl
theorem level_c (ps : List Int) (ns : List Node) (s : Nat) (A : Option Addr) (m c : Nat) (B : Option Addr) (q d : Nat) (w : World) (h : SlAt RInt 1 w A (m + 1) ps) (hl : m ≤ 1000) (hs : s < m + 1) (hup : upGo (ps.drop 1) 1 = true) : Calls Tryz.prog 31 #[.agg #[.slice A (m + 1) c,.slice B q d],.int .i64 s] w (Ret w (.int .i64 (levT ps s))) := by
 have HH := Hh (fun (u : World) (e : Ext w u) => Same.ret (height_c ps A m c u (h.ext (Flat.mono _ _) e) hl hup))
 have HD := Hh (fun (u : World) (e : Ext w u) => Same.ret (depth_c ps s A (m + 1) c u (h.ext (Flat.mono _ _) e) (by unfold maxLen;omega) hs hup))
 have HL := Hh (show levT ps s = (dep ps m : Int) - dep ps s by unfold levT;rw [h.len];rfl)
 have hd1 := dep_le ps m
 have hd2 := dep_le ps s
 clear h hup
 rw [HL.out]
 generalize dep ps m = d1 at *
 generalize dep ps s = d2 at *
 go_enter Tryz.func31,Tryz.ntmps31
 have hcx := @Later.cell (w.alloc (.cells #[.slice A (m + 1) c,.slice B q d] 26))
 have HXW := Hh (fun x : Later (w.alloc (.cells #[.slice A (m + 1) c,.slice B q d] 26)) => ((Ext.refl w).alloc _).trans x.ext)
 go_wp2
 refine wp_region_ext (by kernel_rfl) (by kernel_rfl) ?_
 repeat (go_big_quiet_step (first | ((go_at_call 52;exact Calls.quiet_ext ((HH.out _ (HXW.out _))))) | ((go_at_call 53;exact Calls.quiet_ext ((HD.out _ (HXW.out _)))))))
 refine wpQuiet_nil ?_
 intro w1 hb1
 have HB1 := Hh hb1
 clear hcx  hb1
 go_wp2
 exact ret_int rfl rfl rfl (by go_num) (((Ext.refl w).alloc _).trans HB1.out)
theorem above_c (ps : List Int) (ns : List Node) (s : Nat) (A : Option Addr) (n c : Nat) (B : Option Addr) (m d : Nat) (w : World) (h : SlAt RInt 1 w A n ps) (hn : n ≤ 24) (hs : s < n) (hup : upGo (ps.drop 1) 1 = true) : Calls Tryz.prog 56 #[.agg #[.slice A n c,.slice B m d],.int .i64 s] w (RetOwn RInt 3 1 w (upL ps s)) := by
 obtain ⟨i0,hi,hI0,hI1,hI2⟩ := info_parts (show (Tryz.prog.info? 3).map (fun i => (i.zero,i.size,i.bytes)) = some (some (.int .i64 0),1,8) by kernel_rfl)
 have HN := Hh h.len
 have HP := Hh (fun (u : World) (e : Ext w u) => h.ext (Flat.mono encInt In64) e)
 have HUP := Hh hup
 clear h hup
 have HE0 := Hh (show ((w.alloc (.cells #[.slice A n c,.slice B m d] 26)).alloc (.cells #[.int .i64 s] 3)).ownsRow (w.heap.size + 1) 3 1 (.slice (some ⟨w.heap.size + 1,0,none⟩) 1 1) 1 [.int .i64 s] from by
  have h := gbox1 (w.alloc (.cells #[.slice A n c,.slice B m d] 26)) (.int .i64 s) 3
  rw [show (w.alloc (.cells #[.slice A n c,.slice B m d] 26)).heap.size = w.heap.size + 1 by simp] at h
  exact h)
 go_enter Tryz.func56,Tryz.ntmps56
 go_wp2
 go_loopw [1,5] (fun sv l wr => ∃ (t k : Nat) (pre : List Int) (A1 : Option Addr) (c1 : Nat),sv = .int .i64 t ∧ t ≤ s ∧ Hid (k = pre.length) ∧ l = .slice A1 (k + 1) c1 ∧ k + t ≤ s ∧ Hid (upL ps s = pre ++ upL ps t) ∧ Hid (∀ x ∈ pre,In64 x) ∧ Hid (wr.ownsRow (w.heap.size + 1) 3 1 (.slice A1 (k + 1) c1) (k + 1) ((pre ++ [(t : Int)]).flatMap encInt)) ∧ Ext (w.alloc (.cells #[.slice A n c,.slice B m d] 26)) wr) (fun sv _ _ => (intOf sv).toNat)
 case atStart => exact ⟨s,0,[],_,_,rfl,Nat.le_refl _,Hh rfl,rfl,by omega,Hh rfl,Hh (fun x hx => by cases hx),HE0,(Ext.refl _).alloc _⟩
 case round =>
  clear HE0
  obtain ⟨t,k,pre,A1,c1,rfl,ht,HKL,rfl,hkt,HU,HI,HO,hb⟩ := hrel
  by_cases h0 : 0 < t
  ·obtain ⟨b,o,x,cs,hA,hbw,hx,_,hc,rfl,_⟩ := (HP.out wr (((Ext.refl w).alloc _).trans hb)).at_ (show t < n by omega)
   subst hA
   have g0 := hc 0 _ rfl
   simp only [Nat.mul_one,Nat.add_zero] at g0
   have hp := par_lt HUP.out h0 (by rw [HN.out];omega)
   have hxe : x = (parN ps t : Int) := by
    obtain ⟨h1,h2⟩ := List.getElem?_eq_some_iff.1 hx
    rw [← hp.1];exact h2.symm
   subst hxe
   have hp2 := hp.2
   have HQ := Hh (upL_succ HUP.out h0 (show t < ps.length by rw [HN.out];omega))
   generalize parN ps t = q at *
   have z0 := hb.cell (cell_box_at w w.heap.size rfl [.slice (some ⟨b,o,none⟩) n c,.slice B m d] 26 0 _ rfl)
   have hz0 := lt_of_cell z0
   have hzl := hb.le
   simp at hzl
   clear hc hx hp
   go_wp2_with (at_builtin;go_must (refine wpList_append_r (enc := encInt) (ok := In64) (.tmp 15) (.tmp 17) _ (w.heap.size + 1) 3 i0 _ 1 8 (.slice A1 (k + 1) c1) (k + 1) _ (some ⟨wr.heap.size,0,none⟩) 1 1 [(q : Int)] rfl rfl Tryz.underlying23 hi hI0 hI1 hI2 rfl (by omega) rfl (owns_ext HO.out ((Ext.refl _).alloc _)) rfl (by exact sl_one_at (enc := encInt) _ _ rfl (q : Int) 3 rfl ⟨by omega,by omega⟩) (fun _ => rfl) cInt_one (by unfold maxLen;omega) (by omega) (by simp;omega) ?_);intro A9 c9 w5 hr5;have HR5 := Hh hr5;clear hr5)
   have HXT := Hh (ext_turned (hb.alloc _) (HR5.out.turned (lo := w.heap.size + 1) (fun q hq => (HO.out.lt q hq).1)) (by simp))
   go_wp2
   go_roundw
   case rel => exact ⟨q,k + 1,pre ++ [(t : Int)],A9,c9,rfl,by omega,Hh (by rw [List.length_append,← HKL.out];rfl),rfl,by omega,Hh (by rw [HU.out,HQ.out];simp),Hh (fun y hy => by rcases List.mem_append.1 hy with hy | hy;exact HI.out y hy;(rw [List.mem_singleton.1 hy];exact ⟨by omega,by omega⟩)),Hh (by have h := HR5.out.row;rw [List.flatMap_append];simpa using h),HXT.out⟩
   case measure => simp [intOf];omega
  ·obtain rfl : t = 0 := by omega
   have HR := Hh (show upL ps s = pre ++ [((0 : Nat) : Int)] by rw [HU.out,upL_zero];rfl)
   have HL1 := Hh (show (pre ++ [((0 : Nat) : Int)]).length = k + 1 by rw [List.length_append,← HKL.out];rfl)
   go_wp2
   exact ret_own2 rfl (owns_base (by rw [HR.out];exact HO.out) (by omega)) (by rw [HR.out,HL1.out]) (fun _ => rfl) (fun x hx => by rw [HR.out] at hx;rcases List.mem_append.1 hx with hx | hx;exact HI.out x hx;(rw [List.mem_singleton.1 hx];exact ⟨by omega,by omega⟩)) (((Ext.refl w).alloc _).trans hb)
def overOne (ps : List Int) (ns : List Node) (s n : Int) : Bool := (upL ps ((ns.getD n.toNat ⟨0,⟨0,0,0⟩⟩).Leaf.toNat)).contains s
theorem overAll_eq (ps : List Int) (ns : List Node) (nodes : List Int) (s : Int) : overAll ps ns nodes s = nodes.all (overOne ps ns s) := rfl
theorem all_step {α : Type} {l : List α} {p : α → Bool} {k : Nat} {x : α} (hx : l[k]? = some x) : (l.take (k + 1)).all p = ((l.take k).all p && p x) := by
 rw [take_succ hx,List.all_append];simp
theorem low_step (ps : List Int) (ns : List Node) (nodes : List Int) {r k : Nat} (best : Int) : lowGo ps ns nodes (r + 1) k best = lowGo ps ns nodes r (k + 1) (if (overAll ps ns nodes k && (decide (best < 0) || decide (levT ps k ≤ levT ps best.toNat))) = true then k else best) := rfl
theorem Lowest_c (ps : List Int) (ns : List Node) (nodes : List Int) (A : Option Addr) (m c : Nat) (B : Option Addr) (q d : Nat) (D : Option Addr) (n f : Nat) (w : World) (h : SlAt RInt 1 w A (m + 1) ps) (h2 : SlAt RNode 4 w B q ns) (h3 : SlAt RInt 1 w D n nodes) (hn : n ≤ 1048576) (h0 : 0 < n) (ht : topoB ps ns = true) (hv : nodesIn ns.length nodes = true) : Calls Tryz.prog 32 #[.agg #[.slice A (m + 1) c,.slice B q d],.slice D n f] w (Ret w (.int .i64 (lowestI ps ns nodes))) := by
 have htp := topo_parts ht
 have hm : m + 1 ≤ 24 := by have := htp.1.2;rw [h.len] at this;exact this
 have hq : q ≤ 24 := by have := htp.2.1;rw [h2.len] at this;exact this
 have HAN := Hh (fun (u : World) (e : Ext w u) => areNodes_c ps ns nodes A (m + 1) c B q d D n f u (h.ext (Flat.mono _ _) e) (by unfold maxLen;omega) (h2.ext (Flat.mono _ _) e) (by unfold maxLen;omega) (h3.ext (Flat.mono _ _) e) (by unfold maxLen;omega))
 rw [show (nodesB ns.length nodes && topoB ps ns) = true by rw [ht,Bool.and_true];exact hv] at HAN
 have HAB := Hh (fun (s : Nat) (hs : s < m + 1) (u : World) (e : Ext w u) => RetOwn.sl (above_c ps ns s A (m + 1) c B q d u (h.ext (Flat.mono _ _) e) hm hs htp.2.2.1))
 have HLV := Hh (fun (s : Nat) (hs : s < m + 1) (u : World) (e : Ext w u) => level_c ps ns s A m c B q d u (h.ext (Flat.mono _ _) e) (by omega) hs htp.2.2.1)
 have H2 := Hh (fun (u : World) (e : Ext w u) => h2.ext (Flat.mono Node.enc Node.ok) e)
 have H3 := Hh (fun (u : World) (e : Ext w u) => h3.ext (Flat.mono encInt In64) e)
 have HLO := Hh (show lowestI ps ns nodes = lowGo ps ns nodes (m + 1) 0 (-1) by
  unfold lowestI
  rw [if_pos (by rw [ht,hv,h3.len,decide_eq_true h0];rfl),h.len])
 have HND := Hh (fun (x : Node) (hx : x ∈ ns) => show 0 ≤ x.Leaf ∧ x.Leaf < (m : Int) + 1 from by
  have h5 := htp.2.2.2.2.1 x hx
  unfold nodeB withinB at h5
  simp only [Bool.and_eq_true,decide_eq_true_iff] at h5
  have := h5.1
  have h6 := h.len
  omega)
 have HVN := Hh (fun (x : Int) (hx : x ∈ nodes) => show 0 ≤ x ∧ x < (q : Int) from by have := nodesIn_at hv hx;rw [h2.len] at this;exact this)
 have HNL := Hh h3.len
 have HQL := Hh h2.len
 have hup := htp.2.2.1
 have hlu := Hh (fun s => upL_len ps s)
 clear h h2 h3 ht hv htp hup
 generalize lowestI ps ns nodes = R at *
 go_enter Tryz.func32,Tryz.ntmps32
 go_wp2_with fail
 refine (HAN.out _ Ext.go).mono ?_
 rintro e w1 ⟨rfl,hb1⟩
 obtain ⟨hcr1,hfr1,hz1⟩ := hb1.rules
 (try simp at hz1)
 have hy1_w0 : w.heap.size < w1.heap.size := (by omega)
 obtain ⟨b0,b1⟩ := bc2 w (w.heap.size) (.slice A (m + 1) c) (.slice B q d) 26 ((hb1)) (by simp)
 obtain ⟨bf0,bf1⟩ := bf2 w (w.heap.size) (.slice A (m + 1) c) (.slice B q d) 26 ((hb1)) (by simp)
 have hb0 := lt_of_cell b0
 clear hcr1 hfr1
 have hn0 : ((n : Int) == 0) = false := by rw [beq_eq_false_iff_ne];omega
 go_wp2
 go_loopw [5,22] (fun bv iv wr => ∃ (k : Nat) (bst : Int),k ≤ m + 1 ∧ iv = .int .i64 k ∧ bv = .int .i64 bst ∧ (bst = -1 ∨ 0 ≤ bst ∧ bst < k) ∧ Hid (R = lowGo ps ns nodes (m + 1 - k) k bst) ∧ Ext (w.alloc (.cells #[.slice A (m + 1) c,.slice B q d] 26)) wr) (fun _ iv _ => m + 1 - (intOf iv).toNat)
 case atStart => exact ⟨0,-1,Nat.zero_le _,rfl,rfl,.inl rfl,HLO,hb1⟩
 case round =>
  clear b0 b1 bf0 bf1 hb1
  obtain ⟨k,bst,hk,rfl,rfl,hbst,HG,hb⟩ := hrel
  by_cases hlt : k < m + 1
  ·have hkd : decide ((k : Int) < (m : Int) + 1) = true := by rw [decide_eq_true_iff];omega
   go_wp2
   go_loopw [7,27] (fun av jv wq => ∃ (j : Nat) (al : Bool),j ≤ n ∧ jv = .int .i64 j ∧ av = .bool al ∧ Hid (al = (nodes.take j).all (overOne ps ns k)) ∧ Ext (w.alloc (.cells #[.slice A (m + 1) c,.slice B q d] 26)) wq) (fun _ jv _ => n - (intOf jv).toNat)
   case atStart => exact ⟨0,true,Nat.zero_le _,rfl,rfl,Hh rfl,hb⟩
   case round =>
    obtain ⟨j,al,hj,rfl,rfl,HAL,hbq⟩ := hrel
    have hxq : Ext w wr := ((Ext.refl w).alloc _).trans hbq
    by_cases hlt2 : j < n
    ·obtain ⟨bo,oo,x,cs,hD,hbw,hx,_,hc,rfl,_⟩ := (H3.out wr hxq).at_ hlt2
     subst hD
     have g0 := hc 0 _ rfl
     simp only [Nat.mul_one,Nat.add_zero] at g0
     have HST := Hh (all_step (p := overOne ps ns k) hx)
     obtain ⟨hxa,hxb⟩ := HVN.out x (List.mem_of_getElem? hx)
     obtain ⟨i,rfl⟩ := Int.eq_ofNat_of_zero_le hxa
     have hi : i < q := by omega
     obtain ⟨bn,on,y,cs2,hB,hbw2,hy,_,hc2,rfl,_⟩ := (H2.out wr hxq).at_ hi
     subst hB
     have y0 := hc2 0 _ rfl
     have y1 := hc2 1 _ rfl
     have y2 := hc2 2 _ rfl
     have y3 := hc2 3 _ rfl
     simp only [Nat.add_zero] at y0
     have hyl := HND.out y (List.mem_of_getElem? hy)
     have HOV := Hh (show overOne ps ns k (i : Int) = (upL ps y.Leaf.toNat).contains (k : Int) by unfold overOne;rw [show ((i : Int)).toNat = i by omega,List.getD_eq_getElem?_getD,hy];rfl)
     obtain ⟨lf,hlf⟩ : ∃ lf : Nat,y.Leaf = lf := ⟨y.Leaf.toNat,by omega⟩
     rw [hlf] at y0 HOV hyl
     rw [show ((lf : Int)).toNat = lf by omega] at HOV
     have HAB2 := Hh (fun (u : World) (e : Ext wr u) => HAB.out lf (by omega) u (hxq.trans e))
     have z0 := hbq.cell (cell_box_at w w.heap.size rfl [.slice A (m + 1) c,.slice (some ⟨bn,on,none⟩) q d] 26 0 _ rfl)
     have z1 := hbq.cell (cell_box_at w w.heap.size rfl [.slice A (m + 1) c,.slice (some ⟨bn,on,none⟩) q d] 26 1 _ rfl)
     have hz0 := lt_of_cell z0
     have hul := hlu.out lf
     clear hx hc hy hc2 y1 y2 y3
     rcases al with _ | _
     ·go_wp2
      go_quiet (fail)
      go_wp2
      go_roundw
      case rel => exact ⟨j + 1,false,by omega,by go_num,rfl,Hh (by rw [HST.out,← HAL.out];rfl),Ext.trans hbq ((Ext.refl _).drewN _)⟩
      case measure => simp [intOf];omega
     ·have HKS := Hh (fun (u : World) (e : Ext wr u) => show Ext wr u ∧ u.cell? ⟨w.heap.size,0,none⟩ = some (.slice A (m + 1) c) ∧ u.cell? ⟨w.heap.size,1,none⟩ = some (.slice (some ⟨bn,on,none⟩) q d) ∧ u.cell? ⟨bn,on + i * 4,none⟩ = some (.int .i64 lf) from ⟨e,e.cell z0,e.cell z1,e.cell y0⟩)
      go_wp2
      go_region_held3 (fun u => Ext wr u ∧ u.cell? ⟨w.heap.size,0,none⟩ = some (.slice A (m + 1) c) ∧ u.cell? ⟨w.heap.size,1,none⟩ = some (.slice (some ⟨bn,on,none⟩) q d) ∧ u.cell? ⟨bn,on + i * 4,none⟩ = some (.int .i64 lf)) ((refine HKS.out _ ?_;first | exact (Ext.refl _).drew | assumption | exact HE6.out | exact HE5.out)) (first | (go_at_call 56;(with_reducible refine (HAB2.out _ (by repeat (first | exact Ext.refl _ | apply Ext.drew))).mono ?_);rintro e w5 ⟨A5,c5,rfl,hs5,hb5⟩;have HE5 := Hh (show Ext wr w5 from Ext.trans (by repeat (first | exact Ext.refl _ | apply Ext.drew)) hb5);have HS5 := Hh hs5;clear hs5) | (go_at_call 55;(with_reducible refine (Contains_c (upL ps lf) (k : Int) A5 (upL ps lf).length c5 _ HS5.out (by unfold maxLen;omega)).mono ?_);rintro e w6 ⟨rfl,hb6⟩;have HE6 := Hh (HE5.out.trans hb6)))
      all_goals
       go_wp2
       go_roundw
       case rel => exact ⟨j + 1,decide ((k : Int) ∈ upL ps lf),by omega,by go_num,rfl,Hh (by rw [HST.out,← HAL.out,HOV.out];simp),hbq.trans HE6.out⟩
       case measure => simp [intOf];omega
    ·have HAF := Hh (show overAll ps ns nodes k = al by rw [overAll_eq,HAL.out,List.take_of_length_le (by have := HNL.out;omega)])
     have HGS := Hh (show R = lowGo ps ns nodes (m + 1 - (k + 1)) (k + 1) (if (al && (decide (bst < 0) || decide (levT ps k ≤ levT ps bst.toNat))) = true then k else bst) by rw [HG.out,show m + 1 - k = m + 1 - (k + 1) + 1 by omega,low_step,HAF.out])
     have z0 := hbq.cell (cell_box_at w w.heap.size rfl [.slice A (m + 1) c,.slice B q d] 26 0 _ rfl)
     have z1 := hbq.cell (cell_box_at w w.heap.size rfl [.slice A (m + 1) c,.slice B q d] 26 1 _ rfl)
     have hz0 := lt_of_cell z0
     rcases al with _ | _
     ·go_wp2
      go_quiet (fail)
      go_wp2
      go_roundw
      case rel => exact ⟨k + 1,bst,by omega,by go_num,rfl,by omega,Hh (by rw [HGS.out];rfl),Ext.trans hbq ((Ext.refl _).drewN _)⟩
      case measure => simp [intOf];omega
     ·rcases hbst with rfl | ⟨hb1,hb2⟩
      ·go_wp2
       go_quiet (fail)
       go_wp2
       go_roundw
       case rel => exact ⟨k + 1,k,by omega,by go_num,rfl,.inr ⟨by omega,by omega⟩,Hh (by rw [HGS.out];rfl),Ext.trans hbq ((Ext.refl _).drewN _)⟩
       case measure => simp [intOf];omega
      ·obtain ⟨t,rfl⟩ := Int.eq_ofNat_of_zero_le hb1
       have hdb : decide ((t : Int) < 0) = false := by rw [decide_eq_false_iff_not];omega
       have HG2 := Hh (show R = lowGo ps ns nodes (m + 1 - (k + 1)) (k + 1) (if levT ps k ≤ levT ps t then (k : Int) else t) by
        rw [HGS.out,hdb,show ((t : Int)).toNat = t by omega]
        by_cases hle : levT ps k ≤ levT ps t
        ·rw [if_pos hle,decide_eq_true hle];rfl
        ·rw [if_neg hle,decide_eq_false hle];rfl)
       have HV1 := Hh (fun (u : World) (e : Ext wr u) => HLV.out k hlt u ((((Ext.refl w).alloc _).trans hbq).trans e))
       have HV2 := Hh (fun (u : World) (e : Ext wr u) => HLV.out t (by omega) u ((((Ext.refl w).alloc _).trans hbq).trans e))
       generalize levT ps k = l1 at *
       generalize levT ps t = l2 at *
       have hcx := @Later.cell wr
       have HXW := Hh (fun x : Later wr => x.ext)
       by_cases hle : l1 ≤ l2
       ·rw [if_pos hle] at HG2
        go_wp2
        refine wp_region_ext (by kernel_rfl) (by kernel_rfl) ?_
        repeat (go_big_quiet_step (first | (go_at_call 31;with_reducible exact Calls.quiet_ext (HV1.out _ (HXW.out _))) | (go_at_call 31;with_reducible exact Calls.quiet_ext (HV2.out _ (HXW.out _)))))
        refine wpQuiet_nil ?_
        intro w7 hb7
        clear hcx z0 z1
        go_wp2
        go_roundw
        case rel => exact ⟨k + 1,k,by omega,by go_num,rfl,.inr ⟨by omega,by omega⟩,HG2,hbq.trans hb7⟩
        case measure => simp [intOf];omega
       ·rw [if_neg hle] at HG2
        go_wp2
        refine wp_region_ext (by kernel_rfl) (by kernel_rfl) ?_
        repeat (go_big_quiet_step (first | (go_at_call 31;with_reducible exact Calls.quiet_ext (HV1.out _ (HXW.out _))) | (go_at_call 31;with_reducible exact Calls.quiet_ext (HV2.out _ (HXW.out _)))))
        refine wpQuiet_nil ?_
        intro w7 hb7
        clear hcx z0 z1
        go_wp2
        go_roundw
        case rel => exact ⟨k + 1,t,by omega,by go_num,rfl,.inr ⟨by omega,by omega⟩,HG2,hbq.trans hb7⟩
        case measure => simp [intOf];omega
  ·have HE := Hh (show R = bst by rw [HG.out,show m + 1 - k = 0 by omega];rfl)
   go_wp2
   exact ret_int rfl rfl rfl (by rw [HE.out]) (((Ext.refl w).alloc _).trans hb)
end Go.Proofs.YtfanjhcdjbnnnaaGreat
