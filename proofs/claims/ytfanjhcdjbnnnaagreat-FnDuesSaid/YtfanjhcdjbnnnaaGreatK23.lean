/- SRes. -/
import Derived.Test.YtfanjhcdjbnnnaaGreatK16
import Derived.Test.YtfanjhcdjbnnnaaGreatK22
import Derived.Test.YtfanjhcdjbnnnaaGreatK20
import Derived.Deep.RegionHeld3
namespace Go.Proofs.YtfanjhcdjbnnnaaGreat
open Go.RowKit
set_option linter.unusedVariables false
set_option maxHeartbeats 16000000
set_option maxRecDepth 10000
def RetRoomSB (w : World) (ps : List Int) (ns : List Node) (up : List Bool) (R : Option (List (List Pt) × List Pt)) : Ending → World → Prop := fun e w' => ∃ A1 n1 c1 A2 n2 c2 A3 n3 c3 A4 n4 c4 A5 n5 c5,e = .returned (.tuple #[.agg #[.slice A1 n1 c1,.slice A2 n2 c2,.slice A3 n3 c3,.slice A4 n4 c4,.slice A5 n5 c5],.bool R.isSome]) ∧ (∀ r,R = some r → n1 = ps.length ∧ n2 = ns.length ∧ n3 = up.length ∧ n4 = r.1.length ∧ n5 = r.2.length ∧ RoomS w' w.heap.size ps ns up r A1 c1 A2 c2 A3 c3 A4 c4 A5 c5) ∧ Ext w w'
theorem retRoomS_none {w w' : World} {ps : List Int} {ns : List Node} {up : List Bool} {R : Option (List (List Pt) × List Pt)} (h : R = none) (hb : Ext w w') : RetRoomSB w ps ns up R (.returned (.tuple #[.agg #[.slice none 0 0,.slice none 0 0,.slice none 0 0,.slice none 0 0,.slice none 0 0],.bool false])) w' := by
 subst h
 exact ⟨none,0,0,none,0,0,none,0,0,none,0,0,none,0,0,rfl,(fun r hr => by cases hr),hb⟩
def RetRoomSZ (w : World) (ps : List Int) (ns : List Node) (up : List Bool) (R : Option (List (List Pt) × List Pt)) : Ending → World → Prop := fun e w' => ∃ A1 n1 c1 A2 n2 c2 A3 n3 c3 A4 n4 c4 A5 n5 c5,e = .returned (.tuple #[.agg #[.slice A1 n1 c1,.slice A2 n2 c2,.slice A3 n3 c3,.slice A4 n4 c4,.slice A5 n5 c5],.bool R.isSome]) ∧ (∀ r,R = some r → n1 = ps.length ∧ n2 = ns.length ∧ n3 = up.length ∧ n4 = r.1.length ∧ n5 = r.2.length ∧ RoomS w' w.heap.size ps ns up r A1 c1 A2 c2 A3 c3 A4 c4 A5 c5) ∧ (R = none → (A1 = none ∧ n1 = 0 ∧ c1 = 0) ∧ (A2 = none ∧ n2 = 0 ∧ c2 = 0) ∧ (A3 = none ∧ n3 = 0 ∧ c3 = 0) ∧ (A4 = none ∧ n4 = 0 ∧ c4 = 0) ∧ A5 = none ∧ n5 = 0 ∧ c5 = 0) ∧ Ext w w'
theorem retRoomZ_none {w w' : World} {ps : List Int} {ns : List Node} {up : List Bool} {R : Option (List (List Pt) × List Pt)} (h : R = none) (hb : Ext w w') : RetRoomSZ w ps ns up R (.returned (.tuple #[.agg #[.slice none 0 0,.slice none 0 0,.slice none 0 0,.slice none 0 0,.slice none 0 0],.bool false])) w' := by
 subst h
 exact ⟨none,0,0,none,0,0,none,0,0,none,0,0,none,0,0,rfl,(fun r hr => by cases hr),(fun _ => ⟨⟨rfl,rfl,rfl⟩,⟨rfl,rfl,rfl⟩,⟨rfl,rfl,rfl⟩,⟨rfl,rfl,rfl⟩,rfl,rfl,rfl⟩),hb⟩
theorem sReserveZ_c (ps : List Int) (ns : List Node) (up : List Bool) (pl : List (List Pt)) (lic : List Pt) (j : Job) (fr : Int) (nodes : List Int) (A : Option Addr) (n c : Nat) (v : Value) (w : World) (h : RoomAt w ps ns up (pl,lic) v) (ht : topoB ps ns = true) (hu : up.length = ns.length) (hr : roomOkM ns.length (pl,lic)) (h3 : SlAt RInt 1 w A n nodes) (hl3 : n ≤ maxLen) (hcap : n ≤ c) (hfr : In64 fr) : Calls Tryz.prog 60 #[v,.agg #[.int .i64 j.Id,.int .i64 j.Prio,.int .i64 j.Nodes,.int .i64 j.Need.A,.int .i64 j.Need.B,.int .i64 j.Need.C,.int .i64 j.Lic.A,.int .i64 j.Lic.B,.int .i64 j.Lic.C,.int .i64 j.Wall,.int .i64 j.Level],.int .i64 fr,.slice A n c] w (RetRoomSZ w ps ns up (if (jobB j && jobNodesB ns.length j nodes && timeB fr) = true then moveM fr (fr + j.Wall) j nodes (pl,lic) else none)) := by
 obtain ⟨⟨_,hp1⟩,hn1,_⟩ := topo_parts ht
 have hM := Flat.mono encInt In64
 have hpl := hr.1
 simp only [] at hpl
 have HDF := Hh (fun (u : World) (e : Ext w u) => l04Diff_c ps ns up pl lic j nodes A n c v u (h.ext e) ht hu hr (h3.ext hM e) hl3 hcap)
 have HTI := Hh (fun u : World => sTime_c fr u)
 have HCP := Hh (fun (u : World) (e : Ext w u) => l04Copy_c ps ns up pl lic v u (h.ext e) hp1 hn1 (by omega) (by omega) (fun p hp => (profB_parts (hr.2.1 p hp)).2.1) (profB_parts hr.2.2).2.1)
 have HH := Hh h
 obtain ⟨A1,c1,A2,c2,A3,c3,A4,c4,A5,c5,rfl,_,_,_,_,_⟩ := h
 have H3 := Hh (fun (u : World) (e : Ext w u) => h3.ext hM e)
 have HNL := Hh h3.len
 have HR := Hh hr
 have HNI := Hh (fun (hh : (jobB j && jobNodesB ns.length j nodes) = true) => show nodesIn ns.length nodes = true from by
  unfold jobNodesB at hh
  simp only [Bool.and_eq_true] at hh
  exact hh.2.1.2)
 have HJW := Hh (fun (hh : (jobB j && jobNodesB ns.length j nodes) = true) => show jobB j = true from by
  rw [Bool.and_eq_true] at hh;exact hh.1)
 have hl3' := hl3
 unfold maxLen at hl3
 have HPLN := Hh hpl
 clear h3 hr ht hpl hu
 rcases (Bool.eq_false_or_eq_true (jobB j && jobNodesB ns.length j nodes)).symm with hj | hj
 all_goals rw [hj] at HDF ⊢
 ·go_enter Tryz.func60,Tryz.ntmps60
  go_wp2_with fail
  refine (HDF.out _ Ext.go).mono ?_
  rintro e w1 ⟨rfl,hb1⟩
  obtain ⟨hcr1,hfr1,hz1⟩ := hb1.rules
  (try simp at hz1)
  have hy1_w0 : w.heap.size < w1.heap.size := (by omega)
  have hy1_w1 : w.heap.size + 1 < w1.heap.size := (by omega)
  have hy1_w2 : w.heap.size + 1 + 1 < w1.heap.size := (by omega)
  obtain ⟨q0,q1,q2,q3,q4⟩ := bc5 ((w.alloc (.cells #[.slice A1 ps.length c1,.slice A2 ns.length c2,.slice A3 up.length c3,.slice A4 pl.length c4,.slice A5 lic.length c5] 73)).alloc (.cells #[.int .i64 j.Id,.int .i64 j.Prio,.int .i64 j.Nodes,.int .i64 j.Need.A,.int .i64 j.Need.B,.int .i64 j.Need.C,.int .i64 j.Lic.A,.int .i64 j.Lic.B,.int .i64 j.Lic.C,.int .i64 j.Wall,.int .i64 j.Level] 52)) (w.heap.size + 1 + 1) (.slice none 0 0) (.slice none 0 0) (.slice none 0 0) (.slice none 0 0) (.slice none 0 0) 73 ((hb1)) (by simp)
  obtain ⟨qf0,qf1,qf2,qf3,qf4⟩ := bf5 ((w.alloc (.cells #[.slice A1 ps.length c1,.slice A2 ns.length c2,.slice A3 up.length c3,.slice A4 pl.length c4,.slice A5 lic.length c5] 73)).alloc (.cells #[.int .i64 j.Id,.int .i64 j.Prio,.int .i64 j.Nodes,.int .i64 j.Need.A,.int .i64 j.Need.B,.int .i64 j.Need.C,.int .i64 j.Lic.A,.int .i64 j.Lic.B,.int .i64 j.Lic.C,.int .i64 j.Wall,.int .i64 j.Level] 52)) (w.heap.size + 1 + 1) (.slice none 0 0) (.slice none 0 0) (.slice none 0 0) (.slice none 0 0) (.slice none 0 0) 73 ((hb1)) (by simp)
  have hql := lt_of_cell q0
  have HXF := Hh (((((Ext.refl w).alloc _).alloc _).alloc _).trans hb1)
  clear HDF HTI HCP HH H3 HNL HR HNI HJW HPLN hcr1 hfr1 hb1
  go_wp2
  exact bodyPost_ret (v := .tuple #[.agg #[.slice none 0 0,.slice none 0 0,.slice none 0 0,.slice none 0 0,.slice none 0 0],.bool false]) (by simp [results,Tryz.results60,go_sem, *]) rfl (retRoomZ_none rfl (HXF.out.five (by omega) _ _ _ _ _))
 rcases (Bool.eq_false_or_eq_true (timeB fr)).symm with hn | hn
 all_goals rw [hn] at HTI ⊢
 ·go_enter Tryz.func60,Tryz.ntmps60
  go_wp2_with fail
  refine (HDF.out _ Ext.go).mono ?_
  rintro e w1 ⟨rfl,hb1⟩
  obtain ⟨hcr1,hfr1,hz1⟩ := hb1.rules
  (try simp at hz1)
  have hy1_w0 : w.heap.size < w1.heap.size := (by omega)
  have hy1_w1 : w.heap.size + 1 < w1.heap.size := (by omega)
  have hy1_w2 : w.heap.size + 1 + 1 < w1.heap.size := (by omega)
  go_wp2_with fail
  refine (HTI.out _).mono ?_
  rintro e w2 ⟨rfl,rfl⟩
  obtain ⟨q0,q1,q2,q3,q4⟩ := bc5 ((w.alloc (.cells #[.slice A1 ps.length c1,.slice A2 ns.length c2,.slice A3 up.length c3,.slice A4 pl.length c4,.slice A5 lic.length c5] 73)).alloc (.cells #[.int .i64 j.Id,.int .i64 j.Prio,.int .i64 j.Nodes,.int .i64 j.Need.A,.int .i64 j.Need.B,.int .i64 j.Need.C,.int .i64 j.Lic.A,.int .i64 j.Lic.B,.int .i64 j.Lic.C,.int .i64 j.Wall,.int .i64 j.Level] 52)) (w.heap.size + 1 + 1) (.slice none 0 0) (.slice none 0 0) (.slice none 0 0) (.slice none 0 0) (.slice none 0 0) 73 ((hb1)) (by simp)
  obtain ⟨qf0,qf1,qf2,qf3,qf4⟩ := bf5 ((w.alloc (.cells #[.slice A1 ps.length c1,.slice A2 ns.length c2,.slice A3 up.length c3,.slice A4 pl.length c4,.slice A5 lic.length c5] 73)).alloc (.cells #[.int .i64 j.Id,.int .i64 j.Prio,.int .i64 j.Nodes,.int .i64 j.Need.A,.int .i64 j.Need.B,.int .i64 j.Need.C,.int .i64 j.Lic.A,.int .i64 j.Lic.B,.int .i64 j.Lic.C,.int .i64 j.Wall,.int .i64 j.Level] 52)) (w.heap.size + 1 + 1) (.slice none 0 0) (.slice none 0 0) (.slice none 0 0) (.slice none 0 0) (.slice none 0 0) 73 ((hb1)) (by simp)
  have hql := lt_of_cell q0
  have HXF := Hh (((((Ext.refl w).alloc _).alloc _).alloc _).trans hb1)
  clear HDF HTI HCP HH H3 HNL HR HNI HJW HPLN hcr1 hfr1 hb1
  go_wp2
  exact bodyPost_ret (v := .tuple #[.agg #[.slice none 0 0,.slice none 0 0,.slice none 0 0,.slice none 0 0,.slice none 0 0],.bool false]) (by simp [results,Tryz.results60,go_sem, *]) rfl (retRoomZ_none rfl (HXF.out.five (by omega) _ _ _ _ _))
 ·have HNN := Hh (HNI.out hj)
  simp only [Bool.and_self,if_true]
  have HMV := Hh (show moveM fr (fr + j.Wall) j nodes (pl,lic) = (match takeAll fr (fr + j.Wall) j.Need nodes pl with
   | none => none
   | some ps => match takeQ lic fr (fr + j.Wall) j.Lic with
    | none => none
    | some l => some (ps,l)) from rfl)
  generalize moveM fr (fr + j.Wall) j nodes (pl,lic) = R at *
  have hwr0 : IntKind.i64.wrap (fr + j.Wall) = fr + j.Wall := by
   have h1 := jobB_wall (HJW.out hj)
   unfold timeB at hn
   rw [decide_eq_true_iff] at hn
   exact IntWalk.i64_in _ ⟨by omega,by omega⟩
  clear hn
  obtain ⟨te,hwr,hte⟩ : ∃ te,IntKind.i64.wrap (fr + j.Wall) = te ∧ te = fr + j.Wall   := ⟨_,hwr0,rfl⟩
  rw [← hte] at HMV
  clear hte hwr0
  go_enter Tryz.func60,Tryz.ntmps60
  go_wp2_with fail
  refine (HDF.out _ Ext.go).mono ?_
  rintro e w1 ⟨rfl,hb1⟩
  obtain ⟨hcr1,hfr1,hz1⟩ := hb1.rules
  (try simp at hz1)
  have hy1_w0 : w.heap.size < w1.heap.size := (by omega)
  have hy1_w1 : w.heap.size + 1 < w1.heap.size := (by omega)
  have hy1_w2 : w.heap.size + 1 + 1 < w1.heap.size := (by omega)
  go_wp2_with fail
  refine (HTI.out _).mono ?_
  rintro e w2 ⟨rfl,rfl⟩
  have hx3 : Ext w w1 := Ext.go
  go_wp2_with fail
  refine (HCP.out _ hx3).mono ?_
  rintro e w5 ⟨B1,d1,B2,d2,B3,d3,B4,d4,B5,d5,rfl,hro,hb5⟩
  have HRM := Hh hro
  have hx5 : Ext w w5 := hx3.trans hb5
  have HX5 := Hh (show Ext (((w.alloc (.cells #[.slice A1 ps.length c1,.slice A2 ns.length c2,.slice A3 up.length c3,.slice A4 pl.length c4,.slice A5 lic.length c5] 73)).alloc (.cells #[.int .i64 j.Id,.int .i64 j.Prio,.int .i64 j.Nodes,.int .i64 j.Need.A,.int .i64 j.Need.B,.int .i64 j.Need.C,.int .i64 j.Lic.A,.int .i64 j.Lic.B,.int .i64 j.Lic.C,.int .i64 j.Wall,.int .i64 j.Level] 52)).alloc (.cells #[.slice none 0 0,.slice none 0 0,.slice none 0 0,.slice none 0 0,.slice none 0 0] 73)) w5 from hb1.trans hb5)
  have hz5 := hb5.le
  have hz9 : w.heap.size + 1 + 1 + 1 ≤ w1.heap.size := by omega
  have HRB := Hh (hro.base (lo' := w.heap.size + 1 + 1 + 1) hz9)
  clear hro hcr1 hfr1 hb1 hb5 hx3
  have HBX5 := Hh (show (w5.alloc (.cells #[.slice B1 ps.length d1,.slice B2 ns.length d2,.slice B3 up.length d3,.slice B4 pl.length d4,.slice B5 lic.length d5] 73)).ownsRow (w.heap.size + 1 + 1 + 1) 73 5 (.slice (some ⟨w5.heap.size,0,none⟩) 1 1) 1 [.slice B1 ps.length d1,.slice B2 ns.length d2,.slice B3 up.length d3,.slice B4 pl.length d4,.slice B5 lic.length d5] from owns_base (gbox w5 [.slice B1 ps.length d1,.slice B2 ns.length d2,.slice B3 up.length d3,.slice B4 pl.length d4,.slice B5 lic.length d5] 73 5 rfl) (by omega))
  have hzb : (w.heap.size + 1 + 1 + 1) ≤ w5.heap.size := by omega
  go_wp2
  go_loopw [32] (fun iv wr => ∃ (k : Nat) (ql : List (List Pt)),k ≤ n ∧ iv = .int .i64 k ∧ Hid (takeAll fr te j.Need nodes pl = takeAll fr te j.Need (nodes.drop k) ql) ∧ Hid (RoomS wr (w.heap.size + 1 + 1 + 1) ps ns up (ql,lic) B1 d1 B2 d2 B3 d3 B4 d4 B5 d5) ∧ Hid (ql.length = ns.length ∧ ∀ p ∈ ql,profB p = true) ∧ Hid (wr.ownsRow (w.heap.size + 1 + 1 + 1) 73 5 (.slice (some ⟨w5.heap.size,0,none⟩) 1 1) 1 [.slice B1 ps.length d1,.slice B2 ns.length d2,.slice B3 up.length d3,.slice B4 pl.length d4,.slice B5 lic.length d5]) ∧ Ext (((w.alloc (.cells #[.slice A1 ps.length c1,.slice A2 ns.length c2,.slice A3 up.length c3,.slice A4 pl.length c4,.slice A5 lic.length c5] 73)).alloc (.cells #[.int .i64 j.Id,.int .i64 j.Prio,.int .i64 j.Nodes,.int .i64 j.Need.A,.int .i64 j.Need.B,.int .i64 j.Need.C,.int .i64 j.Lic.A,.int .i64 j.Lic.B,.int .i64 j.Lic.C,.int .i64 j.Wall,.int .i64 j.Level] 52)).alloc (.cells #[.slice none 0 0,.slice none 0 0,.slice none 0 0,.slice none 0 0,.slice none 0 0] 73)) wr) (fun iv _ => n - (intOf iv).toNat)
  case atStart => exact ⟨0,pl,Nat.zero_le _,rfl,Hh rfl,Hh (HRB.out.ext ((Ext.refl _).alloc _)),Hh ⟨HPLN.out,HR.out.2.1⟩,HBX5,HX5.out.alloc _⟩
  case round =>
   clear HBX5 hx5 HCP HDF HTI HH HNI HJW HRM HRB hy1_w0 hy1_w1 hy1_w2 hz1 hz5 hM hl3'
   obtain ⟨k,ql,hk,rfl,HTA,HRO2,HQ,HBX,hb⟩ := hrel
   by_cases hlt : k < n
   ·obtain ⟨bq,oq,x,cs,rfl,hbw,hx2,_,hc,rfl,hok⟩ := (H3.out wr ((((((Ext.refl w).alloc _).alloc _).alloc _)).trans hb)).at_ hlt
    have g0 := hc 0 _ rfl
    simp only [Nat.mul_one,Nat.add_zero] at g0
    have HST := Hh (take_step (fr := fr) (te := te) (v := j.Need) (pl := ql) hx2)
    obtain ⟨hxa,hxb⟩ := nodesIn_at HNN.out (List.mem_of_getElem? hx2)
    obtain ⟨i,rfl⟩ := Int.eq_ofNat_of_zero_le hxa
    obtain ⟨p,hp⟩ : ∃ p,ql[i]? = some p := ⟨_,List.getElem?_eq_getElem (by have := HQ.out.1;omega)⟩
    obtain ⟨g,rfl,hg1,hg2⟩ := HRO2.out.pro.form (by have := HQ.out.1;simp only [];omega)
    obtain ⟨Ap,cp,hcell,hsp,hfz,_,_⟩ := HRO2.out.pro.get hp
    have HPV := Hh (HQ.out.2 p (List.mem_of_getElem? hp))
    have hpl200 := (profB_parts HPV.out).2.1
    have HTK := Hh (fun (u : World) (e : Ext wr u) => sProfTake_c p fr te j.Need Ap p.length cp u (hsp.ext (Flat.mono _ _) e) (by unfold maxLen;omega))
    have HIL := Hh (show (i : Int) < (pl.length : Int) by rw [HPLN.out];omega)
    have hil := HIL.out
    have HII := Hh (show i < ql.length by have h1 := HQ.out.1;omega)
    have hil2 : i < pl.length := by omega
    have HGD := Hh (show ql.getD ((i : Int)).toNat [] = p by simp [List.getD,hp])
    rw [HGD.out] at HST
    have HTV := Hh (fun (o : List Pt) (h : takeQ p fr te j.Need = some o) => takeQ_valid h)
    generalize takeQ p fr te j.Need = tq at *
    obtain ⟨t0,t1,t2,t3,t4,tf0,tf1,tf2,tf3,tf4,tl⟩ := gcells5 HBX.out
    have hx2b := HX5.out
    have hbw2 := hb
    have j3 := (((Ext.refl _).alloc _).trans hb).cell (cell_box_at (w.alloc (.cells #[.slice A1 ps.length c1,.slice A2 ns.length c2,.slice A3 up.length c3,.slice A4 pl.length c4,.slice A5 lic.length c5] 73)) (w.heap.size + 1) (by simp) [.int .i64 j.Id,.int .i64 j.Prio,.int .i64 j.Nodes,.int .i64 j.Need.A,.int .i64 j.Need.B,.int .i64 j.Need.C,.int .i64 j.Lic.A,.int .i64 j.Lic.B,.int .i64 j.Lic.C,.int .i64 j.Wall,.int .i64 j.Level] 52 3 _ rfl)
    have j4 := (((Ext.refl _).alloc _).trans hb).cell (cell_box_at (w.alloc (.cells #[.slice A1 ps.length c1,.slice A2 ns.length c2,.slice A3 up.length c3,.slice A4 pl.length c4,.slice A5 lic.length c5] 73)) (w.heap.size + 1) (by simp) [.int .i64 j.Id,.int .i64 j.Prio,.int .i64 j.Nodes,.int .i64 j.Need.A,.int .i64 j.Need.B,.int .i64 j.Need.C,.int .i64 j.Lic.A,.int .i64 j.Lic.B,.int .i64 j.Lic.C,.int .i64 j.Wall,.int .i64 j.Level] 52 4 _ rfl)
    have j5 := (((Ext.refl _).alloc _).trans hb).cell (cell_box_at (w.alloc (.cells #[.slice A1 ps.length c1,.slice A2 ns.length c2,.slice A3 up.length c3,.slice A4 pl.length c4,.slice A5 lic.length c5] 73)) (w.heap.size + 1) (by simp) [.int .i64 j.Id,.int .i64 j.Prio,.int .i64 j.Nodes,.int .i64 j.Need.A,.int .i64 j.Need.B,.int .i64 j.Need.C,.int .i64 j.Lic.A,.int .i64 j.Lic.B,.int .i64 j.Lic.C,.int .i64 j.Wall,.int .i64 j.Level] 52 5 _ rfl)
    have j9 := (((Ext.refl _).alloc _).trans hb).cell (cell_box_at (w.alloc (.cells #[.slice A1 ps.length c1,.slice A2 ns.length c2,.slice A3 up.length c3,.slice A4 pl.length c4,.slice A5 lic.length c5] 73)) (w.heap.size + 1) (by simp) [.int .i64 j.Id,.int .i64 j.Prio,.int .i64 j.Nodes,.int .i64 j.Need.A,.int .i64 j.Need.B,.int .i64 j.Need.C,.int .i64 j.Lic.A,.int .i64 j.Lic.B,.int .i64 j.Lic.C,.int .i64 j.Wall,.int .i64 j.Level] 52 9 _ rfl)
    have hj3 := lt_of_cell j3
    have HCELL := Hh hcell
    have HFZ := Hh hfz
    have HT3 := Hh t3
    have HLW := Hh (show (w.heap.size + 1 + 1 + 1) ≤ wr.heap.size from by have := hb.le;simp at this;omega)
    clear hx2 hc hok hsp hp hx2b t0 t1 t2 t4 tf0 tf1 tf2 tf4 hbw2
    have HKS := Hh (fun (u : World) (e : Ext wr u) => show Ext wr u ∧ u.cell? ⟨w5.heap.size,3,none⟩ = some (.slice (some ⟨g,0,none⟩) pl.length d4) ∧ u.cell? ⟨g,i,none⟩ = some (.slice Ap p.length cp) ∧ u.cell? ⟨w.heap.size + 1,3,none⟩ = some (.int .i64 j.Need.A) ∧ u.cell? ⟨w.heap.size + 1,4,none⟩ = some (.int .i64 j.Need.B) ∧ u.cell? ⟨w.heap.size + 1,5,none⟩ = some (.int .i64 j.Need.C) ∧ u.cell? ⟨w.heap.size + 1,9,none⟩ = some (.int .i64 j.Wall) from ⟨e,e.cell HT3.out,e.cell HCELL.out,e.cell j3,e.cell j4,e.cell j5,e.cell j9⟩)
    go_upto_region 7 with fail
    go_cut [13,14,32] from 32 to 60 (fun s13 s14 s32 wx => ∃ bz A6 c6 n6,s13 = .pointer (some ⟨bz,0,none⟩) ∧ s14 = .bool tq.isSome ∧ s32 = .int .i64 (k : Int) ∧ wr.heap.size ≤ bz ∧ Hid (∀ l,tq = some l → n6 = l.length ∧ wx.ownsRow (w.heap.size + 1 + 1 + 1) 133 4 (.slice A6 l.length c6) l.length (l.flatMap Pt.enc) ∧ ∀ y ∈ l,y.ok) ∧ Hid (wx.ownsRow wr.heap.size 71 1 (.slice (some ⟨bz,0,none⟩) 1 1) 1 [.slice A6 n6 c6]) ∧ Ext wr wx)
    case first =>
     go_region_held3 (fun u => Ext wr u ∧ u.cell? ⟨w5.heap.size,3,none⟩ = some (.slice (some ⟨g,0,none⟩) pl.length d4) ∧ u.cell? ⟨g,i,none⟩ = some (.slice Ap p.length cp) ∧ u.cell? ⟨w.heap.size + 1,3,none⟩ = some (.int .i64 j.Need.A) ∧ u.cell? ⟨w.heap.size + 1,4,none⟩ = some (.int .i64 j.Need.B) ∧ u.cell? ⟨w.heap.size + 1,5,none⟩ = some (.int .i64 j.Need.C) ∧ u.cell? ⟨w.heap.size + 1,9,none⟩ = some (.int .i64 j.Wall)) ((refine HKS.out _ ?_;first | exact (Ext.refl _).drew | assumption | exact ((Ext.refl _).drew).alloc _ | exact HE6.out | exact HE6.out.alloc _ | exact HE6.out.setCell (Nat.le_refl _) _)) (first | (go_at_call 92;(with_reducible refine (HTK.out _ (by repeat (first | exact Ext.refl _ | apply Ext.alloc | apply Ext.drew))).mono ?_);rintro e w6 ⟨A6,c6,l,rfl,hR6,ho6,hy6,hb6⟩;have HE6 := Hh (show Ext wr w6 from Ext.trans (by repeat (first | exact Ext.refl _ | apply Ext.alloc | apply Ext.drew)) hb6);have hl6 := HE6.out.le;have HO6 := Hh (owns_base ho6 (show (w.heap.size + 1 + 1 + 1) ≤ _ from (by first | omega | (simp;omega))));have HR6 := Hh hR6;(first | (have HB6 := Hh (owns_ext (gbox wr [.slice none 0 0] 71 1 rfl) hb6);obtain ⟨m0,mf0,ml0⟩ := gcells1 HB6.out) | (have HB6 := Hh (owns_ext (gbox wr [.slice none 0 0] 71 1 rfl) (((Ext.refl _).drew).trans hb6));obtain ⟨m0,mf0,ml0⟩ := gcells1 HB6.out) | skip);clear hR6 ho6))
     all_goals
      go_wp2_with fail
      go_meet
      first
       | exact ⟨_,A6,c6,l.length,rfl,rfl,rfl,by first | omega | (simp;omega),Hh (fun l2 h2 => by rcases HR6.out with h6 | ⟨h6,_⟩;(rw [h6] at h2;injection h2 with h2;subst h2;exact ⟨rfl,owns_ext HO6.out ((Ext.refl _).alloc _),hy6⟩);(rw [h6] at h2;cases h2)),Hh (owns_base (gbox w6 [.slice A6 l.length c6] 71 1 rfl) hl6),HE6.out.alloc _⟩
       | exact ⟨_,A6,c6,l.length,rfl,rfl,rfl,Nat.le_refl _,Hh (fun l2 h2 => by rcases HR6.out with h6 | ⟨h6,_⟩;(rw [h6] at h2;injection h2 with h2;subst h2;exact ⟨rfl,g_far HO6.out (fun e => g_apart HO6.out HB6.out (by decide) _ e rfl),hy6⟩);(rw [h6] at h2;cases h2)),Hh (HB6.out.stored 0 _).1,HE6.out.setCell (Nat.le_refl _) _⟩
    case rest =>
     obtain ⟨bz,A6,c6,n6,rfl,rfl,rfl,hbz,HFT,HFB,hx⟩ := hcut
     have hlz := HLW.out
     have hbz1 : w5.heap.size ≠ bz := by omega
     have hbz2 : g ≠ bz := by omega
     have hbz3 : w.heap.size + 1 + 1 ≠ bz := by omega
     have HBW := Hh (hb.trans hx)
     have hxz := hx.le
     obtain ⟨m0,mf0,ml0⟩ := gcells1 HFB.out
     clear hcell hfz t3 tf3 j3 j4 j5 j9
     rcases tq with _ | l
     ·have HRN := Hh (show R = none by rw [HMV.out,HTA.out,HST.out])
      have HXF := Hh (((((Ext.refl w).alloc _).alloc _).alloc _).trans (hb.trans hx))
      clear hb hx
      clear tl hg2 HFT HFB HRO2 HBX HTK HKS HST HTA HQ HCELL HFZ HT3 HGD HTV HPV HIL HNN HX5 HPLN HR H3 HMV m0 mf0 ml0 hil hil2
      obtain ⟨q0,q1,q2,q3,q4⟩ := bc5 ((w.alloc (.cells #[.slice A1 ps.length c1,.slice A2 ns.length c2,.slice A3 up.length c3,.slice A4 pl.length c4,.slice A5 lic.length c5] 73)).alloc (.cells #[.int .i64 j.Id,.int .i64 j.Prio,.int .i64 j.Nodes,.int .i64 j.Need.A,.int .i64 j.Need.B,.int .i64 j.Need.C,.int .i64 j.Lic.A,.int .i64 j.Lic.B,.int .i64 j.Lic.C,.int .i64 j.Wall,.int .i64 j.Level] 52)) (w.heap.size + 1 + 1) (.slice none 0 0) (.slice none 0 0) (.slice none 0 0) (.slice none 0 0) (.slice none 0 0) 73 ((HBW.out)) (by simp)
      obtain ⟨qf0,qf1,qf2,qf3,qf4⟩ := bf5 ((w.alloc (.cells #[.slice A1 ps.length c1,.slice A2 ns.length c2,.slice A3 up.length c3,.slice A4 pl.length c4,.slice A5 lic.length c5] 73)).alloc (.cells #[.int .i64 j.Id,.int .i64 j.Prio,.int .i64 j.Nodes,.int .i64 j.Need.A,.int .i64 j.Need.B,.int .i64 j.Need.C,.int .i64 j.Lic.A,.int .i64 j.Lic.B,.int .i64 j.Lic.C,.int .i64 j.Wall,.int .i64 j.Level] 52)) (w.heap.size + 1 + 1) (.slice none 0 0) (.slice none 0 0) (.slice none 0 0) (.slice none 0 0) (.slice none 0 0) 73 ((HBW.out)) (by simp)
      have hql := lt_of_cell q0
      go_wp2
      exact bodyPost_ret (v := .tuple #[.agg #[.slice none 0 0,.slice none 0 0,.slice none 0 0,.slice none 0 0,.slice none 0 0],.bool false]) (by simp [results,Tryz.results60,go_sem, *]) rfl (retRoomZ_none HRN.out (HXF.out.five (by omega) _ _ _ _ _))
     ·obtain rfl := (HFT.out l rfl).1
      have HOL := Hh (HFT.out l rfl).2
      have hcl2 := hx.cell HCELL.out
      have hfz2 := (hx.frozenEq (a := ⟨g,i,none⟩) hg2).trans HFZ.out
      have u3 := hx.cell HT3.out
      have hg3 : g < wc.heap.size := by omega
      have hb3 : w5.heap.size < wc.heap.size := by omega
      clear HTK HKS HCELL HFZ HT3 HGD HPV HX5 HR H3 HMV HBW
      go_wp2
      go_roundw
      case rel => exact ⟨k + 1,ql.set i l,by omega,by go_num,Hh (by rw [HTA.out,HST.out];simp),Hh ((HRO2.out.ext hx).setp HII.out HOL.out.1 HOL.out.2),Hh ⟨by rw [List.length_set];exact HQ.out.1,fun q hq => (List.mem_or_eq_of_mem_set hq).elim (HQ.out.2 q) (fun e => by rw [e];exact HTV.out l rfl)⟩,Hh ((HRO2.out.ext hx).box_far (owns_ext HBX.out hx)),(hb.trans hx).setCell (by simp;omega) _⟩
      case measure => simp [intOf];omega
   ·obtain rfl : k = n := by omega
    have HTN := Hh (show takeAll fr te j.Need nodes pl = some ql by rw [HTA.out,List.drop_eq_nil_of_le (by have := HNL.out;omega)];rfl)
    have HLW := Hh (show (w.heap.size + 1 + 1 + 1) ≤ wr.heap.size from by have := hb.le;simp at this;omega)
    have hl200 := (profB_parts HR.out.2.2).2.1
    have HTL := Hh (fun (u : World) (e : Ext wr u) => sProfTake_c lic fr te j.Lic B5 lic.length d5 u ((owns_sl Pt.size HRO2.out.lic HRO2.out.ok3).ext (Flat.mono _ _) e) (by unfold maxLen;simp only [] at hl200;omega))
    have HMW := Hh (show R = (match takeQ lic fr te j.Lic with | none => none | some l => some (ql,l)) by rw [HMV.out,HTN.out])
    generalize takeQ lic fr te j.Lic = tq at *
    obtain ⟨t0,t1,t2,t3,t4,tf0,tf1,tf2,tf3,tf4,tl⟩ := gcells5 HBX.out
    have j6 := (((Ext.refl _).alloc _).trans hb).cell (cell_box_at (w.alloc (.cells #[.slice A1 ps.length c1,.slice A2 ns.length c2,.slice A3 up.length c3,.slice A4 pl.length c4,.slice A5 lic.length c5] 73)) (w.heap.size + 1) (by simp) [.int .i64 j.Id,.int .i64 j.Prio,.int .i64 j.Nodes,.int .i64 j.Need.A,.int .i64 j.Need.B,.int .i64 j.Need.C,.int .i64 j.Lic.A,.int .i64 j.Lic.B,.int .i64 j.Lic.C,.int .i64 j.Wall,.int .i64 j.Level] 52 6 _ rfl)
    have j7 := (((Ext.refl _).alloc _).trans hb).cell (cell_box_at (w.alloc (.cells #[.slice A1 ps.length c1,.slice A2 ns.length c2,.slice A3 up.length c3,.slice A4 pl.length c4,.slice A5 lic.length c5] 73)) (w.heap.size + 1) (by simp) [.int .i64 j.Id,.int .i64 j.Prio,.int .i64 j.Nodes,.int .i64 j.Need.A,.int .i64 j.Need.B,.int .i64 j.Need.C,.int .i64 j.Lic.A,.int .i64 j.Lic.B,.int .i64 j.Lic.C,.int .i64 j.Wall,.int .i64 j.Level] 52 7 _ rfl)
    have j8 := (((Ext.refl _).alloc _).trans hb).cell (cell_box_at (w.alloc (.cells #[.slice A1 ps.length c1,.slice A2 ns.length c2,.slice A3 up.length c3,.slice A4 pl.length c4,.slice A5 lic.length c5] 73)) (w.heap.size + 1) (by simp) [.int .i64 j.Id,.int .i64 j.Prio,.int .i64 j.Nodes,.int .i64 j.Need.A,.int .i64 j.Need.B,.int .i64 j.Need.C,.int .i64 j.Lic.A,.int .i64 j.Lic.B,.int .i64 j.Lic.C,.int .i64 j.Wall,.int .i64 j.Level] 52 8 _ rfl)
    have j9 := (((Ext.refl _).alloc _).trans hb).cell (cell_box_at (w.alloc (.cells #[.slice A1 ps.length c1,.slice A2 ns.length c2,.slice A3 up.length c3,.slice A4 pl.length c4,.slice A5 lic.length c5] 73)) (w.heap.size + 1) (by simp) [.int .i64 j.Id,.int .i64 j.Prio,.int .i64 j.Nodes,.int .i64 j.Need.A,.int .i64 j.Need.B,.int .i64 j.Need.C,.int .i64 j.Lic.A,.int .i64 j.Lic.B,.int .i64 j.Lic.C,.int .i64 j.Wall,.int .i64 j.Level] 52 9 _ rfl)
    have hj6 := lt_of_cell j6
    clear t0 t1 t2 t3 tf0 tf1 tf2 tf3 tf4
    go_wp2_with fail
    refine (HTL.out _ (Ext.refl _)).mono ?_
    rintro e w6 ⟨A6,c6,l,rfl,hR6,ho6,hy6,hb6⟩
    have hlz := HLW.out
    have hz6 := hb6.le
    have HO6 := Hh (owns_base ho6 hlz)
    have HBW := Hh (hb.trans hb6)
    have HR6 := Hh hR6
    clear t4 j6 j7 j8 j9 ho6 hR6
    obtain ⟨q0,q1,q2,q3,q4⟩ := bc5 ((w.alloc (.cells #[.slice A1 ps.length c1,.slice A2 ns.length c2,.slice A3 up.length c3,.slice A4 pl.length c4,.slice A5 lic.length c5] 73)).alloc (.cells #[.int .i64 j.Id,.int .i64 j.Prio,.int .i64 j.Nodes,.int .i64 j.Need.A,.int .i64 j.Need.B,.int .i64 j.Need.C,.int .i64 j.Lic.A,.int .i64 j.Lic.B,.int .i64 j.Lic.C,.int .i64 j.Wall,.int .i64 j.Level] 52)) (w.heap.size + 1 + 1) (.slice none 0 0) (.slice none 0 0) (.slice none 0 0) (.slice none 0 0) (.slice none 0 0) 73 ((HBW.out)) (by simp)
    obtain ⟨qf0,qf1,qf2,qf3,qf4⟩ := bf5 ((w.alloc (.cells #[.slice A1 ps.length c1,.slice A2 ns.length c2,.slice A3 up.length c3,.slice A4 pl.length c4,.slice A5 lic.length c5] 73)).alloc (.cells #[.int .i64 j.Id,.int .i64 j.Prio,.int .i64 j.Nodes,.int .i64 j.Need.A,.int .i64 j.Need.B,.int .i64 j.Need.C,.int .i64 j.Lic.A,.int .i64 j.Lic.B,.int .i64 j.Lic.C,.int .i64 j.Wall,.int .i64 j.Level] 52)) (w.heap.size + 1 + 1) (.slice none 0 0) (.slice none 0 0) (.slice none 0 0) (.slice none 0 0) (.slice none 0 0) 73 ((HBW.out)) (by simp)
    have hql := lt_of_cell q0
    have hbz4 : w.heap.size + 1 + 1 ≠ w5.heap.size := by omega
    rcases tq with _ | l2
    ·have HRN := Hh (show R = none by rw [HMW.out])
     have HXF := Hh (((((Ext.refl w).alloc _).alloc _).alloc _).trans (hb.trans hb6))
     clear tl HTA HRO2 HQ HBX HTN HLW HTL HMW HR6 HO6 hb6 hlz hy6 HPLN HR H3 HMV HX5 HNN hb hj6
     go_wp2
     exact bodyPost_ret (v := .tuple #[.agg #[.slice none 0 0,.slice none 0 0,.slice none 0 0,.slice none 0 0,.slice none 0 0],.bool false]) (by simp [results,Tryz.results60,go_sem, *]) rfl (retRoomZ_none HRN.out ((HXF.out.five (by omega) _ _ _ _ _).alloc _))
    ·obtain rfl : l2 = l := by rcases HR6.out with h6 | ⟨h6,_⟩;(injection h6);(cases h6)
     have HRN := Hh (show R = some (ql,l2) by rw [HMW.out])
     have HBY := Hh (owns_ext HBX.out hb6)
     obtain ⟨t0,t1,t2,t3,t4,tf0,tf1,tf2,tf3,tf4,tl2⟩ := gcells5 HBY.out
     have HRO3 := Hh ((HRO2.out.ext hb6).lics HO6.out hy6)
     have HRO4 := Hh ((((((HRO3.out.far HBY.out (p := 4) (u := .slice A6 l2.length c6)).low (b := w.heap.size + 1 + 1) (p := 0) (u := .slice B1 ps.length d1) (by omega)).low (b := w.heap.size + 1 + 1) (p := 1) (u := .slice B2 ns.length d2) (by omega)).low (b := w.heap.size + 1 + 1) (p := 2) (u := .slice B3 up.length d3) (by omega)).low (b := w.heap.size + 1 + 1) (p := 3) (u := .slice B4 pl.length d4) (by omega)).low (b := w.heap.size + 1 + 1) (p := 4) (u := .slice A6 l2.length c6) (by omega))
     have HXF := Hh ((((((Ext.refl w).alloc _).alloc _).alloc _).trans (hb.trans hb6)).setCell (p := ⟨w5.heap.size,4,none⟩) (by simp only [];omega) (.slice A6 l2.length c6))
     clear hb hb6
     clear HRO3 HBW HBX HBY HRO2 tl HTA HTN HLW HTL HMW HR6 HO6 hlz hy6 HR H3 HMV HX5 HNN hj6
     go_wp2
     exact bodyPost_ret (v := .tuple #[.agg #[.slice B1 ps.length d1,.slice B2 ns.length d2,.slice B3 up.length d3,.slice B4 pl.length d4,.slice A6 l2.length c6],.bool true]) (by simp [results,Tryz.results60,go_sem, *]) rfl ⟨B1,ps.length,d1,B2,ns.length,d2,B3,up.length,d3,B4,pl.length,d4,A6,l2.length,c6,by rw [HRN.out];rfl,fun r hr => by rw [HRN.out] at hr;injection hr with hr;subst hr;exact ⟨rfl,rfl,rfl,by rw [HPLN.out];exact HQ.out.1.symm,rfl,(HRO4.out.ext ((Ext.refl _).alloc _)).base (by omega)⟩,(fun h => by rw [HRN.out] at h;cases h),((HXF.out.five (by omega) _ _ _ _ _).alloc _)⟩
theorem sReserve_c (ps : List Int) (ns : List Node) (up : List Bool) (pl : List (List Pt)) (lic : List Pt) (j : Job) (fr : Int) (nodes : List Int) (A : Option Addr) (n c : Nat) (v : Value) (w : World) (h : RoomAt w ps ns up (pl,lic) v) (ht : topoB ps ns = true) (hu : up.length = ns.length) (hr : roomOkM ns.length (pl,lic)) (h3 : SlAt RInt 1 w A n nodes) (hl3 : n ≤ maxLen) (hcap : n ≤ c) (hfr : In64 fr) : Calls Tryz.prog 60 #[v,.agg #[.int .i64 j.Id,.int .i64 j.Prio,.int .i64 j.Nodes,.int .i64 j.Need.A,.int .i64 j.Need.B,.int .i64 j.Need.C,.int .i64 j.Lic.A,.int .i64 j.Lic.B,.int .i64 j.Lic.C,.int .i64 j.Wall,.int .i64 j.Level],.int .i64 fr,.slice A n c] w (RetRoomSB w ps ns up (if (jobB j && jobNodesB ns.length j nodes && timeB fr) = true then moveM fr (fr + j.Wall) j nodes (pl,lic) else none)) := by
 refine (sReserveZ_c ps ns up pl lic j fr nodes A n c v w h ht hu hr h3 hl3 hcap hfr).mono ?_
 rintro e w1 ⟨A1,n1,c1,A2,n2,c2,A3,n3,c3,A4,n4,c4,A5,n5,c5,rfl,h1,_,hb⟩
 exact ⟨A1,n1,c1,A2,n2,c2,A3,n3,c3,A4,n4,c4,A5,n5,c5,rfl,h1,hb⟩
end Go.Proofs.YtfanjhcdjbnnnaaGreat
