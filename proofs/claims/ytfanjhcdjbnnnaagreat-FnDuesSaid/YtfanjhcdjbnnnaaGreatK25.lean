/- SRoomOf. -/
import Derived.Test.YtfanjhcdjbnnnaaGreatK24
namespace Go.Proofs.YtfanjhcdjbnnnaaGreat
open Go.RowKit
set_option linter.unusedVariables false
set_option maxHeartbeats 32000000
set_option maxRecDepth 10000
theorem roomF_empty (s : State) : roomF s = (match emptyF s with | none => none | some r => if timeB s.Now = true then roomGo s.Topo.Nodes.length s.Now s.Runs r else none) := by
 unfold roomF stateHeadB emptyF
 cases topoB s.Topo.Parents s.Topo.Nodes && decide (s.Up.length = s.Topo.Nodes.length) && vecB s.Lic <;> simp
theorem emptyF_some {s : State} {r : List (List Pt) × List Pt} (h : emptyF s = some r) : topoB s.Topo.Parents s.Topo.Nodes = true ∧ s.Up.length = s.Topo.Nodes.length ∧ roomOkM s.Topo.Nodes.length r := by
 unfold emptyF at h
 split at h
 ·rename_i hc
  simp only [Bool.and_eq_true,decide_eq_true_eq] at hc
  injection h with h
  subst h
  exact ⟨hc.1.1,hc.1.2,room0_ok hc.1.1 hc.2⟩
 ·cases h
theorem jobB_less {j : Job} {n : Int} (h : jobB j = true) (h1 : 1 ≤ n) (h2 : n ≤ j.Wall) : jobB { j with Wall := n } = true := by
 have h3 := (jobB_iff j).1 h
 refine (jobB_iff _).2 ⟨⟨h3.1.1,h3.1.2.1,h3.1.2.2.1,⟨h1, ?_⟩,h3.1.2.2.2.2⟩,h3.2⟩
 have h4 := h3.1.2.2.2.1.2
 show n ≤ 1000000
 omega
theorem runOk_alt {m : Nat} {now : Int} {x : Run} (hn : now ≤ 1000000000) : runOkB m now x = ((jobB x.Job && jobNodesB m x.Job x.Nodes) && (timeB x.At && (decide (x.At ≤ now) && (decide (now < x.At + x.Job.Wall) && decide (x.At + x.Job.Wall ≤ 1000000000))))) := by
 unfold runOkB withinB timeB
 congr 1
 rw [Bool.eq_iff_iff]
 simp only [Bool.and_eq_true,decide_eq_true_eq]
 omega
theorem roomS_fill {w : World} {lo lo' g : Nat} {ps : List Int} {ns : List Node} {up : List Bool} {r : List (List Pt) × List Pt} {A1 : Option Addr} {c1 : Nat} {A2 : Option Addr} {c2 : Nat} {A3 : Option Addr} {c3 : Nat} {A4 : Option Addr} {c4 : Nat} {A5 : Option Addr} {c5 : Nat} {u0 u1 u2 u3 u4 : Value} (h : RoomS w lo ps ns up r A1 c1 A2 c2 A3 c3 A4 c4 A5 c5) (hbox : w.ownsRow lo' 73 5 (.slice (some ⟨g,0,none⟩) 1 1) 1 [u0,u1,u2,u3,u4]) (a0 a1 a2 a3 a4 : Value) :
  RoomS (((((w.setCell ⟨g,0,none⟩ a0).setCell ⟨g,1,none⟩ a1).setCell ⟨g,2,none⟩ a2).setCell ⟨g,3,none⟩ a3).setCell ⟨g,4,none⟩ a4) lo ps ns up r A1 c1 A2 c2 A3 c3 A4 c4 A5 c5 ∧ (((((w.setCell ⟨g,0,none⟩ a0).setCell ⟨g,1,none⟩ a1).setCell ⟨g,2,none⟩ a2).setCell ⟨g,3,none⟩ a3).setCell ⟨g,4,none⟩ a4).ownsRow lo' 73 5 (.slice (some ⟨g,0,none⟩) 1 1) 1 [a0,a1,a2,a3,a4] := by
 have b1 := (hbox.stored 0 a0).1
 have b2 := (b1.stored 1 a1).1
 have b3 := (b2.stored 2 a2).1
 have b4 := (b3.stored 3 a3).1
 have b5 := (b4.stored 4 a4).1
 exact ⟨((((h.far hbox).far b1).far b2).far b3).far b4,b5⟩
theorem sRoomOfZ_c (s : State) (v : Value) (w : World) (h : StateAt w s v) (hlen : stateLen s) : Calls Tryz.prog 33 #[v] w (RetRoomSZ w s.Topo.Parents s.Topo.Nodes s.Up (roomF s)) := by
 have HEM := Hh (fun (u : World) (e : Ext w u) => l06Empty_c s v u (h.ext e) hlen)
 have HF := Hh (roomF_empty s)
 have HES := Hh (fun r (h : emptyF s = some r) => emptyF_some h)
 generalize emptyF s = ef at *
 generalize roomF s = R at *
 obtain ⟨⟨ps,ns⟩,up,lic,dep,now,qs,rs,es⟩ := s
 obtain ⟨A1,c1,A2,c2,A3,c3,A6,c6,A7,c7,A8,c8,rfl,h1,h2,h3,h6,h7,h8⟩ := h
 obtain ⟨hl1,hl2,hl3,hl6,hl7,hl8⟩ := hlen
 simp only [] at h1 h2 h3 h6 h7 h8 hl1 hl2 hl3 hl6 hl7 hl8 HEM HF HES ⊢
 have HM := Hh (fun (u : World) => sTime_c now u)
 have HRS := Hh (fun (u : World) (e : Ext w u) => h7.ext RRun.mono e)
 clear h1 h2 h3 h6 h7 h8
 go_enter Tryz.func33,Tryz.ntmps33
 go_wp2_with fail
 refine (HEM.out _ (((Ext.refl w).alloc _).alloc _)).mono ?_
 rintro e w5 ⟨B1,n1,d1,B2,n2,d2,B3,n3,d3,B4,n4,d4,B5,n5,d5,rfl,hro,hb5⟩
 have HRO := Hh hro
 have hz5 := hb5.le
 simp at hz5
 clear hro
 rcases ef with _ | r0
 ·have HN := Hh (show R = none by rw [HF.out])
  clear HF HES HRO
  have HXF := Hh ((((Ext.refl w).alloc _).alloc _).trans hb5)
  obtain ⟨q0,q1,q2,q3,q4⟩ := bc5 (w.alloc (.cells #[.slice A1 ps.length c1,.slice A2 ns.length c2,.slice A3 up.length c3,.int .i64 lic.A,.int .i64 lic.B,.int .i64 lic.C,.int .i64 dep,.int .i64 now,.slice A6 qs.length c6,.slice A7 rs.length c7,.slice A8 es.length c8] 34)) (w.heap.size + 1) (.slice none 0 0) (.slice none 0 0) (.slice none 0 0) (.slice none 0 0) (.slice none 0 0) 73 ((hb5)) (by simp)
  obtain ⟨qf0,qf1,qf2,qf3,qf4⟩ := bf5 (w.alloc (.cells #[.slice A1 ps.length c1,.slice A2 ns.length c2,.slice A3 up.length c3,.int .i64 lic.A,.int .i64 lic.B,.int .i64 lic.C,.int .i64 dep,.int .i64 now,.slice A6 qs.length c6,.slice A7 rs.length c7,.slice A8 es.length c8] 34)) (w.heap.size + 1) (.slice none 0 0) (.slice none 0 0) (.slice none 0 0) (.slice none 0 0) (.slice none 0 0) 73 ((hb5)) (by simp)
  have hql := lt_of_cell q0
  clear HEM HM HRS
  go_wp2
  exact bodyPost_ret (v := .tuple #[.agg #[.slice none 0 0,.slice none 0 0,.slice none 0 0,.slice none 0 0,.slice none 0 0],.bool false]) (by simp [results,Tryz.results33,go_sem, *]) rfl (retRoomZ_none HN.out ((HXF.out.five (by omega) _ _ _ _ _).alloc _))
 obtain ⟨pl0,lc0⟩ := r0
 obtain ⟨rfl,rfl,rfl,rfl,rfl,hro4⟩ := HRO.out _ rfl
 obtain ⟨htb,hu,hok0⟩ := HES.out _ rfl
 simp only [] at hro4 htb hu hok0 HF ⊢
 have HTB := Hh htb
 have HU := Hh hu
 have HOK0 := Hh hok0
 have HX5 := Hh hb5
 have s7 := (((Ext.refl (w.alloc (.cells #[.slice A1 ps.length c1,.slice A2 ns.length c2,.slice A3 up.length c3,.int .i64 lic.A,.int .i64 lic.B,.int .i64 lic.C,.int .i64 dep,.int .i64 now,.slice A6 qs.length c6,.slice A7 rs.length c7,.slice A8 es.length c8] 34))).alloc _).trans HX5.out).cell (cell_box_at w w.heap.size rfl [.slice A1 ps.length c1,.slice A2 ns.length c2,.slice A3 up.length c3,.int .i64 lic.A,.int .i64 lic.B,.int .i64 lic.C,.int .i64 dep,.int .i64 now,.slice A6 qs.length c6,.slice A7 rs.length c7,.slice A8 es.length c8] 34 7 _ rfl)
 have hs7 := lt_of_cell s7
 have HRO0 := Hh (hro4.base (lo' := w.heap.size + 1 + 1) (by simp))
 clear hro4 htb hu hok0 HRO HES HEM
 rcases (Bool.eq_false_or_eq_true (timeB now)).symm with q3 | q3
 all_goals rw [q3] at HM HF
 ·have HN := Hh (show R = none by rw [HF.out];rfl)
  clear HF HRO0 HOK0
  go_wp2_with fail
  refine (HM.out _).mono ?_
  rintro e w2 ⟨rfl,rfl⟩
  have HXF := Hh ((((Ext.refl w).alloc _).alloc _).trans hb5)
  obtain ⟨q0,q1,q2,q3,q4⟩ := bc5 (w.alloc (.cells #[.slice A1 ps.length c1,.slice A2 ns.length c2,.slice A3 up.length c3,.int .i64 lic.A,.int .i64 lic.B,.int .i64 lic.C,.int .i64 dep,.int .i64 now,.slice A6 qs.length c6,.slice A7 rs.length c7,.slice A8 es.length c8] 34)) (w.heap.size + 1) (.slice none 0 0) (.slice none 0 0) (.slice none 0 0) (.slice none 0 0) (.slice none 0 0) 73 ((hb5)) (by simp)
  obtain ⟨qf0,qf1,qf2,qf3,qf4⟩ := bf5 (w.alloc (.cells #[.slice A1 ps.length c1,.slice A2 ns.length c2,.slice A3 up.length c3,.int .i64 lic.A,.int .i64 lic.B,.int .i64 lic.C,.int .i64 dep,.int .i64 now,.slice A6 qs.length c6,.slice A7 rs.length c7,.slice A8 es.length c8] 34)) (w.heap.size + 1) (.slice none 0 0) (.slice none 0 0) (.slice none 0 0) (.slice none 0 0) (.slice none 0 0) 73 ((hb5)) (by simp)
  have hql := lt_of_cell q0
  clear HM HRS s7 hb5
  go_wp2
  exact bodyPost_ret (v := .tuple #[.agg #[.slice none 0 0,.slice none 0 0,.slice none 0 0,.slice none 0 0,.slice none 0 0],.bool false]) (by simp [results,Tryz.results33,go_sem, *]) rfl (retRoomZ_none HN.out ((HXF.out.five (by omega) _ _ _ _ _).alloc _))
 have HG := Hh (show R = roomGo ns.length now rs (pl0,lc0) by rw [HF.out];rfl)
 have hnow : 0 ≤ now ∧ now ≤ 1000000000 := by unfold timeB at q3;rw [decide_eq_true_iff] at q3;exact q3
 have HNOW := Hh q3
 clear HF q3
 have HBX0 := Hh (show (w5.alloc (.cells #[.slice B1 ps.length d1,.slice B2 ns.length d2,.slice B3 up.length d3,.slice B4 pl0.length d4,.slice B5 lc0.length d5] 73)).ownsRow (w.heap.size + 1 + 1) 73 5 (.slice (some ⟨w5.heap.size,0,none⟩) 1 1) 1 [.slice B1 ps.length d1,.slice B2 ns.length d2,.slice B3 up.length d3,.slice B4 pl0.length d4,.slice B5 lc0.length d5] from owns_base (gbox w5 [.slice B1 ps.length d1,.slice B2 ns.length d2,.slice B3 up.length d3,.slice B4 pl0.length d4,.slice B5 lc0.length d5] 73 5 rfl) (by omega))
 have hzb : w.heap.size + 1 + 1 ≤ w5.heap.size := by omega
 have s9 := (((Ext.refl (w.alloc (.cells #[.slice A1 ps.length c1,.slice A2 ns.length c2,.slice A3 up.length c3,.int .i64 lic.A,.int .i64 lic.B,.int .i64 lic.C,.int .i64 dep,.int .i64 now,.slice A6 qs.length c6,.slice A7 rs.length c7,.slice A8 es.length c8] 34))).alloc _).trans HX5.out).cell (cell_box_at w w.heap.size rfl [.slice A1 ps.length c1,.slice A2 ns.length c2,.slice A3 up.length c3,.int .i64 lic.A,.int .i64 lic.B,.int .i64 lic.C,.int .i64 dep,.int .i64 now,.slice A6 qs.length c6,.slice A7 rs.length c7,.slice A8 es.length c8] 34 9 _ rfl)
 clear hb5
 go_wp2_with fail
 refine (HM.out _).mono ?_
 rintro e w2 ⟨rfl,rfl⟩
 clear s7 HM
 go_wp2
 go_loopw [29] (fun iv wr => ∃ (k : Nat) (pl : List (List Pt)) (lc : List Pt) (B1 : Option Addr) (d1 : Nat) (B2 : Option Addr) (d2 : Nat) (B3 : Option Addr) (d3 : Nat) (B4 : Option Addr) (d4 : Nat) (B5 : Option Addr) (d5 : Nat),k ≤ rs.length ∧ iv = .int .i64 k ∧ Hid (R = roomGo ns.length now (rs.drop k) (pl,lc)) ∧ Hid (roomOkM ns.length (pl,lc)) ∧ Hid (RoomS wr (w.heap.size + 1 + 1) ps ns up (pl,lc) B1 d1 B2 d2 B3 d3 B4 d4 B5 d5) ∧ Hid (wr.ownsRow (w.heap.size + 1 + 1) 73 5 (.slice (some ⟨w5.heap.size,0,none⟩) 1 1) 1 [.slice B1 ps.length d1,.slice B2 ns.length d2,.slice B3 up.length d3,.slice B4 pl.length d4,.slice B5 lc.length d5]) ∧ Ext ((w.alloc (.cells #[.slice A1 ps.length c1,.slice A2 ns.length c2,.slice A3 up.length c3,.int .i64 lic.A,.int .i64 lic.B,.int .i64 lic.C,.int .i64 dep,.int .i64 now,.slice A6 qs.length c6,.slice A7 rs.length c7,.slice A8 es.length c8] 34)).alloc (.cells #[.slice none 0 0,.slice none 0 0,.slice none 0 0,.slice none 0 0,.slice none 0 0] 73)) wr) (fun iv _ => rs.length - (intOf iv).toNat)
 case atStart => exact ⟨0,pl0,lc0,B1,d1,B2,d2,B3,d3,B4,d4,B5,d5,Nat.zero_le _,rfl,HG,HOK0,Hh (HRO0.out.ext ((Ext.refl _).alloc _)),HBX0,HX5.out.alloc _⟩
 case round =>
  clear HRO0 HBX0 HG HOK0 s9
  obtain ⟨k,pl,lc,B1,d1,B2,d2,B3,d3,B4,d4,B5,d5,hk,rfl,HG,HOK,HRO,HBX,hb⟩ := hrel
  have hxw : Ext w wr := (((Ext.refl w).alloc _).alloc _).trans hb
  by_cases hlt : k < rs.length
  ·obtain ⟨bq,oq,x,cs,hA7,hbw,hx,_,hc,Ar,cr,rfl,hs,hcr,hnl,hat64,hjok⟩ := (HRS.out wr hxw).at_ hlt
   subst hA7
   have g0 := hc 0 _ rfl
   have g1 := hc 1 _ rfl
   have g2 := hc 2 _ rfl
   have g3 := hc 3 _ rfl
   have g4 := hc 4 _ rfl
   have g5 := hc 5 _ rfl
   have g6 := hc 6 _ rfl
   have g7 := hc 7 _ rfl
   have g8 := hc 8 _ rfl
   have g9 := hc 9 _ rfl
   have g10 := hc 10 _ rfl
   have g11 := hc 11 _ rfl
   have g12 := hc 12 _ rfl
   simp only [Nat.add_zero] at g0
   have HST := Hh (room_step (m := ns.length) (now := now) (r := (pl,lc)) hx)
   have HOKD := Hh (runOk_alt (m := ns.length) (x := x) hnow.2)
   have HNS := Hh (fun (u : World) (e : Ext wr u) => hs.ext (Flat.mono encInt In64) e)
   have HWL := Hh (fun (h : (jobB x.Job && jobNodesB ns.length x.Job x.Nodes) = true) => show 1 ≤ x.Job.Wall ∧ x.Job.Wall ≤ 1000000 from by rw [Bool.and_eq_true] at h;exact jobB_wall h.1)
   have HCR := Hh hcr
   have HNLL := Hh hnl
   clear hx hc hs hat64 hjok hcr hnl
   have HDF := Hh (fun (u : World) (e : Ext wr u) => l04Diff_c ps ns up pl lc x.Job x.Nodes Ar x.Nodes.length cr _ u (HRO.out.ext e).at_ HTB.out HU.out HOK.out (HNS.out u e) (by have := HNLL.out;unfold maxLen;omega) HCR.out)
   have HT := Hh (fun u : World => sTime_c x.At u)
   have HS7 := Hh ((((Ext.refl (w.alloc (.cells #[.slice A1 ps.length c1,.slice A2 ns.length c2,.slice A3 up.length c3,.int .i64 lic.A,.int .i64 lic.B,.int .i64 lic.C,.int .i64 dep,.int .i64 now,.slice A6 qs.length c6,.slice (some ⟨bq,oq,none⟩) rs.length c7,.slice A8 es.length c8] 34))).alloc _).trans hb).cell (cell_box_at w w.heap.size rfl [.slice A1 ps.length c1,.slice A2 ns.length c2,.slice A3 up.length c3,.int .i64 lic.A,.int .i64 lic.B,.int .i64 lic.C,.int .i64 dep,.int .i64 now,.slice A6 qs.length c6,.slice (some ⟨bq,oq,none⟩) rs.length c7,.slice A8 es.length c8] 34 7 _ rfl))
   obtain ⟨t0,t1,t2,t3,t4,tf0,tf1,tf2,tf3,tf4,tl⟩ := gcells5 HBX.out
   simp only [] at HDF
   generalize hjd : (jobB x.Job && jobNodesB ns.length x.Job x.Nodes) = jd at HDF HOKD HWL
   have HJD := Hh hjd
   clear hjd
   go_wp2_with fail
   refine (HDF.out _ ((Ext.refl wr).alloc _)).mono ?_
   rintro e w1 ⟨rfl,hb1⟩
   have hb1x : Ext wr w1 := ((Ext.refl wr).alloc _).trans hb1
   have HB1X := Hh hb1x
   clear t0 t1 t2 t3 t4 tf0 tf1 tf2 tf3 tf4 tl
   rcases jd with _ | _
   ·have HN := Hh (show R = none by rw [HG.out,HST.out,HOKD.out];rfl)
    clear HS7 HRO HBX HOK
    have HXF := Hh (hxw.trans hb1x)
    obtain ⟨q0,q1,q2,q3,q4⟩ := bc5 (w.alloc (.cells #[.slice A1 ps.length c1,.slice A2 ns.length c2,.slice A3 up.length c3,.int .i64 lic.A,.int .i64 lic.B,.int .i64 lic.C,.int .i64 dep,.int .i64 now,.slice A6 qs.length c6,.slice (some ⟨bq,oq,none⟩) rs.length c7,.slice A8 es.length c8] 34)) (w.heap.size + 1) (.slice none 0 0) (.slice none 0 0) (.slice none 0 0) (.slice none 0 0) (.slice none 0 0) 73 ((hb.trans (hb1x))) (by simp)
    obtain ⟨qf0,qf1,qf2,qf3,qf4⟩ := bf5 (w.alloc (.cells #[.slice A1 ps.length c1,.slice A2 ns.length c2,.slice A3 up.length c3,.int .i64 lic.A,.int .i64 lic.B,.int .i64 lic.C,.int .i64 dep,.int .i64 now,.slice A6 qs.length c6,.slice (some ⟨bq,oq,none⟩) rs.length c7,.slice A8 es.length c8] 34)) (w.heap.size + 1) (.slice none 0 0) (.slice none 0 0) (.slice none 0 0) (.slice none 0 0) (.slice none 0 0) 73 ((hb.trans (hb1x))) (by simp)
    have hql := lt_of_cell q0
    clear hb hxw hb1 g0 g1 g2 g3 g4 g5 g6 g7 g8 g9 g10 g11 g12 HDF HT
    go_wp2
    exact bodyPost_ret (v := .tuple #[.agg #[.slice none 0 0,.slice none 0 0,.slice none 0 0,.slice none 0 0,.slice none 0 0],.bool false]) (by simp [results,Tryz.results33,go_sem, *]) rfl (retRoomZ_none HN.out ((HXF.out.five (by omega) _ _ _ _ _)))
   have hwall := HWL.out rfl
   have e0 := hb1.cell (cell_box_at wr wr.heap.size rfl [.int .i64 x.Job.Id,.int .i64 x.Job.Prio,.int .i64 x.Job.Nodes,.int .i64 x.Job.Need.A,.int .i64 x.Job.Need.B,.int .i64 x.Job.Need.C,.int .i64 x.Job.Lic.A,.int .i64 x.Job.Lic.B,.int .i64 x.Job.Lic.C,.int .i64 x.Job.Wall,.int .i64 x.Job.Level,.int .i64 x.At,.slice Ar x.Nodes.length cr] 54 0 _ rfl)
   have e1 := hb1.cell (cell_box_at wr wr.heap.size rfl [.int .i64 x.Job.Id,.int .i64 x.Job.Prio,.int .i64 x.Job.Nodes,.int .i64 x.Job.Need.A,.int .i64 x.Job.Need.B,.int .i64 x.Job.Need.C,.int .i64 x.Job.Lic.A,.int .i64 x.Job.Lic.B,.int .i64 x.Job.Lic.C,.int .i64 x.Job.Wall,.int .i64 x.Job.Level,.int .i64 x.At,.slice Ar x.Nodes.length cr] 54 1 _ rfl)
   have e2 := hb1.cell (cell_box_at wr wr.heap.size rfl [.int .i64 x.Job.Id,.int .i64 x.Job.Prio,.int .i64 x.Job.Nodes,.int .i64 x.Job.Need.A,.int .i64 x.Job.Need.B,.int .i64 x.Job.Need.C,.int .i64 x.Job.Lic.A,.int .i64 x.Job.Lic.B,.int .i64 x.Job.Lic.C,.int .i64 x.Job.Wall,.int .i64 x.Job.Level,.int .i64 x.At,.slice Ar x.Nodes.length cr] 54 2 _ rfl)
   have e3 := hb1.cell (cell_box_at wr wr.heap.size rfl [.int .i64 x.Job.Id,.int .i64 x.Job.Prio,.int .i64 x.Job.Nodes,.int .i64 x.Job.Need.A,.int .i64 x.Job.Need.B,.int .i64 x.Job.Need.C,.int .i64 x.Job.Lic.A,.int .i64 x.Job.Lic.B,.int .i64 x.Job.Lic.C,.int .i64 x.Job.Wall,.int .i64 x.Job.Level,.int .i64 x.At,.slice Ar x.Nodes.length cr] 54 3 _ rfl)
   have e4 := hb1.cell (cell_box_at wr wr.heap.size rfl [.int .i64 x.Job.Id,.int .i64 x.Job.Prio,.int .i64 x.Job.Nodes,.int .i64 x.Job.Need.A,.int .i64 x.Job.Need.B,.int .i64 x.Job.Need.C,.int .i64 x.Job.Lic.A,.int .i64 x.Job.Lic.B,.int .i64 x.Job.Lic.C,.int .i64 x.Job.Wall,.int .i64 x.Job.Level,.int .i64 x.At,.slice Ar x.Nodes.length cr] 54 4 _ rfl)
   have e5 := hb1.cell (cell_box_at wr wr.heap.size rfl [.int .i64 x.Job.Id,.int .i64 x.Job.Prio,.int .i64 x.Job.Nodes,.int .i64 x.Job.Need.A,.int .i64 x.Job.Need.B,.int .i64 x.Job.Need.C,.int .i64 x.Job.Lic.A,.int .i64 x.Job.Lic.B,.int .i64 x.Job.Lic.C,.int .i64 x.Job.Wall,.int .i64 x.Job.Level,.int .i64 x.At,.slice Ar x.Nodes.length cr] 54 5 _ rfl)
   have e6 := hb1.cell (cell_box_at wr wr.heap.size rfl [.int .i64 x.Job.Id,.int .i64 x.Job.Prio,.int .i64 x.Job.Nodes,.int .i64 x.Job.Need.A,.int .i64 x.Job.Need.B,.int .i64 x.Job.Need.C,.int .i64 x.Job.Lic.A,.int .i64 x.Job.Lic.B,.int .i64 x.Job.Lic.C,.int .i64 x.Job.Wall,.int .i64 x.Job.Level,.int .i64 x.At,.slice Ar x.Nodes.length cr] 54 6 _ rfl)
   have e7 := hb1.cell (cell_box_at wr wr.heap.size rfl [.int .i64 x.Job.Id,.int .i64 x.Job.Prio,.int .i64 x.Job.Nodes,.int .i64 x.Job.Need.A,.int .i64 x.Job.Need.B,.int .i64 x.Job.Need.C,.int .i64 x.Job.Lic.A,.int .i64 x.Job.Lic.B,.int .i64 x.Job.Lic.C,.int .i64 x.Job.Wall,.int .i64 x.Job.Level,.int .i64 x.At,.slice Ar x.Nodes.length cr] 54 7 _ rfl)
   have e8 := hb1.cell (cell_box_at wr wr.heap.size rfl [.int .i64 x.Job.Id,.int .i64 x.Job.Prio,.int .i64 x.Job.Nodes,.int .i64 x.Job.Need.A,.int .i64 x.Job.Need.B,.int .i64 x.Job.Need.C,.int .i64 x.Job.Lic.A,.int .i64 x.Job.Lic.B,.int .i64 x.Job.Lic.C,.int .i64 x.Job.Wall,.int .i64 x.Job.Level,.int .i64 x.At,.slice Ar x.Nodes.length cr] 54 8 _ rfl)
   have e9 := hb1.cell (cell_box_at wr wr.heap.size rfl [.int .i64 x.Job.Id,.int .i64 x.Job.Prio,.int .i64 x.Job.Nodes,.int .i64 x.Job.Need.A,.int .i64 x.Job.Need.B,.int .i64 x.Job.Need.C,.int .i64 x.Job.Lic.A,.int .i64 x.Job.Lic.B,.int .i64 x.Job.Lic.C,.int .i64 x.Job.Wall,.int .i64 x.Job.Level,.int .i64 x.At,.slice Ar x.Nodes.length cr] 54 9 _ rfl)
   have e10 := hb1.cell (cell_box_at wr wr.heap.size rfl [.int .i64 x.Job.Id,.int .i64 x.Job.Prio,.int .i64 x.Job.Nodes,.int .i64 x.Job.Need.A,.int .i64 x.Job.Need.B,.int .i64 x.Job.Need.C,.int .i64 x.Job.Lic.A,.int .i64 x.Job.Lic.B,.int .i64 x.Job.Lic.C,.int .i64 x.Job.Wall,.int .i64 x.Job.Level,.int .i64 x.At,.slice Ar x.Nodes.length cr] 54 10 _ rfl)
   have e11 := hb1.cell (cell_box_at wr wr.heap.size rfl [.int .i64 x.Job.Id,.int .i64 x.Job.Prio,.int .i64 x.Job.Nodes,.int .i64 x.Job.Need.A,.int .i64 x.Job.Need.B,.int .i64 x.Job.Need.C,.int .i64 x.Job.Lic.A,.int .i64 x.Job.Lic.B,.int .i64 x.Job.Lic.C,.int .i64 x.Job.Wall,.int .i64 x.Job.Level,.int .i64 x.At,.slice Ar x.Nodes.length cr] 54 11 _ rfl)
   have e12 := hb1.cell (cell_box_at wr wr.heap.size rfl [.int .i64 x.Job.Id,.int .i64 x.Job.Prio,.int .i64 x.Job.Nodes,.int .i64 x.Job.Need.A,.int .i64 x.Job.Need.B,.int .i64 x.Job.Need.C,.int .i64 x.Job.Lic.A,.int .i64 x.Job.Lic.B,.int .i64 x.Job.Lic.C,.int .i64 x.Job.Wall,.int .i64 x.Job.Level,.int .i64 x.At,.slice Ar x.Nodes.length cr] 54 12 _ rfl)
   have he0 := lt_of_cell e0
   have s7 := hb1x.cell HS7.out
   have hs7 := lt_of_cell s7
   clear g0 g1 g2 g3 g4 g5 g6 g7 g8 g9 g10 g11 g12 HDF
   go_wp2_with fail
   refine (HT.out _).mono ?_
   rintro e w2 ⟨rfl,rfl⟩
   rcases (Bool.eq_false_or_eq_true (timeB x.At)).symm with q2 | q2
   all_goals rw [q2] at HOKD ⊢
   ·have HN := Hh (show R = none by rw [HG.out,HST.out,HOKD.out];rfl)
    clear HS7 HRO HBX HOK q2 e0 e1 e2 e3 e4 e5 e6 e7 e8 e9 e10 e11 e12 s7
    have HXF := Hh (hxw.trans hb1x)
    obtain ⟨q0,q1,q2,q3,q4⟩ := bc5 (w.alloc (.cells #[.slice A1 ps.length c1,.slice A2 ns.length c2,.slice A3 up.length c3,.int .i64 lic.A,.int .i64 lic.B,.int .i64 lic.C,.int .i64 dep,.int .i64 now,.slice A6 qs.length c6,.slice (some ⟨bq,oq,none⟩) rs.length c7,.slice A8 es.length c8] 34)) (w.heap.size + 1) (.slice none 0 0) (.slice none 0 0) (.slice none 0 0) (.slice none 0 0) (.slice none 0 0) 73 ((hb.trans (hb1x))) (by simp)
    obtain ⟨qf0,qf1,qf2,qf3,qf4⟩ := bf5 (w.alloc (.cells #[.slice A1 ps.length c1,.slice A2 ns.length c2,.slice A3 up.length c3,.int .i64 lic.A,.int .i64 lic.B,.int .i64 lic.C,.int .i64 dep,.int .i64 now,.slice A6 qs.length c6,.slice (some ⟨bq,oq,none⟩) rs.length c7,.slice A8 es.length c8] 34)) (w.heap.size + 1) (.slice none 0 0) (.slice none 0 0) (.slice none 0 0) (.slice none 0 0) (.slice none 0 0) 73 ((hb.trans (hb1x))) (by simp)
    have hql := lt_of_cell q0
    clear hb hxw hb1 hb1x HT
    go_wp2
    exact bodyPost_ret (v := .tuple #[.agg #[.slice none 0 0,.slice none 0 0,.slice none 0 0,.slice none 0 0,.slice none 0 0],.bool false]) (by simp [results,Tryz.results33,go_sem, *]) rfl (retRoomZ_none HN.out ((HXF.out.five (by omega) _ _ _ _ _)))
   have hat : 0 ≤ x.At ∧ x.At ≤ 1000000000 := by unfold timeB at q2;rw [decide_eq_true_iff] at q2;exact q2
   have hw2 := IntWalk.i64_in (x.At + x.Job.Wall) ⟨by omega,by omega⟩
   have hw4 : wrap64 (x.At + x.Job.Wall) = x.At + x.Job.Wall := by unfold wrap64;omega
   rw [hw4]
   clear hw4
   clear q2 HT
   have hall : (now < x.At) ∨ (x.At ≤ now ∧ x.At + x.Job.Wall ≤ now) ∨ (x.At ≤ now ∧ now < x.At + x.Job.Wall ∧ 1000000000 < x.At + x.Job.Wall) ∨ (x.At ≤ now ∧ now < x.At + x.Job.Wall ∧ x.At + x.Job.Wall ≤ 1000000000) := by omega
   rcases hall with p1 | ⟨p1,p2⟩ | ⟨p1,p2,p3⟩ | ⟨p1,p2,p3⟩
   ·have HN := Hh (show R = none by rw [HG.out,HST.out,HOKD.out,show decide (x.At ≤ now) = false from decide_eq_false (by omega)];simp)
    have d1t : decide (now < x.At) = true := decide_eq_true p1
    clear HS7 HRO HBX HOK HOKD
    have HXF := Hh (hxw.trans hb1x)
    obtain ⟨q0,q1,q2,q3,q4⟩ := bc5 (w.alloc (.cells #[.slice A1 ps.length c1,.slice A2 ns.length c2,.slice A3 up.length c3,.int .i64 lic.A,.int .i64 lic.B,.int .i64 lic.C,.int .i64 dep,.int .i64 now,.slice A6 qs.length c6,.slice (some ⟨bq,oq,none⟩) rs.length c7,.slice A8 es.length c8] 34)) (w.heap.size + 1) (.slice none 0 0) (.slice none 0 0) (.slice none 0 0) (.slice none 0 0) (.slice none 0 0) 73 ((hb.trans (hb1x))) (by simp)
    obtain ⟨qf0,qf1,qf2,qf3,qf4⟩ := bf5 (w.alloc (.cells #[.slice A1 ps.length c1,.slice A2 ns.length c2,.slice A3 up.length c3,.int .i64 lic.A,.int .i64 lic.B,.int .i64 lic.C,.int .i64 dep,.int .i64 now,.slice A6 qs.length c6,.slice (some ⟨bq,oq,none⟩) rs.length c7,.slice A8 es.length c8] 34)) (w.heap.size + 1) (.slice none 0 0) (.slice none 0 0) (.slice none 0 0) (.slice none 0 0) (.slice none 0 0) 73 ((hb.trans (hb1x))) (by simp)
    have hql := lt_of_cell q0
    clear hb hxw hb1 hb1x e0 e1 e2 e3 e4 e5 e6 e7 e8 e9 e10 e12
    go_wp2
    exact bodyPost_ret (v := .tuple #[.agg #[.slice none 0 0,.slice none 0 0,.slice none 0 0,.slice none 0 0,.slice none 0 0],.bool false]) (by simp [results,Tryz.results33,go_sem, *]) rfl (retRoomZ_none HN.out ((HXF.out.five (by omega) _ _ _ _ _)))
   ·have HN := Hh (show R = none by rw [HG.out,HST.out,HOKD.out,show decide (now < x.At + x.Job.Wall) = false from decide_eq_false (by omega)];simp)
    have d1f : decide (now < x.At) = false := decide_eq_false (by omega)
    have d2t : decide (x.At + x.Job.Wall ≤ now) = true := decide_eq_true p2
    clear HS7 HRO HBX HOK HOKD
    have HXF := Hh (hxw.trans hb1x)
    obtain ⟨q0,q1,q2,q3,q4⟩ := bc5 (w.alloc (.cells #[.slice A1 ps.length c1,.slice A2 ns.length c2,.slice A3 up.length c3,.int .i64 lic.A,.int .i64 lic.B,.int .i64 lic.C,.int .i64 dep,.int .i64 now,.slice A6 qs.length c6,.slice (some ⟨bq,oq,none⟩) rs.length c7,.slice A8 es.length c8] 34)) (w.heap.size + 1) (.slice none 0 0) (.slice none 0 0) (.slice none 0 0) (.slice none 0 0) (.slice none 0 0) 73 ((hb.trans (hb1x))) (by simp)
    obtain ⟨qf0,qf1,qf2,qf3,qf4⟩ := bf5 (w.alloc (.cells #[.slice A1 ps.length c1,.slice A2 ns.length c2,.slice A3 up.length c3,.int .i64 lic.A,.int .i64 lic.B,.int .i64 lic.C,.int .i64 dep,.int .i64 now,.slice A6 qs.length c6,.slice (some ⟨bq,oq,none⟩) rs.length c7,.slice A8 es.length c8] 34)) (w.heap.size + 1) (.slice none 0 0) (.slice none 0 0) (.slice none 0 0) (.slice none 0 0) (.slice none 0 0) 73 ((hb.trans (hb1x))) (by simp)
    have hql := lt_of_cell q0
    clear hb hxw hb1 hb1x e0 e1 e2 e3 e4 e5 e6 e7 e8 e9 e10 e12
    go_wp2
    exact bodyPost_ret (v := .tuple #[.agg #[.slice none 0 0,.slice none 0 0,.slice none 0 0,.slice none 0 0,.slice none 0 0],.bool false]) (by simp [results,Tryz.results33,go_sem, *]) rfl (retRoomZ_none HN.out ((HXF.out.five (by omega) _ _ _ _ _)))
   ·have HN := Hh (show R = none by rw [HG.out,HST.out,HOKD.out,show decide (x.At + x.Job.Wall ≤ 1000000000) = false from decide_eq_false (by omega)];simp)
    have d1f : decide (now < x.At) = false := decide_eq_false (by omega)
    have d2f : decide (x.At + x.Job.Wall ≤ now) = false := decide_eq_false (by omega)
    have d3t : decide (1000000000 < x.At + x.Job.Wall) = true := decide_eq_true p3
    clear HS7 HRO HBX HOK HOKD
    have HXF := Hh (hxw.trans hb1x)
    obtain ⟨q0,q1,q2,q3,q4⟩ := bc5 (w.alloc (.cells #[.slice A1 ps.length c1,.slice A2 ns.length c2,.slice A3 up.length c3,.int .i64 lic.A,.int .i64 lic.B,.int .i64 lic.C,.int .i64 dep,.int .i64 now,.slice A6 qs.length c6,.slice (some ⟨bq,oq,none⟩) rs.length c7,.slice A8 es.length c8] 34)) (w.heap.size + 1) (.slice none 0 0) (.slice none 0 0) (.slice none 0 0) (.slice none 0 0) (.slice none 0 0) 73 ((hb.trans (hb1x))) (by simp)
    obtain ⟨qf0,qf1,qf2,qf3,qf4⟩ := bf5 (w.alloc (.cells #[.slice A1 ps.length c1,.slice A2 ns.length c2,.slice A3 up.length c3,.int .i64 lic.A,.int .i64 lic.B,.int .i64 lic.C,.int .i64 dep,.int .i64 now,.slice A6 qs.length c6,.slice (some ⟨bq,oq,none⟩) rs.length c7,.slice A8 es.length c8] 34)) (w.heap.size + 1) (.slice none 0 0) (.slice none 0 0) (.slice none 0 0) (.slice none 0 0) (.slice none 0 0) 73 ((hb.trans (hb1x))) (by simp)
    have hql := lt_of_cell q0
    clear hb hxw hb1 hb1x e0 e1 e2 e3 e4 e5 e6 e7 e8 e9 e10 e12
    go_wp2
    exact bodyPost_ret (v := .tuple #[.agg #[.slice none 0 0,.slice none 0 0,.slice none 0 0,.slice none 0 0,.slice none 0 0],.bool false]) (by simp [results,Tryz.results33,go_sem, *]) rfl (retRoomZ_none HN.out ((HXF.out.five (by omega) _ _ _ _ _)))
   ·have d1f : decide (now < x.At) = false := decide_eq_false (by omega)
    have d2f : decide (x.At + x.Job.Wall ≤ now) = false := decide_eq_false (by omega)
    have d3f : decide (1000000000 < x.At + x.Job.Wall) = false := decide_eq_false (by omega)
    have hw3 := IntWalk.i64_in (x.At + x.Job.Wall - now) ⟨by omega,by omega⟩
    have HMX := Hh (show R = (match moveM now (x.At + x.Job.Wall) x.Job x.Nodes (pl,lc) with | none => none | some r' => roomGo ns.length now (rs.drop (k + 1)) r') by
     rw [HG.out,HST.out,HOKD.out,show decide (x.At ≤ now) = true from decide_eq_true p1,show decide (now < x.At + x.Job.Wall) = true from decide_eq_true p2,show decide (x.At + x.Job.Wall ≤ 1000000000) = true from decide_eq_true p3];rfl)
    have HVL := Hh (fun (r' : List (List Pt) × List Pt) (h : moveM now (x.At + x.Job.Wall) x.Job x.Nodes (pl,lc) = some r') => moveM_valid HOK.out h)
    have HJN : (jobB x.Job && jobNodesB ns.length x.Job x.Nodes) = true := HJD.out
    have HRV := Hh (fun (u : World) (e : Ext wr u) => show Calls Tryz.prog 60 #[.agg #[.slice B1 ps.length d1,.slice B2 ns.length d2,.slice B3 up.length d3,.slice B4 pl.length d4,.slice B5 lc.length d5],.agg #[.int .i64 x.Job.Id,.int .i64 x.Job.Prio,.int .i64 x.Job.Nodes,.int .i64 x.Job.Need.A,.int .i64 x.Job.Need.B,.int .i64 x.Job.Need.C,.int .i64 x.Job.Lic.A,.int .i64 x.Job.Lic.B,.int .i64 x.Job.Lic.C,.int .i64 (x.At + x.Job.Wall - now),.int .i64 x.Job.Level],.int .i64 now,.slice Ar x.Nodes.length cr] u (RetRoomSB u ps ns up (moveM now (x.At + x.Job.Wall) x.Job x.Nodes (pl,lc))) from by
     have hR := sReserve_c ps ns up pl lc { x.Job with Wall := x.At + x.Job.Wall - now } now x.Nodes Ar x.Nodes.length cr _ u (HRO.out.ext e).at_ HTB.out HU.out HOK.out (HNS.out u e) (by have := HNLL.out;unfold maxLen;omega) HCR.out ⟨by omega,by omega⟩
     rw [Bool.and_eq_true] at HJN
     have e1 : (jobB { x.Job with Wall := x.At + x.Job.Wall - now } && jobNodesB ns.length { x.Job with Wall := x.At + x.Job.Wall - now } x.Nodes && timeB now) = true := by
      rw [Bool.and_eq_true,Bool.and_eq_true]
      exact ⟨⟨jobB_less HJN.1 (by omega) (by omega),HJN.2⟩,HNOW.out⟩
     rw [if_pos e1] at hR
     have e2 : now + (x.At + x.Job.Wall - now) = x.At + x.Job.Wall := by omega
     simp only [e2] at hR
     exact hR)
    generalize moveM now (x.At + x.Job.Wall) x.Job x.Nodes (pl,lc) = mr at *
    have HBX1 := Hh (owns_ext HBX.out hb1x)
    obtain ⟨t0,t1,t2,t3,t4,tf0,tf1,tf2,tf3,tf4,tl⟩ := gcells5 HBX1.out
    clear HS7 HJN HOKD HST HG tf0 tf1 tf2 tf3 tf4
    go_wp2_with fail
    refine (HRV.out _ Ext.go).mono ?_
    rintro e w3 ⟨E1,n1,f1,E2,n2,f2,E3,n3,f3,E4,n4,f4,E5,n5,f5,rfl,hro3,hb3⟩
    have HRO3 := Hh hro3
    have hz3 := hb3.le
    simp at hz3
    have hz1 := hb1x.le
    have hzr := (HBX.out.lt w5.heap.size rfl).2
    have hb3x : Ext wr w3 := Ext.trans Ext.go hb3
    clear hro3 t0 t1 t2 t3 t4 e0 e1 e2 e3 e4 e5 e6 e7 e8 e9 e10 e11 e12 s7 tl HRV HBX1
    rcases mr with _ | mr
    ·have HN := Hh (show R = none by rw [HMX.out])
     clear HRO HBX HRO3 HOK HMX HVL d1f d2f d3f hw2 hw3 p1 p2 p3
     have HXF := Hh (hxw.trans hb3x)
     obtain ⟨q0,q1,q2,q3,q4⟩ := bc5 (w.alloc (.cells #[.slice A1 ps.length c1,.slice A2 ns.length c2,.slice A3 up.length c3,.int .i64 lic.A,.int .i64 lic.B,.int .i64 lic.C,.int .i64 dep,.int .i64 now,.slice A6 qs.length c6,.slice (some ⟨bq,oq,none⟩) rs.length c7,.slice A8 es.length c8] 34)) (w.heap.size + 1) (.slice none 0 0) (.slice none 0 0) (.slice none 0 0) (.slice none 0 0) (.slice none 0 0) 73 ((hb.trans (hb3x))) (by simp)
     obtain ⟨qf0,qf1,qf2,qf3,qf4⟩ := bf5 (w.alloc (.cells #[.slice A1 ps.length c1,.slice A2 ns.length c2,.slice A3 up.length c3,.int .i64 lic.A,.int .i64 lic.B,.int .i64 lic.C,.int .i64 dep,.int .i64 now,.slice A6 qs.length c6,.slice (some ⟨bq,oq,none⟩) rs.length c7,.slice A8 es.length c8] 34)) (w.heap.size + 1) (.slice none 0 0) (.slice none 0 0) (.slice none 0 0) (.slice none 0 0) (.slice none 0 0) 73 ((hb.trans (hb3x))) (by simp)
     have hql := lt_of_cell q0
     clear hb hxw hb1 hb1x hb3 hb3x
     go_wp2
     exact bodyPost_ret (v := .tuple #[.agg #[.slice none 0 0,.slice none 0 0,.slice none 0 0,.slice none 0 0,.slice none 0 0],.bool false]) (by simp [results,Tryz.results33,go_sem, *]) rfl (retRoomZ_none HN.out ((HXF.out.five (by omega) _ _ _ _ _).alloc _))
    ·obtain ⟨pl2,lc2⟩ := mr
     obtain ⟨rfl,rfl,rfl,rfl,rfl,hro4⟩ := HRO3.out _ rfl
     simp only [] at hro4 ⊢
     have HBX3 := Hh (owns_ext HBX.out hb3x)
     obtain ⟨t0,t1,t2,t3,t4,tf0,tf1,tf2,tf3,tf4,tl⟩ := gcells5 HBX3.out
     have HF5 := Hh (roomS_fill (hro4.base (lo' := w.heap.size + 1 + 1) (by simp;omega)) HBX3.out (.slice E1 ps.length f1) (.slice E2 ns.length f2) (.slice E3 up.length f3) (.slice E4 pl2.length f4) (.slice E5 lc2.length f5))
     have HXF := Hh (Ext.five (hb.trans hb3x) (b := w5.heap.size) (by simp;omega) (.slice E1 ps.length f1) (.slice E2 ns.length f2) (.slice E3 up.length f3) (.slice E4 pl2.length f4) (.slice E5 lc2.length f5))
     have HVV := Hh (HVL.out _ rfl)
     clear hro4 HRO3 HRO HBX HOK HVL hb hb1 hb1x hb3 hb3x hxw HBX3 d1f d2f d3f hw2 hw3 p1 p2 p3
     go_wp2
     go_roundw
     case rel => exact ⟨k + 1,pl2,lc2,E1,f1,E2,f2,E3,f3,E4,f4,E5,f5,by omega,by go_num,Hh HMX.out,HVV,Hh (HF5.out.1.ext ((Ext.refl _).alloc _)),Hh (owns_ext HF5.out.2 ((Ext.refl _).alloc _)),HXF.out.alloc _⟩
     case measure => simp [intOf];omega
  ·have HKN := Hh (show R = some (pl,lc) by rw [HG.out,List.drop_eq_nil_of_le (by omega)];rfl)
   obtain ⟨t0,t1,t2,t3,t4,tf0,tf1,tf2,tf3,tf4,tl⟩ := gcells5 HBX.out
   obtain ⟨q0,q1,q2,q3,q4⟩ := bc5 (w.alloc (.cells #[.slice A1 ps.length c1,.slice A2 ns.length c2,.slice A3 up.length c3,.int .i64 lic.A,.int .i64 lic.B,.int .i64 lic.C,.int .i64 dep,.int .i64 now,.slice A6 qs.length c6,.slice A7 rs.length c7,.slice A8 es.length c8] 34)) (w.heap.size + 1) (.slice none 0 0) (.slice none 0 0) (.slice none 0 0) (.slice none 0 0) (.slice none 0 0) 73 ((hb)) (by simp)
   obtain ⟨qf0,qf1,qf2,qf3,qf4⟩ := bf5 (w.alloc (.cells #[.slice A1 ps.length c1,.slice A2 ns.length c2,.slice A3 up.length c3,.int .i64 lic.A,.int .i64 lic.B,.int .i64 lic.C,.int .i64 dep,.int .i64 now,.slice A6 qs.length c6,.slice A7 rs.length c7,.slice A8 es.length c8] 34)) (w.heap.size + 1) (.slice none 0 0) (.slice none 0 0) (.slice none 0 0) (.slice none 0 0) (.slice none 0 0) 73 ((hb)) (by simp)
   have hql := lt_of_cell q0
   have hqb : w.heap.size + 1 ≠ w5.heap.size := by omega
   have HRO4 := Hh (((((HRO.out.low (b := w.heap.size + 1) (p := 0) (u := .slice B1 ps.length d1) (by omega)).low (b := w.heap.size + 1) (p := 1) (u := .slice B2 ns.length d2) (by omega)).low (b := w.heap.size + 1) (p := 2) (u := .slice B3 up.length d3) (by omega)).low (b := w.heap.size + 1) (p := 3) (u := .slice B4 pl.length d4) (by omega)).low (b := w.heap.size + 1) (p := 4) (u := .slice B5 lc.length d5) (by omega))
   have HXF := Hh hxw
   clear HRO HBX hb hxw HOK HG
   go_wp2
   exact bodyPost_ret (v := .tuple #[.agg #[.slice B1 ps.length d1,.slice B2 ns.length d2,.slice B3 up.length d3,.slice B4 pl.length d4,.slice B5 lc.length d5],.bool true]) (by simp [results,Tryz.results33,go_sem, *]) rfl ⟨B1,ps.length,d1,B2,ns.length,d2,B3,up.length,d3,B4,pl.length,d4,B5,lc.length,d5,by rw [HKN.out];rfl,fun r hr => by rw [HKN.out] at hr;injection hr with hr;subst hr;exact ⟨rfl,rfl,rfl,rfl,rfl,HRO4.out.base (by omega)⟩,(fun h => by rw [HKN.out] at h;cases h),HXF.out.five (by omega) _ _ _ _ _⟩
theorem sRoomOf_c (s : State) (v : Value) (w : World) (h : StateAt w s v) (hlen : stateLen s) : Calls Tryz.prog 33 #[v] w (RetRoomSB w s.Topo.Parents s.Topo.Nodes s.Up (roomF s)) := by
 refine (sRoomOfZ_c s v w h hlen).mono ?_
 rintro e w1 ⟨A1,n1,c1,A2,n2,c2,A3,n3,c3,A4,n4,c4,A5,n5,c5,rfl,h1,_,hb⟩
 exact ⟨A1,n1,c1,A2,n2,c2,A3,n3,c3,A4,n4,c4,A5,n5,c5,rfl,h1,hb⟩
end Go.Proofs.YtfanjhcdjbnnnaaGreat
