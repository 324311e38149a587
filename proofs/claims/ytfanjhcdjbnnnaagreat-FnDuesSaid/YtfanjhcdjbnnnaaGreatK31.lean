/- StOk. -/
import Derived.Test.YtfanjhcdjbnnnaaGreatK30
import Derived.Test.YtfanjhcdjbnnnaaGreatK12
import Derived.Test.YtfanjhcdjbnnnaaGreatK11
import Derived.Test.YtfanjhcdjbnnnaaGreatK24
namespace Go.Proofs.YtfanjhcdjbnnnaaGreat
open Go.RowKit
set_option linter.unusedVariables false
set_option maxHeartbeats 32000000
set_option maxRecDepth 10000
theorem all_drop {α : Type} {l : List α} {p : α → Bool} {k : Nat} {x : α} (hx : l[k]? = some x) : (l.drop k).all p = (p x && (l.drop (k + 1)).all p) := by rw [drop_cons hx,List.all_cons]
theorem StateOk_c (s : State) (v : Value) (w : World) (h : StateAt w s v) (hlen : stateLen s) : Calls Tryz.prog 13 #[v] w (Ret w (.bool (stateB s))) := by
 have HRF := Hh (fun hh : (roomF s).isSome = true => roomF_some hh)
 have HRM := Hh (fun (u : World) (e : Ext w u) => RoomOf_c s v u (h.ext e) hlen)
 have HAL := Hh (fun (u : World) (e : Ext w u) => all_c s v u (h.ext e) hlen)
 have HQL := Hh (show (s.Queue ++ s.Runs.map Run.Job).length ≤ 2097152 by obtain ⟨_,_,_,h6,h7,_⟩ := hlen;simp;omega)
 have HSB := Hh (show stateB s = ((roomF s).isSome && withinB s.Depth 0 60 && queueB (s.Queue ++ s.Runs.map Run.Job) && decide (s.Ends.length ≤ 300) && s.Runs.all (runLevB s) && s.Ends.all (endB s.Now)) from rfl)
 have HLV := Hh (fun x : Run => show runLevB s x = (x.Nodes.all (fun n => s.Up.getD n.toNat false) && ascGo x.Nodes && decide (levT s.Topo.Parents (lowestI s.Topo.Parents s.Topo.Nodes x.Nodes).toNat ≤ x.Job.Level)) from rfl)
 generalize (s.Queue ++ s.Runs.map Run.Job) = jobs at *
 generalize roomF s = rf at *
 generalize stateB s = R at *
 generalize hrl : runLevB s = rl at *
 clear hrl
 obtain ⟨⟨ps,ns⟩,up,lic,dep,now,qs,rs,es⟩ := s
 obtain ⟨A1,c1,A2,c2,A3,c3,A6,c6,A7,c7,A8,c8,rfl,h1,h2,h3,h6,h7,h8⟩ := h
 obtain ⟨hl1,hl2,hl3,hl6,hl7,hl8⟩ := hlen
 simp only [] at h1 h2 h3 h6 h7 h8 hl1 hl2 hl3 hl6 hl7 hl8 HRF HRM HAL HSB HLV ⊢
 have HSL := Hh (show SlAt RInt 1 w A1 ps.length ps ∧ SlAt RNode 4 w A2 ns.length ns ∧ SlAt RB 1 w A3 up.length up ∧ SlAt RRun 13 w A7 rs.length rs ∧ SlAt REnd 3 w A8 es.length es from ⟨h1,h2,h3,h7,h8⟩)
 clear h1 h2 h3 h6 h7 h8
 generalize hok : rf.isSome = ok at *
 go_enter Tryz.func13,Tryz.ntmps13
 go_wp2_with fail
 refine (HRM.out _ ((Ext.refl w).alloc _)).mono ?_
 rintro e w1 ⟨B1,n1,d1,B2,n2,d2,B3,n3,d3,B4,n4,d4,B5,n5,d5,rfl,_,hb1⟩
 simp only [hok]
 have hx1 : Ext w w1 := ((Ext.refl w).alloc _).trans hb1
 obtain ⟨b0,b1,b2,b3,b4,b5,b6,b7,b8,b9,b10⟩ := bc11 w (w.heap.size) (.slice A1 ps.length c1) (.slice A2 ns.length c2) (.slice A3 up.length c3) (.int .i64 lic.A) (.int .i64 lic.B) (.int .i64 lic.C) (.int .i64 dep) (.int .i64 now) (.slice A6 qs.length c6) (.slice A7 rs.length c7) (.slice A8 es.length c8) 34 ((hb1)) (by simp)
 obtain ⟨bf0,bf1,bf2,bf3,bf4,bf5,bf6,bf7,bf8,bf9,bf10⟩ := bf11 w (w.heap.size) (.slice A1 ps.length c1) (.slice A2 ns.length c2) (.slice A3 up.length c3) (.int .i64 lic.A) (.int .i64 lic.B) (.int .i64 lic.C) (.int .i64 dep) (.int .i64 now) (.slice A6 qs.length c6) (.slice A7 rs.length c7) (.slice A8 es.length c8) 34 ((hb1)) (by simp)
 have hbl := lt_of_cell b0
 clear bf0 bf1 bf2 bf3 bf4 bf5 bf6 bf7 bf8 bf9 bf10
 rcases ok with _ | _
 ·go_wp2
  exact ret_bool rfl rfl rfl (by rw [HSB.out];rfl) (hx1.alloc _)
 go_wp2_with fail
 refine (within_c dep 0 60 _).mono ?_
 rintro e w2 ⟨rfl,rfl⟩
 rcases (Bool.eq_false_or_eq_true (withinB dep 0 60)).symm with q1 | q1
 all_goals rw [q1] at HSB ⊢
 ·clear q1
  go_wp2
  exact ret_bool rfl rfl rfl (by rw [HSB.out];rfl) (hx1.alloc _)
 clear q1
 go_wp2_with fail
 refine (HAL.out _ (hx1.alloc _)).mono ?_
 rintro e w3 ⟨B6,d6,rfl,ho3,hok3,hb3⟩
 have hx3 : Ext w w3 := (hx1.alloc _).trans hb3
 have HQK := Hh (QueueOk_c jobs B6 jobs.length d6 w3 (owns_sl Job.size ho3 hok3) (by have := HQL.out;unfold maxLen;omega) (g_cap ho3))
 clear ho3 hok3
 go_wp2_with fail
 refine HQK.out.mono ?_
 rintro e w4 ⟨rfl,hb4⟩
 have hx4 : Ext w w4 := hx3.trans hb4
 have HX4 := Hh (show Ext (w.alloc (.cells #[.slice A1 ps.length c1,.slice A2 ns.length c2,.slice A3 up.length c3,.int .i64 lic.A,.int .i64 lic.B,.int .i64 lic.C,.int .i64 dep,.int .i64 now,.slice A6 qs.length c6,.slice A7 rs.length c7,.slice A8 es.length c8] 34)) w4 from ((hb1.alloc _).trans hb3).trans hb4)
 have b9 := HX4.out.cell (cell_box_at w w.heap.size rfl [.slice A1 ps.length c1,.slice A2 ns.length c2,.slice A3 up.length c3,.int .i64 lic.A,.int .i64 lic.B,.int .i64 lic.C,.int .i64 dep,.int .i64 now,.slice A6 qs.length c6,.slice A7 rs.length c7,.slice A8 es.length c8] 34 9 _ rfl)
 have b10 := HX4.out.cell (cell_box_at w w.heap.size rfl [.slice A1 ps.length c1,.slice A2 ns.length c2,.slice A3 up.length c3,.int .i64 lic.A,.int .i64 lic.B,.int .i64 lic.C,.int .i64 dep,.int .i64 now,.slice A6 qs.length c6,.slice A7 rs.length c7,.slice A8 es.length c8] 34 10 _ rfl)
 have hbl4 := lt_of_cell b9
 clear b0 b1 b2 b3 b4 b5 b6 b7 b8 HQK HAL HRM hb1 hb3 hb4 hx1 hx3 hbl
 rcases (Bool.eq_false_or_eq_true (queueB jobs)).symm with q2 | q2
 all_goals rw [q2] at HSB ⊢
 ·clear q2
  go_wp2
  exact ret_bool rfl rfl rfl (by rw [HSB.out];rfl) hx4
 clear q2
 by_cases he : es.length ≤ 300
 rotate_left
 ·have hd := decide_eq_false he
  go_wp2
  exact ret_bool rfl rfl rfl (by rw [HSB.out,hd];rfl) hx4
 rw [decide_eq_true he] at HSB
 have HSC := Hh (show R = (rs.all rl && es.all (endB now)) by rw [HSB.out];simp)
 obtain ⟨hhd,hruns⟩ := HRF.out (by trivial)
 obtain ⟨ht,hup,hlc,htm⟩ := head_parts hhd
 simp only [] at ht hup hlc htm hruns
 have HT := Hh ht
 have HUP := Hh hup
 have HRU := Hh hruns
 have hnow : 0 ≤ now ∧ now ≤ 1000000000 := by unfold timeB at htm;rw [decide_eq_true_iff] at htm;exact htm
 have HNOW := Hh hnow
 have HTP := Hh (topo_parts ht)
 clear hhd ht hup hlc htm hruns hnow HRF HSB
 go_wp2
 go_loopw [39] (fun iv wr => ∃ k : Nat,k ≤ rs.length ∧ iv = .int .i64 k ∧ Hid (rs.all rl = (rs.drop k).all rl) ∧ Ext (w.alloc (.cells #[.slice A1 ps.length c1,.slice A2 ns.length c2,.slice A3 up.length c3,.int .i64 lic.A,.int .i64 lic.B,.int .i64 lic.C,.int .i64 dep,.int .i64 now,.slice A6 qs.length c6,.slice A7 rs.length c7,.slice A8 es.length c8] 34)) wr) (fun iv _ => rs.length - (intOf iv).toNat)
 case atStart => exact ⟨0,Nat.zero_le _,rfl,Hh rfl,HX4.out⟩
 case round =>
  clear b9 b10 hx4 HX4 hbl4
  obtain ⟨k,hk,rfl,HE,hb⟩ := hrel
  have hxw : Ext w wr := ((Ext.refl w).alloc _).trans hb
  by_cases hlt : k < rs.length
  ·obtain ⟨bq,oq,x,cs,hA7,hbw,hx,_,hc,Ar,cr,rfl,hs,hcr,hnl,hat64,hjok⟩ := (HSL.out.2.2.2.1.ext RRun.mono hxw).at_ hlt
   subst hA7
   have g0 := hc 0 _ rfl
   have g1 := hc 1 _ rfl
   have g2 := hc 2 _ rfl
   have g3 := hc 3 _ rfl
   have g4 := hc 4 _ rfl
   have g5 := hc 5 _ rfl
   have g6 := hc 6 _ rfl
   have g7 := hc 7 _ rfl
   have g8 := hc 8 _ rfl
   have g9 := hc 9 _ rfl
   have g10 := hc 10 _ rfl
   have g11 := hc 11 _ rfl
   have g12 := hc 12 _ rfl
   simp only [Nat.add_zero] at g0
   have HST := Hh (all_drop (p := rl) hx)
   have HRP := Hh (runOk_parts (HRU.out x (List.mem_of_getElem? hx)))
   have HN3 := Hh (fun (u : World) (e : Ext wr u) => hs.ext (Flat.mono encInt In64) e)
   have HX3 := Hh (HLV.out x)
   have HLR := Hh (lowest_range HT.out HRP.out.2.1 HRP.out.2.2)
   clear hx hc hs hcr hat64 hjok
   generalize hq : x.Nodes.length = nl at *
   have HNL := Hh hq
   clear hq
   have HB0 := Hh (fun (u : World) (e : Ext (wr.alloc (.cells #[.int .i64 x.Job.Id,.int .i64 x.Job.Prio,.int .i64 x.Job.Nodes,.int .i64 x.Job.Need.A,.int .i64 x.Job.Need.B,.int .i64 x.Job.Need.C,.int .i64 x.Job.Lic.A,.int .i64 x.Job.Lic.B,.int .i64 x.Job.Lic.C,.int .i64 x.Job.Wall,.int .i64 x.Job.Level,.int .i64 x.At,.slice Ar nl cr] 54)) u) => show (u.cell? ⟨w.heap.size,0,none⟩ = some (.slice A1 ps.length c1) ∧ u.cell? ⟨w.heap.size,1,none⟩ = some (.slice A2 ns.length c2) ∧ u.cell? ⟨w.heap.size,2,none⟩ = some (.slice A3 up.length c3)) ∧ u.cell? ⟨wr.heap.size,12,none⟩ = some (.slice Ar nl cr) ∧ u.cell? ⟨wr.heap.size,10,none⟩ = some (.int .i64 x.Job.Level) from ⟨⟨((hb.alloc _).trans e).cell (cell_box_at w w.heap.size rfl [.slice A1 ps.length c1,.slice A2 ns.length c2,.slice A3 up.length c3,.int .i64 lic.A,.int .i64 lic.B,.int .i64 lic.C,.int .i64 dep,.int .i64 now,.slice A6 qs.length c6,.slice (some ⟨bq,oq,none⟩) rs.length c7,.slice A8 es.length c8] 34 0 _ rfl),((hb.alloc _).trans e).cell (cell_box_at w w.heap.size rfl [.slice A1 ps.length c1,.slice A2 ns.length c2,.slice A3 up.length c3,.int .i64 lic.A,.int .i64 lic.B,.int .i64 lic.C,.int .i64 dep,.int .i64 now,.slice A6 qs.length c6,.slice (some ⟨bq,oq,none⟩) rs.length c7,.slice A8 es.length c8] 34 1 _ rfl),((hb.alloc _).trans e).cell (cell_box_at w w.heap.size rfl [.slice A1 ps.length c1,.slice A2 ns.length c2,.slice A3 up.length c3,.int .i64 lic.A,.int .i64 lic.B,.int .i64 lic.C,.int .i64 dep,.int .i64 now,.slice A6 qs.length c6,.slice (some ⟨bq,oq,none⟩) rs.length c7,.slice A8 es.length c8] 34 2 _ rfl)⟩,e.cell (cell_box_at wr wr.heap.size rfl [.int .i64 x.Job.Id,.int .i64 x.Job.Prio,.int .i64 x.Job.Nodes,.int .i64 x.Job.Need.A,.int .i64 x.Job.Need.B,.int .i64 x.Job.Need.C,.int .i64 x.Job.Lic.A,.int .i64 x.Job.Lic.B,.int .i64 x.Job.Lic.C,.int .i64 x.Job.Wall,.int .i64 x.Job.Level,.int .i64 x.At,.slice Ar nl cr] 54 12 _ rfl),e.cell (cell_box_at wr wr.heap.size rfl [.int .i64 x.Job.Id,.int .i64 x.Job.Prio,.int .i64 x.Job.Nodes,.int .i64 x.Job.Need.A,.int .i64 x.Job.Need.B,.int .i64 x.Job.Need.C,.int .i64 x.Job.Lic.A,.int .i64 x.Job.Lic.B,.int .i64 x.Job.Lic.C,.int .i64 x.Job.Wall,.int .i64 x.Job.Level,.int .i64 x.At,.slice Ar nl cr] 54 10 _ rfl)⟩)
   have HEW := Hh (fun (u : World) (e : Ext (wr.alloc (.cells #[.int .i64 x.Job.Id,.int .i64 x.Job.Prio,.int .i64 x.Job.Nodes,.int .i64 x.Job.Need.A,.int .i64 x.Job.Need.B,.int .i64 x.Job.Need.C,.int .i64 x.Job.Lic.A,.int .i64 x.Job.Lic.B,.int .i64 x.Job.Lic.C,.int .i64 x.Job.Wall,.int .i64 x.Job.Level,.int .i64 x.At,.slice Ar nl cr] 54)) u) => show Ext wr u from ((Ext.refl _).alloc _).trans e)
   have HXW := Hh (fun (u : World) (e : Ext (wr.alloc (.cells #[.int .i64 x.Job.Id,.int .i64 x.Job.Prio,.int .i64 x.Job.Nodes,.int .i64 x.Job.Need.A,.int .i64 x.Job.Need.B,.int .i64 x.Job.Need.C,.int .i64 x.Job.Lic.A,.int .i64 x.Job.Lic.B,.int .i64 x.Job.Lic.C,.int .i64 x.Job.Wall,.int .i64 x.Job.Level,.int .i64 x.At,.slice Ar nl cr] 54)) u) => hxw.trans (HEW.out u e))
   obtain ⟨tl,htl⟩ : ∃ tl : Nat,lowestI ps ns x.Nodes = tl := ⟨(lowestI ps ns x.Nodes).toNat,by have := HLR.out;omega⟩
   have htl2 : tl < ps.length := by have := HLR.out;omega
   rw [htl] at HX3
   rw [show ((tl : Int)).toNat = tl by omega] at HX3
   have hn1 : 1 ≤ nl := HRP.out.2.2
   have HAS := Hh (fun (u : World) (e : Ext (wr.alloc (.cells #[.int .i64 x.Job.Id,.int .i64 x.Job.Prio,.int .i64 x.Job.Nodes,.int .i64 x.Job.Need.A,.int .i64 x.Job.Need.B,.int .i64 x.Job.Need.C,.int .i64 x.Job.Lic.A,.int .i64 x.Job.Lic.B,.int .i64 x.Job.Lic.C,.int .i64 x.Job.Wall,.int .i64 x.Job.Level,.int .i64 x.At,.slice Ar nl cr] 54)) u) => areAscending_c x.Nodes Ar nl cr u (HN3.out u (HEW.out u e)) (by unfold maxLen;omega))
   have HLW := Hh (fun (u : World) (e : Ext (wr.alloc (.cells #[.int .i64 x.Job.Id,.int .i64 x.Job.Prio,.int .i64 x.Job.Nodes,.int .i64 x.Job.Need.A,.int .i64 x.Job.Need.B,.int .i64 x.Job.Need.C,.int .i64 x.Job.Lic.A,.int .i64 x.Job.Lic.B,.int .i64 x.Job.Lic.C,.int .i64 x.Job.Wall,.int .i64 x.Job.Level,.int .i64 x.At,.slice Ar nl cr] 54)) u) => show Calls Tryz.prog 32 #[.agg #[.slice A1 ps.length c1,.slice A2 ns.length c2],.slice Ar nl cr] u (Ret u (.int .i64 tl)) from by
    obtain ⟨m,hm⟩ : ∃ m,ps.length = m + 1 := ⟨ps.length - 1,by have := HTP.out.1.1;omega⟩
    have h1 := HSL.out.1.ext (Flat.mono _ _) (HXW.out u e)
    rw [hm] at h1
    rw [← htl,hm]
    exact Lowest_c ps ns x.Nodes A1 m c1 A2 ns.length c2 Ar nl cr u h1 (HSL.out.2.1.ext (Flat.mono _ _) (HXW.out u e)) (HN3.out u (HEW.out u e)) (by omega) (by omega) HT.out HRP.out.2.1)
   have HLE := Hh (fun (u : World) (e : Ext (wr.alloc (.cells #[.int .i64 x.Job.Id,.int .i64 x.Job.Prio,.int .i64 x.Job.Nodes,.int .i64 x.Job.Need.A,.int .i64 x.Job.Need.B,.int .i64 x.Job.Need.C,.int .i64 x.Job.Lic.A,.int .i64 x.Job.Lic.B,.int .i64 x.Job.Lic.C,.int .i64 x.Job.Wall,.int .i64 x.Job.Level,.int .i64 x.At,.slice Ar nl cr] 54)) u) => show Calls Tryz.prog 31 #[.agg #[.slice A1 ps.length c1,.slice A2 ns.length c2],.int .i64 tl] u (Ret u (.int .i64 (levT ps tl))) from by
    obtain ⟨m,hm⟩ : ∃ m,ps.length = m + 1 := ⟨ps.length - 1,by have := HTP.out.1.1;omega⟩
    have h1 := HSL.out.1.ext (Flat.mono _ _) (HXW.out u e)
    rw [hm] at h1
    rw [hm]
    exact level_c ps ns tl A1 m c1 A2 ns.length c2 u h1 (by have := HTP.out.1.2;omega) (by omega) HTP.out.2.2.1)
   go_wp2
   go_loopw [46] (fun jv wq => ∃ j : Nat,j ≤ nl ∧ jv = .int .i64 j ∧ Hid (x.Nodes.all (fun n => up.getD n.toNat false) = (x.Nodes.drop j).all (fun n => up.getD n.toNat false)) ∧ Ext (wr.alloc (.cells #[.int .i64 x.Job.Id,.int .i64 x.Job.Prio,.int .i64 x.Job.Nodes,.int .i64 x.Job.Need.A,.int .i64 x.Job.Need.B,.int .i64 x.Job.Need.C,.int .i64 x.Job.Lic.A,.int .i64 x.Job.Lic.B,.int .i64 x.Job.Lic.C,.int .i64 x.Job.Wall,.int .i64 x.Job.Level,.int .i64 x.At,.slice Ar nl cr] 54)) wq) (fun jv _ => nl - (intOf jv).toNat)
   case atStart => exact ⟨0,Nat.zero_le _,rfl,Hh rfl,Ext.refl _⟩
   case round =>
    clear g0 g1 g2 g3 g4 g5 g6 g7 g8 g9 g10 g11 g12
    obtain ⟨j,hj,rfl,HU,hbq⟩ := hrel
    obtain ⟨⟨z0,z1,z2⟩,z12,z10⟩ := HB0.out _ hbq
    have hz0 := lt_of_cell z0
    have hz12 := lt_of_cell z12
    by_cases hlt2 : j < nl
    ·obtain ⟨bo,oo,y,cs2,hD,hbw2,hy,_,hc2,rfl,_⟩ := (HN3.out _ (HEW.out _ hbq)).at_ hlt2
     have hc3 := hc2
     subst hD
     have y0 := hc2 0 _ rfl
     simp only [Nat.mul_one,Nat.add_zero] at y0
     have HSU := Hh (all_drop (p := fun n : Int => up.getD n.toNat false) hy)
     obtain ⟨hya,hyb⟩ := nodesIn_at HRP.out.2.1 (List.mem_of_getElem? hy)
     obtain ⟨i,rfl⟩ := Int.eq_ofNat_of_zero_le hya
     have hiu : i < up.length := by have := HUP.out;omega
     obtain ⟨bu,ou,ub,cs3,hA3,hbw3,hub,_,hcu,rfl,_⟩ := (HSL.out.2.2.1.ext (Flat.mono encB (fun _ => True)) (HXW.out _ hbq)).at_ hiu
     subst hA3
     have p0 := hcu 0 _ rfl
     simp only [Nat.mul_one,Nat.add_zero] at p0
     have HOV := Hh (show up.getD ((i : Int)).toNat false = ub by rw [show ((i : Int)).toNat = i by omega,List.getD_eq_getElem?_getD,hub];rfl)
     clear hy hc2 hc3 hub hcu
     rcases ub with _ | _
     ·have HN := Hh (show R = false by rw [HSC.out,HE.out,HST.out,HX3.out,HU.out,HSU.out,HOV.out];simp)
      go_wp2
      exact ret_bool rfl rfl rfl (by rw [HN.out]) (HXW.out _ hbq)
     ·go_wp2
      go_roundw
      case rel => exact ⟨j + 1,by omega,by go_num,Hh (by rw [HU.out,HSU.out,HOV.out];rfl),hbq⟩
      case measure => simp [intOf];omega
    ·obtain rfl : j = nl := by omega
     have HUT := Hh (show x.Nodes.all (fun n => up.getD n.toNat false) = true by rw [HU.out,List.drop_eq_nil_of_le (by have := HNL.out;omega)];rfl)
     have HXL := Hh (fun y : Later wr => hbq.trans y.ext)
     have hcx := @Later.cell wr
     have HAQ := Hh (asc_eq x.Nodes)
     generalize ascB x.Nodes = ab at *
     generalize levT ps tl = lv at *
     rcases ab with _ | _
     ·have HN := Hh (show R = false by rw [HSC.out,HE.out,HST.out,HX3.out,← HAQ.out];simp)
      go_wp2
      refine wp_region_ext (by kernel_rfl) (by kernel_rfl) ?_
      repeat (go_big_quiet_step (first | (go_at_call 30;with_reducible exact Calls.quiet_ext (HAS.out _ (HXL.out _))) | (go_at_call 32;with_reducible exact Calls.quiet_ext (HLW.out _ (HXL.out _))) | (go_at_call 31;with_reducible exact Calls.quiet_ext (HLE.out _ (HXL.out _)))))
      refine wpQuiet_nil ?_
      intro w7 hb7
      clear hcx z0 z1 z2 z12 z10
      go_wp2
      exact ret_bool rfl rfl rfl (by rw [HN.out]) (HXW.out _ (hbq.trans hb7))
     ·by_cases hle : lv ≤ x.Job.Level
      ·have HO := Hh (show rs.all rl = (rs.drop (k + 1)).all rl by rw [HE.out,HST.out,HX3.out,HUT.out,← HAQ.out,decide_eq_true hle];rfl)
       go_wp2
       refine wp_region_ext (by kernel_rfl) (by kernel_rfl) ?_
       repeat (go_big_quiet_step (first | (go_at_call 30;with_reducible exact Calls.quiet_ext (HAS.out _ (HXL.out _))) | (go_at_call 32;with_reducible exact Calls.quiet_ext (HLW.out _ (HXL.out _))) | (go_at_call 31;with_reducible exact Calls.quiet_ext (HLE.out _ (HXL.out _)))))
       refine wpQuiet_nil ?_
       intro w7 hb7
       clear hcx z0 z1 z2 z12 z10
       go_wp2
       go_roundw
       case rel => exact ⟨k + 1,by omega,by go_num,HO,(hb.alloc _).trans (hbq.trans hb7)⟩
       case measure => simp [intOf];omega
      ·have HN := Hh (show R = false by rw [HSC.out,HE.out,HST.out,HX3.out,decide_eq_false hle];simp)
       go_wp2
       refine wp_region_ext (by kernel_rfl) (by kernel_rfl) ?_
       repeat (go_big_quiet_step (first | (go_at_call 30;with_reducible exact Calls.quiet_ext (HAS.out _ (HXL.out _))) | (go_at_call 32;with_reducible exact Calls.quiet_ext (HLW.out _ (HXL.out _))) | (go_at_call 31;with_reducible exact Calls.quiet_ext (HLE.out _ (HXL.out _)))))
       refine wpQuiet_nil ?_
       intro w7 hb7
       clear hcx z0 z1 z2 z12 z10
       go_wp2
       exact ret_bool rfl rfl rfl (by rw [HN.out]) (HXW.out _ (hbq.trans hb7))
  ·have HR := Hh (show R = es.all (endB now) by rw [HSC.out,HE.out,List.drop_eq_nil_of_le (by omega)];rfl)
   have b10 := hb.cell (cell_box_at w w.heap.size rfl [.slice A1 ps.length c1,.slice A2 ns.length c2,.slice A3 up.length c3,.int .i64 lic.A,.int .i64 lic.B,.int .i64 lic.C,.int .i64 dep,.int .i64 now,.slice A6 qs.length c6,.slice A7 rs.length c7,.slice A8 es.length c8] 34 10 _ rfl)
   have hbl := lt_of_cell b10
   go_wp2
   go_loopw [79] (fun iv wq => ∃ j : Nat,j ≤ es.length ∧ iv = .int .i64 j ∧ Hid (es.all (endB now) = (es.drop j).all (endB now)) ∧ Ext (w.alloc (.cells #[.slice A1 ps.length c1,.slice A2 ns.length c2,.slice A3 up.length c3,.int .i64 lic.A,.int .i64 lic.B,.int .i64 lic.C,.int .i64 dep,.int .i64 now,.slice A6 qs.length c6,.slice A7 rs.length c7,.slice A8 es.length c8] 34)) wq) (fun iv _ => es.length - (intOf iv).toNat)
   case atStart => exact ⟨0,Nat.zero_le _,rfl,Hh rfl,hb⟩
   case round =>
    clear b10 hbl
    obtain ⟨j,hj,rfl,HU,hbq⟩ := hrel
    have hxq : Ext w wr := ((Ext.refl w).alloc _).trans hbq
    by_cases hlt2 : j < es.length
    ·obtain ⟨bo,oo,y,cs2,hD,hbw2,hy,_,hc2,rfl,_⟩ := (HSL.out.2.2.2.2.ext (Flat.mono End.enc End.ok) hxq).at_ hlt2
     have b7 := hbq.cell (cell_box_at w w.heap.size rfl [.slice A1 ps.length c1,.slice A2 ns.length c2,.slice A3 up.length c3,.int .i64 lic.A,.int .i64 lic.B,.int .i64 lic.C,.int .i64 dep,.int .i64 now,.slice A6 qs.length c6,.slice A7 rs.length c7,.slice A8 es.length c8] 34 7 _ rfl)
     have hbl := lt_of_cell b7
     subst hD
     have y0 := hc2 0 _ rfl
     have y1 := hc2 1 _ rfl
     have y2 := hc2 2 _ rfl
     simp only [Nat.add_zero] at y0
     have HSU := Hh (all_drop (p := endB now) hy)
     have HEB := Hh (show endB now y = (withinB y.Id 1 999 && withinB y.At 0 now && withinB y.Why 1 4) from rfl)
     clear hy hc2
     go_wp2_with fail
     refine (within_c y.Id 1 999 _).mono ?_
     rintro e w2 ⟨rfl,rfl⟩
     rcases (Bool.eq_false_or_eq_true (withinB y.Id 1 999)).symm with q1 | q1
     all_goals rw [q1] at HEB ⊢
     ·have HN := Hh (show R = false by rw [HR.out,HU.out,HSU.out,HEB.out];simp)
      clear q1
      go_wp2
      exact ret_bool rfl rfl rfl (by rw [HN.out]) (hxq.alloc _)
     clear q1
     go_wp2_with fail
     refine (within_c y.At 0 now _).mono ?_
     rintro e w2 ⟨rfl,rfl⟩
     rcases (Bool.eq_false_or_eq_true (withinB y.At 0 now)).symm with q1 | q1
     all_goals rw [q1] at HEB ⊢
     ·have HN := Hh (show R = false by rw [HR.out,HU.out,HSU.out,HEB.out];simp)
      clear q1
      go_wp2
      exact ret_bool rfl rfl rfl (by rw [HN.out]) (hxq.alloc _)
     clear q1
     go_wp2_with fail
     refine (within_c y.Why 1 4 _).mono ?_
     rintro e w2 ⟨rfl,rfl⟩
     rcases (Bool.eq_false_or_eq_true (withinB y.Why 1 4)).symm with q1 | q1
     all_goals rw [q1] at HEB ⊢
     ·have HN := Hh (show R = false by rw [HR.out,HU.out,HSU.out,HEB.out];simp)
      clear q1
      go_wp2
      exact ret_bool rfl rfl rfl (by rw [HN.out]) (hxq.alloc _)
     ·clear q1
      go_wp2
      go_roundw
      case rel => exact ⟨j + 1,by omega,by go_num,Hh (by rw [HU.out,HSU.out,HEB.out];rfl),hbq.alloc _⟩
      case measure => simp [intOf];omega
    ·have HN := Hh (show R = true by rw [HR.out,HU.out,List.drop_eq_nil_of_le (by omega)];rfl)
     go_wp2
     exact ret_bool rfl rfl rfl (by rw [HN.out]) hxq
end Go.Proofs.YtfanjhcdjbnnnaaGreat
