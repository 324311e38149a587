/- SStOk, MvOk, MvUp. -/
import Derived.Test.YtfanjhcdjbnnnaaGreatK25
import Derived.Test.YtfanjhcdjbnnnaaGreatK12
import Derived.Test.YtfanjhcdjbnnnaaGreatK29
import Derived.Test.YtfanjhcdjbnnnaaGreatK17
import Derived.Test.YtfanjhcdjbnnnaaGreatK31
namespace Go.Proofs.YtfanjhcdjbnnnaaGreat
open Go.RowKit
set_option linter.unusedVariables false
set_option maxHeartbeats 32000000
set_option maxRecDepth 10000
theorem chk_zero {p : Int → Bool} {l : List Int} {y : Int} (hy : l[0]? = some y) : ((l.drop 0).all p && ascGo (l.drop (0 - 1))) = (p y && ((l.drop (0 + 1)).all p && ascGo (l.drop (0 + 1 - 1)))) := by
 cases l with
 | nil => simp at hy
 | cons a r => simp at hy;subst hy;simp [Bool.and_assoc]
theorem chk_succ {p : Int → Bool} {l : List Int} {j : Nat} {y z : Int} (hz : l[j]? = some z) (hy : l[j + 1]? = some y) : ((l.drop (j + 1)).all p && ascGo (l.drop (j + 1 - 1))) = (p y && (decide (z < y) && ((l.drop (j + 1 + 1)).all p && ascGo (l.drop (j + 1 + 1 - 1))))) := by
 rw [show j + 1 - 1 = j by omega,show j + 1 + 1 - 1 = j + 1 by omega,drop_cons hz,drop_cons hy,List.all_cons,ascGo]
 cases p y <;> cases decide (z < y) <;> simp
theorem asc_last {l : List Int} {m : Nat} (h : l.length = m) : ascGo (l.drop (m - 1)) = true := by
 have h1 : (l.drop (m - 1)).length ≤ 1 := by rw [List.length_drop];omega
 generalize l.drop (m - 1) = q at h1
 match q,h1 with
 | [],_ => rfl
 | [_],_ => rfl
 | _ :: _ :: _,h => simp at h
theorem sStateOk_c (s : State) (v : Value) (w : World) (h : StateAt w s v) (hlen : stateLen s) : Calls Tryz.prog 15 #[v] w (Ret w (.bool (stateB s))) := by
 have HRF := Hh (fun hh : (roomF s).isSome = true => roomF_some hh)
 have HRM := Hh (fun (u : World) (e : Ext w u) => sRoomOf_c s v u (h.ext e) hlen)
 have HAL := Hh (fun (u : World) (e : Ext w u) => l06Jobs_c s v u (h.ext e) hlen)
 have HQL := Hh (show (s.Queue ++ s.Runs.map Run.Job).length ≤ 2097152 by obtain ⟨_,_,_,h6,h7,_⟩ := hlen;simp;omega)
 have HSB := Hh (show stateB s = ((roomF s).isSome && withinB s.Depth 0 60 && queueB (s.Queue ++ s.Runs.map Run.Job) && decide (s.Ends.length ≤ 300) && s.Runs.all (runLevB s) && s.Ends.all (endB s.Now)) from rfl)
 have HLV := Hh (fun x : Run => show runLevB s x = (x.Nodes.all (fun n => s.Up.getD n.toNat false) && ascGo x.Nodes && decide (levT s.Topo.Parents (lowestI s.Topo.Parents s.Topo.Nodes x.Nodes).toNat ≤ x.Job.Level)) from rfl)
 generalize (s.Queue ++ s.Runs.map Run.Job) = jobs at *
 generalize roomF s = rf at *
 generalize stateB s = R at *
 generalize hrl : runLevB s = rl at *
 clear hrl
 obtain ⟨⟨ps,ns⟩,up,lic,dep,now,qs,rs,es⟩ := s
 obtain ⟨A1,c1,A2,c2,A3,c3,A6,c6,A7,c7,A8,c8,rfl,h1,h2,h3,h6,h7,h8⟩ := h
 obtain ⟨hl1,hl2,hl3,hl6,hl7,hl8⟩ := hlen
 simp only [] at h1 h2 h3 h6 h7 h8 hl1 hl2 hl3 hl6 hl7 hl8 HRF HRM HAL HSB HLV ⊢
 have HSL := Hh (show SlAt RInt 1 w A1 ps.length ps ∧ SlAt RNode 4 w A2 ns.length ns ∧ SlAt RB 1 w A3 up.length up ∧ SlAt RRun 13 w A7 rs.length rs ∧ SlAt REnd 3 w A8 es.length es from ⟨h1,h2,h3,h7,h8⟩)
 clear h1 h2 h3 h6 h7 h8
 generalize hok : rf.isSome = ok at *
 go_enter Tryz.func15,Tryz.ntmps15
 go_wp2_with fail
 refine (HRM.out _ ((Ext.refl w).alloc _)).mono ?_
 rintro e w1 ⟨B1,n1,d1,B2,n2,d2,B3,n3,d3,B4,n4,d4,B5,n5,d5,rfl,_,hb1⟩
 simp only [hok]
 have hx1 : Ext w w1 := ((Ext.refl w).alloc _).trans hb1
 obtain ⟨b0,b1,b2,b3,b4,b5,b6,b7,b8,b9,b10⟩ := bc11 w (w.heap.size) (.slice A1 ps.length c1) (.slice A2 ns.length c2) (.slice A3 up.length c3) (.int .i64 lic.A) (.int .i64 lic.B) (.int .i64 lic.C) (.int .i64 dep) (.int .i64 now) (.slice A6 qs.length c6) (.slice A7 rs.length c7) (.slice A8 es.length c8) 34 ((hb1)) (by simp)
 obtain ⟨bf0,bf1,bf2,bf3,bf4,bf5,bf6,bf7,bf8,bf9,bf10⟩ := bf11 w (w.heap.size) (.slice A1 ps.length c1) (.slice A2 ns.length c2) (.slice A3 up.length c3) (.int .i64 lic.A) (.int .i64 lic.B) (.int .i64 lic.C) (.int .i64 dep) (.int .i64 now) (.slice A6 qs.length c6) (.slice A7 rs.length c7) (.slice A8 es.length c8) 34 ((hb1)) (by simp)
 have hbl := lt_of_cell b0
 clear bf0 bf1 bf2 bf3 bf4 bf5 bf6 bf7 bf8 bf9 bf10
 rcases ok with _ | _
 ·go_wp2
  exact ret_bool rfl rfl rfl (by rw [HSB.out];rfl) (hx1.alloc _)
 have hdep : (dep < 0) ∨ (60 < dep) ∨ (0 ≤ dep ∧ dep ≤ 60) := by omega
 rcases hdep with p1 | p1 | ⟨p1,p2⟩
 ·have q1 : withinB dep 0 60 = false := by unfold withinB;exact decide_eq_false (by omega)
  rw [q1] at HSB
  have d1 : decide (dep < 0) = true := decide_eq_true p1
  clear q1
  go_wp2
  exact ret_bool rfl rfl rfl (by rw [HSB.out];rfl) (hx1.alloc _)
 ·have q1 : withinB dep 0 60 = false := by unfold withinB;exact decide_eq_false (by omega)
  rw [q1] at HSB
  have d1 : decide (dep < 0) = false := decide_eq_false (by omega)
  have d2 : decide (60 < dep) = true := decide_eq_true p1
  clear q1
  go_wp2
  exact ret_bool rfl rfl rfl (by rw [HSB.out];rfl) (hx1.alloc _)
 have q1 : withinB dep 0 60 = true := by unfold withinB;exact decide_eq_true ⟨p1,p2⟩
 rw [q1] at HSB
 have d1 : decide (dep < 0) = false := decide_eq_false (by omega)
 have d2 : decide (60 < dep) = false := decide_eq_false (by omega)
 clear q1
 go_wp2_with fail
 refine (HAL.out _ (hx1.alloc _)).mono ?_
 rintro e w3 ⟨B6,d6,rfl,ho3,hok3,hb3⟩
 have hx3 : Ext w w3 := (hx1.alloc _).trans hb3
 have HQK := Hh (sQueueOk_c jobs B6 jobs.length d6 w3 (owns_sl Job.size ho3 hok3) (by have := HQL.out;unfold maxLen;omega))
 clear ho3 hok3
 go_wp2_with fail
 refine HQK.out.mono ?_
 rintro e w4 ⟨rfl,hb4⟩
 have hx4 : Ext w w4 := hx3.trans hb4
 have HX4 := Hh (show Ext (w.alloc (.cells #[.slice A1 ps.length c1,.slice A2 ns.length c2,.slice A3 up.length c3,.int .i64 lic.A,.int .i64 lic.B,.int .i64 lic.C,.int .i64 dep,.int .i64 now,.slice A6 qs.length c6,.slice A7 rs.length c7,.slice A8 es.length c8] 34)) w4 from ((hb1.alloc _).trans hb3).trans hb4)
 have b9 := HX4.out.cell (cell_box_at w w.heap.size rfl [.slice A1 ps.length c1,.slice A2 ns.length c2,.slice A3 up.length c3,.int .i64 lic.A,.int .i64 lic.B,.int .i64 lic.C,.int .i64 dep,.int .i64 now,.slice A6 qs.length c6,.slice A7 rs.length c7,.slice A8 es.length c8] 34 9 _ rfl)
 have b10 := HX4.out.cell (cell_box_at w w.heap.size rfl [.slice A1 ps.length c1,.slice A2 ns.length c2,.slice A3 up.length c3,.int .i64 lic.A,.int .i64 lic.B,.int .i64 lic.C,.int .i64 dep,.int .i64 now,.slice A6 qs.length c6,.slice A7 rs.length c7,.slice A8 es.length c8] 34 10 _ rfl)
 have hbl4 := lt_of_cell b9
 clear b0 b1 b2 b3 b4 b5 b6 b7 b8 HQK HAL HRM hb1 hb3 hb4 hx1 hx3 hbl
 rcases (Bool.eq_false_or_eq_true (queueB jobs)).symm with q2 | q2
 all_goals rw [q2] at HSB ⊢
 ·clear q2
  go_wp2
  exact ret_bool rfl rfl rfl (by rw [HSB.out];rfl) hx4
 clear q2
 by_cases he : es.length ≤ 300
 rotate_left
 ·have hd := decide_eq_false he
  go_wp2
  exact ret_bool rfl rfl rfl (by rw [HSB.out,hd];rfl) hx4
 rw [decide_eq_true he] at HSB
 have HSC := Hh (show R = (rs.all rl && es.all (endB now)) by rw [HSB.out];simp)
 obtain ⟨hhd,hruns⟩ := HRF.out (by trivial)
 obtain ⟨ht,hup,hlc,htm⟩ := head_parts hhd
 simp only [] at ht hup hlc htm hruns
 have HT := Hh ht
 have HUP := Hh hup
 have HRU := Hh hruns
 have hnow : 0 ≤ now ∧ now ≤ 1000000000 := by unfold timeB at htm;rw [decide_eq_true_iff] at htm;exact htm
 have HNOW := Hh hnow
 have HTP := Hh (topo_parts ht)
 clear hhd ht hup hlc htm hruns hnow HRF HSB
 go_wp2
 go_loopw [43] (fun iv wr => ∃ k : Nat,k ≤ rs.length ∧ iv = .int .i64 k ∧ Hid (rs.all rl = (rs.drop k).all rl) ∧ Ext (w.alloc (.cells #[.slice A1 ps.length c1,.slice A2 ns.length c2,.slice A3 up.length c3,.int .i64 lic.A,.int .i64 lic.B,.int .i64 lic.C,.int .i64 dep,.int .i64 now,.slice A6 qs.length c6,.slice A7 rs.length c7,.slice A8 es.length c8] 34)) wr) (fun iv _ => rs.length - (intOf iv).toNat)
 case atStart => exact ⟨0,Nat.zero_le _,rfl,Hh rfl,HX4.out⟩
 case round =>
  clear b9 b10 hx4 HX4 hbl4
  obtain ⟨k,hk,rfl,HE,hb⟩ := hrel
  have hxw : Ext w wr := ((Ext.refl w).alloc _).trans hb
  by_cases hlt : k < rs.length
  ·obtain ⟨bq,oq,x,cs,hA7,hbw,hx,_,hc,Ar,cr,rfl,hs,hcr,hnl,hat64,hjok⟩ := (HSL.out.2.2.2.1.ext RRun.mono hxw).at_ hlt
   subst hA7
   have g0 := hc 0 _ rfl
   have g1 := hc 1 _ rfl
   have g2 := hc 2 _ rfl
   have g3 := hc 3 _ rfl
   have g4 := hc 4 _ rfl
   have g5 := hc 5 _ rfl
   have g6 := hc 6 _ rfl
   have g7 := hc 7 _ rfl
   have g8 := hc 8 _ rfl
   have g9 := hc 9 _ rfl
   have g10 := hc 10 _ rfl
   have g11 := hc 11 _ rfl
   have g12 := hc 12 _ rfl
   simp only [Nat.add_zero] at g0
   have HST := Hh (all_drop (p := rl) hx)
   have HRP := Hh (runOk_parts (HRU.out x (List.mem_of_getElem? hx)))
   have HN3 := Hh (fun (u : World) (e : Ext wr u) => hs.ext (Flat.mono encInt In64) e)
   have HX3 := Hh (HLV.out x)
   have HLR := Hh (lowest_range HT.out HRP.out.2.1 HRP.out.2.2)
   clear hx hc hs hcr hat64 hjok
   generalize hq : x.Nodes.length = nl at *
   have HNL := Hh hq
   clear hq
   have HB0 := Hh (fun (u : World) (e : Ext (wr.alloc (.cells #[.int .i64 x.Job.Id,.int .i64 x.Job.Prio,.int .i64 x.Job.Nodes,.int .i64 x.Job.Need.A,.int .i64 x.Job.Need.B,.int .i64 x.Job.Need.C,.int .i64 x.Job.Lic.A,.int .i64 x.Job.Lic.B,.int .i64 x.Job.Lic.C,.int .i64 x.Job.Wall,.int .i64 x.Job.Level,.int .i64 x.At,.slice Ar nl cr] 54)) u) => show (u.cell? ⟨w.heap.size,0,none⟩ = some (.slice A1 ps.length c1) ∧ u.cell? ⟨w.heap.size,1,none⟩ = some (.slice A2 ns.length c2) ∧ u.cell? ⟨w.heap.size,2,none⟩ = some (.slice A3 up.length c3)) ∧ u.cell? ⟨wr.heap.size,12,none⟩ = some (.slice Ar nl cr) ∧ u.cell? ⟨wr.heap.size,10,none⟩ = some (.int .i64 x.Job.Level) from ⟨⟨((hb.alloc _).trans e).cell (cell_box_at w w.heap.size rfl [.slice A1 ps.length c1,.slice A2 ns.length c2,.slice A3 up.length c3,.int .i64 lic.A,.int .i64 lic.B,.int .i64 lic.C,.int .i64 dep,.int .i64 now,.slice A6 qs.length c6,.slice (some ⟨bq,oq,none⟩) rs.length c7,.slice A8 es.length c8] 34 0 _ rfl),((hb.alloc _).trans e).cell (cell_box_at w w.heap.size rfl [.slice A1 ps.length c1,.slice A2 ns.length c2,.slice A3 up.length c3,.int .i64 lic.A,.int .i64 lic.B,.int .i64 lic.C,.int .i64 dep,.int .i64 now,.slice A6 qs.length c6,.slice (some ⟨bq,oq,none⟩) rs.length c7,.slice A8 es.length c8] 34 1 _ rfl),((hb.alloc _).trans e).cell (cell_box_at w w.heap.size rfl [.slice A1 ps.length c1,.slice A2 ns.length c2,.slice A3 up.length c3,.int .i64 lic.A,.int .i64 lic.B,.int .i64 lic.C,.int .i64 dep,.int .i64 now,.slice A6 qs.length c6,.slice (some ⟨bq,oq,none⟩) rs.length c7,.slice A8 es.length c8] 34 2 _ rfl)⟩,e.cell (cell_box_at wr wr.heap.size rfl [.int .i64 x.Job.Id,.int .i64 x.Job.Prio,.int .i64 x.Job.Nodes,.int .i64 x.Job.Need.A,.int .i64 x.Job.Need.B,.int .i64 x.Job.Need.C,.int .i64 x.Job.Lic.A,.int .i64 x.Job.Lic.B,.int .i64 x.Job.Lic.C,.int .i64 x.Job.Wall,.int .i64 x.Job.Level,.int .i64 x.At,.slice Ar nl cr] 54 12 _ rfl),e.cell (cell_box_at wr wr.heap.size rfl [.int .i64 x.Job.Id,.int .i64 x.Job.Prio,.int .i64 x.Job.Nodes,.int .i64 x.Job.Need.A,.int .i64 x.Job.Need.B,.int .i64 x.Job.Need.C,.int .i64 x.Job.Lic.A,.int .i64 x.Job.Lic.B,.int .i64 x.Job.Lic.C,.int .i64 x.Job.Wall,.int .i64 x.Job.Level,.int .i64 x.At,.slice Ar nl cr] 54 10 _ rfl)⟩)
   have HEW := Hh (fun (u : World) (e : Ext (wr.alloc (.cells #[.int .i64 x.Job.Id,.int .i64 x.Job.Prio,.int .i64 x.Job.Nodes,.int .i64 x.Job.Need.A,.int .i64 x.Job.Need.B,.int .i64 x.Job.Need.C,.int .i64 x.Job.Lic.A,.int .i64 x.Job.Lic.B,.int .i64 x.Job.Lic.C,.int .i64 x.Job.Wall,.int .i64 x.Job.Level,.int .i64 x.At,.slice Ar nl cr] 54)) u) => show Ext wr u from ((Ext.refl _).alloc _).trans e)
   have HXW := Hh (fun (u : World) (e : Ext (wr.alloc (.cells #[.int .i64 x.Job.Id,.int .i64 x.Job.Prio,.int .i64 x.Job.Nodes,.int .i64 x.Job.Need.A,.int .i64 x.Job.Need.B,.int .i64 x.Job.Need.C,.int .i64 x.Job.Lic.A,.int .i64 x.Job.Lic.B,.int .i64 x.Job.Lic.C,.int .i64 x.Job.Wall,.int .i64 x.Job.Level,.int .i64 x.At,.slice Ar nl cr] 54)) u) => hxw.trans (HEW.out u e))
   obtain ⟨tl,htl⟩ : ∃ tl : Nat,lowestI ps ns x.Nodes = tl := ⟨(lowestI ps ns x.Nodes).toNat,by have := HLR.out;omega⟩
   have htl2 : tl < ps.length := by have := HLR.out;omega
   rw [htl] at HX3
   rw [show ((tl : Int)).toNat = tl by omega] at HX3
   have hn1 : 1 ≤ nl := HRP.out.2.2
   have HLW := Hh (fun (u : World) (e : Ext (wr.alloc (.cells #[.int .i64 x.Job.Id,.int .i64 x.Job.Prio,.int .i64 x.Job.Nodes,.int .i64 x.Job.Need.A,.int .i64 x.Job.Need.B,.int .i64 x.Job.Need.C,.int .i64 x.Job.Lic.A,.int .i64 x.Job.Lic.B,.int .i64 x.Job.Lic.C,.int .i64 x.Job.Wall,.int .i64 x.Job.Level,.int .i64 x.At,.slice Ar nl cr] 54)) u) => show Calls Tryz.prog 37 #[.agg #[.slice A1 ps.length c1,.slice A2 ns.length c2],.slice Ar nl cr] u (Ret u (.int .i64 tl)) from by
    obtain ⟨m,hm⟩ : ∃ m,ps.length = m + 1 := ⟨ps.length - 1,by have := HTP.out.1.1;omega⟩
    have h1 := HSL.out.1.ext (Flat.mono _ _) (HXW.out u e)
    rw [hm] at h1
    rw [← htl,hm]
    exact sLowest_c ps ns x.Nodes A1 m c1 A2 ns.length c2 Ar nl cr u h1 (HSL.out.2.1.ext (Flat.mono _ _) (HXW.out u e)) (HN3.out u (HEW.out u e)) (by omega) (by omega) HT.out HRP.out.2.1)
   have HLE := Hh (fun (u : World) (e : Ext (wr.alloc (.cells #[.int .i64 x.Job.Id,.int .i64 x.Job.Prio,.int .i64 x.Job.Nodes,.int .i64 x.Job.Need.A,.int .i64 x.Job.Need.B,.int .i64 x.Job.Need.C,.int .i64 x.Job.Lic.A,.int .i64 x.Job.Lic.B,.int .i64 x.Job.Lic.C,.int .i64 x.Job.Wall,.int .i64 x.Job.Level,.int .i64 x.At,.slice Ar nl cr] 54)) u) => show Calls Tryz.prog 36 #[.agg #[.slice A1 ps.length c1,.slice A2 ns.length c2],.int .i64 tl] u (Ret u (.int .i64 (levT ps tl))) from by
    have h1 := l02Level_c ps A1 ps.length c1 A2 ns.length c2 HTP.out.1.2 rfl HTP.out.2.2.1 24 tl u htl2 (by have := HTP.out.1.2;omega) (HSL.out.1.ext (Flat.mono _ _) (HXW.out u e)) (Nat.le_refl _)
    rw [lev_eq HT.out htl2 (by have := HTP.out.1.2;omega)] at h1
    exact h1)
   go_wp2
   go_loopw [50] (fun jv wq => ∃ j : Nat,j ≤ nl ∧ jv = .int .i64 j ∧ Hid ((x.Nodes.all (fun n => up.getD n.toNat false) && ascGo x.Nodes) = ((x.Nodes.drop j).all (fun n => up.getD n.toNat false) && ascGo (x.Nodes.drop (j - 1)))) ∧ Ext (wr.alloc (.cells #[.int .i64 x.Job.Id,.int .i64 x.Job.Prio,.int .i64 x.Job.Nodes,.int .i64 x.Job.Need.A,.int .i64 x.Job.Need.B,.int .i64 x.Job.Need.C,.int .i64 x.Job.Lic.A,.int .i64 x.Job.Lic.B,.int .i64 x.Job.Lic.C,.int .i64 x.Job.Wall,.int .i64 x.Job.Level,.int .i64 x.At,.slice Ar nl cr] 54)) wq) (fun jv _ => nl - (intOf jv).toNat)
   case atStart => exact ⟨0,Nat.zero_le _,rfl,Hh rfl,Ext.refl _⟩
   case round =>
    clear g0 g1 g2 g3 g4 g5 g6 g7 g8 g9 g10 g11 g12
    obtain ⟨j,hj,rfl,HU,hbq⟩ := hrel
    obtain ⟨⟨z0,z1,z2⟩,z12,z10⟩ := HB0.out _ hbq
    have hz0 := lt_of_cell z0
    have hz12 := lt_of_cell z12
    by_cases hlt2 : j < nl
    ·obtain ⟨bo,oo,y,cs2,hD,hbw2,hy,_,hc2,rfl,_⟩ := (HN3.out _ (HEW.out _ hbq)).at_ hlt2
     have hc3 := hc2
     subst hD
     have y0 := hc2 0 _ rfl
     simp only [Nat.mul_one,Nat.add_zero] at y0
     have HY := Hh hy
     obtain ⟨hya,hyb⟩ := nodesIn_at HRP.out.2.1 (List.mem_of_getElem? hy)
     obtain ⟨i,rfl⟩ := Int.eq_ofNat_of_zero_le hya
     have hiu : i < up.length := by have := HUP.out;omega
     obtain ⟨bu,ou,ub,cs3,hA3,hbw3,hub,_,hcu,rfl,_⟩ := (HSL.out.2.2.1.ext (Flat.mono encB (fun _ => True)) (HXW.out _ hbq)).at_ hiu
     subst hA3
     have p0 := hcu 0 _ rfl
     simp only [Nat.mul_one,Nat.add_zero] at p0
     have HOV := Hh (show up.getD ((i : Int)).toNat false = ub by rw [show ((i : Int)).toNat = i by omega,List.getD_eq_getElem?_getD,hub];rfl)
     clear hy hc2 hc3 hub hcu
     rcases ub with _ | _
     ·have HN := Hh (show R = false by rw [HSC.out,HE.out,HST.out,HX3.out,HU.out,all_drop HY.out,HOV.out];simp)
      go_wp2
      exact ret_bool rfl rfl rfl (by rw [HN.out]) (HXW.out _ hbq)
     rcases j with _ | j
     ·have HO := Hh (chk_zero (p := fun n : Int => up.getD n.toNat false) HY.out)
      have hg1 : decide ((0 : Int) < 0) = false := rfl
      simp only [Nat.add_zero] at y0
      go_wp2
      go_roundw
      case rel => exact ⟨0 + 1,by omega,by go_num,Hh (by rw [HU.out,HO.out,HOV.out];rfl),hbq⟩
      case measure => simp [intOf];omega
     ·obtain ⟨bo2,oo2,z,cs4,hD2,hbw4,hz,_,hc4,rfl,_⟩ := (HN3.out _ (HEW.out _ hbq)).at_ (k := j) (by omega)
      obtain ⟨rfl,rfl⟩ : bo = bo2 ∧ oo = oo2 := by injection hD2 with hD2;injection hD2 with h1 h2 _;exact ⟨h1,h2⟩
      have zz0 := hc4 0 _ rfl
      simp only [Nat.mul_one,Nat.add_zero] at zz0
      have HO := Hh (chk_succ (p := fun n : Int => up.getD n.toNat false) hz HY.out)
      clear hz hc4
      have hg1 : decide ((0 : Int) < (j : Int) + 1) = true := by rw [decide_eq_true_iff];omega
      have hg2 : IntKind.i64.wrap ((j : Int) + 1 - 1) = (j : Int) := by rw [show (j : Int) + 1 - 1 = j by omega];exact IntWalk.i64_in _ ⟨by omega,by omega⟩
      by_cases hzy : z < (i : Int)
      ·have hg3 : decide ((i : Int) ≤ z) = false := decide_eq_false (by omega)
       go_wp2
       go_roundw
       case rel => exact ⟨j + 1 + 1,by omega,by go_num,Hh (by rw [HU.out,HO.out,HOV.out,decide_eq_true hzy];rfl),hbq⟩
       case measure => simp [intOf];omega
      ·have HN := Hh (show R = false by rw [HSC.out,HE.out,HST.out,HX3.out,HU.out,HO.out,decide_eq_false hzy];simp)
       have hg3 : decide ((i : Int) ≤ z) = true := decide_eq_true (by omega)
       go_wp2
       exact ret_bool rfl rfl rfl (by rw [HN.out]) (HXW.out _ hbq)
    ·obtain rfl : j = nl := by omega
     have HUT := Hh (show (x.Nodes.all (fun n => up.getD n.toNat false) && ascGo x.Nodes) = true by rw [HU.out,show x.Nodes.drop j = [] from List.drop_eq_nil_of_le (by have := HNL.out;omega),asc_last HNL.out];rfl)
     have HXL := Hh (fun y : Later wr => hbq.trans y.ext)
     have hcx := @Later.cell wr
     generalize levT ps tl = lv at *
     ·by_cases hle : lv ≤ x.Job.Level
      ·have HO := Hh (show rs.all rl = (rs.drop (k + 1)).all rl by rw [HE.out,HST.out,HX3.out,HUT.out,decide_eq_true hle];rfl)
       have hgl : decide (x.Job.Level < lv) = false := decide_eq_false (by omega)
       go_wp2
       refine wp_region_ext (by kernel_rfl) (by kernel_rfl) ?_
       repeat (go_big_quiet_step (first | (go_at_call 37;with_reducible exact Calls.quiet_ext (HLW.out _ (HXL.out _))) | (go_at_call 36;with_reducible exact Calls.quiet_ext (HLE.out _ (HXL.out _)))))
       refine wpQuiet_nil ?_
       intro w7 hb7
       clear hcx z0 z1 z2 z12 z10
       go_wp2
       go_roundw
       case rel => exact ⟨k + 1,by omega,by go_num,HO,(hb.alloc _).trans (hbq.trans hb7)⟩
       case measure => simp [intOf];omega
      ·have HN := Hh (show R = false by rw [HSC.out,HE.out,HST.out,HX3.out,decide_eq_false hle];simp)
       have hgl : decide (x.Job.Level < lv) = true := decide_eq_true (by omega)
       go_wp2
       refine wp_region_ext (by kernel_rfl) (by kernel_rfl) ?_
       repeat (go_big_quiet_step (first | (go_at_call 37;with_reducible exact Calls.quiet_ext (HLW.out _ (HXL.out _))) | (go_at_call 36;with_reducible exact Calls.quiet_ext (HLE.out _ (HXL.out _)))))
       refine wpQuiet_nil ?_
       intro w7 hb7
       clear hcx z0 z1 z2 z12 z10
       go_wp2
       exact ret_bool rfl rfl rfl (by rw [HN.out]) (HXW.out _ (hbq.trans hb7))
  ·have HR := Hh (show R = es.all (endB now) by rw [HSC.out,HE.out,List.drop_eq_nil_of_le (by omega)];rfl)
   have b10 := hb.cell (cell_box_at w w.heap.size rfl [.slice A1 ps.length c1,.slice A2 ns.length c2,.slice A3 up.length c3,.int .i64 lic.A,.int .i64 lic.B,.int .i64 lic.C,.int .i64 dep,.int .i64 now,.slice A6 qs.length c6,.slice A7 rs.length c7,.slice A8 es.length c8] 34 10 _ rfl)
   have hbl := lt_of_cell b10
   go_wp2
   go_loopw [92] (fun iv wq => ∃ j : Nat,j ≤ es.length ∧ iv = .int .i64 j ∧ Hid (es.all (endB now) = (es.drop j).all (endB now)) ∧ Ext (w.alloc (.cells #[.slice A1 ps.length c1,.slice A2 ns.length c2,.slice A3 up.length c3,.int .i64 lic.A,.int .i64 lic.B,.int .i64 lic.C,.int .i64 dep,.int .i64 now,.slice A6 qs.length c6,.slice A7 rs.length c7,.slice A8 es.length c8] 34)) wq) (fun iv _ => es.length - (intOf iv).toNat)
   case atStart => exact ⟨0,Nat.zero_le _,rfl,Hh rfl,hb⟩
   case round =>
    clear b10 hbl
    obtain ⟨j,hj,rfl,HU,hbq⟩ := hrel
    have hxq : Ext w wr := ((Ext.refl w).alloc _).trans hbq
    by_cases hlt2 : j < es.length
    ·obtain ⟨bo,oo,y,cs2,hD,hbw2,hy,_,hc2,rfl,_⟩ := (HSL.out.2.2.2.2.ext (Flat.mono End.enc End.ok) hxq).at_ hlt2
     have b7 := hbq.cell (cell_box_at w w.heap.size rfl [.slice A1 ps.length c1,.slice A2 ns.length c2,.slice A3 up.length c3,.int .i64 lic.A,.int .i64 lic.B,.int .i64 lic.C,.int .i64 dep,.int .i64 now,.slice A6 qs.length c6,.slice A7 rs.length c7,.slice A8 es.length c8] 34 7 _ rfl)
     have hbl := lt_of_cell b7
     subst hD
     have y0 := hc2 0 _ rfl
     have y1 := hc2 1 _ rfl
     have y2 := hc2 2 _ rfl
     simp only [Nat.add_zero] at y0
     have HSU := Hh (all_drop (p := endB now) hy)
     have HEB := Hh (show endB now y = (withinB y.Id 1 999 && withinB y.At 0 now && withinB y.Why 1 4) from rfl)
     clear hy hc2
     have hall : (y.Id < 1) ∨ (1 ≤ y.Id ∧ 999 < y.Id) ∨ ((1 ≤ y.Id ∧ y.Id ≤ 999) ∧ y.At < 0) ∨ ((1 ≤ y.Id ∧ y.Id ≤ 999) ∧ 0 ≤ y.At ∧ now < y.At) ∨ ((1 ≤ y.Id ∧ y.Id ≤ 999) ∧ (0 ≤ y.At ∧ y.At ≤ now) ∧ y.Why < 1) ∨ ((1 ≤ y.Id ∧ y.Id ≤ 999) ∧ (0 ≤ y.At ∧ y.At ≤ now) ∧ 1 ≤ y.Why ∧ 4 < y.Why) ∨ ((1 ≤ y.Id ∧ y.Id ≤ 999) ∧ (0 ≤ y.At ∧ y.At ≤ now) ∧ 1 ≤ y.Why ∧ y.Why ≤ 4) := by omega
     have HDD := Hh (show (decide (y.Id < 1) = !decide (1 ≤ y.Id)) from (by by_cases h : y.Id < 1 <;> simp [h] <;> omega))
     rcases hall with p1 | ⟨p1,p2⟩ | ⟨⟨p1,p2⟩,p3⟩ | ⟨⟨p1,p2⟩,p3,p4⟩ | ⟨⟨p1,p2⟩,⟨p3,p4⟩,p5⟩ | ⟨⟨p1,p2⟩,⟨p3,p4⟩,p5,p6⟩ | ⟨⟨p1,p2⟩,⟨p3,p4⟩,p5,p6⟩
     rotate_left 6
     ·have HEQ := Hh (show endB now y = true by rw [HEB.out];unfold withinB;rw [decide_eq_true ⟨p1,p2⟩,decide_eq_true ⟨p3,p4⟩,decide_eq_true ⟨p5,p6⟩];rfl)
      have d1 : decide (y.Id < 1) = false := decide_eq_false (by omega)
      have d2 : decide (999 < y.Id) = false := decide_eq_false (by omega)
      have d3 : decide (y.At < 0) = false := decide_eq_false (by omega)
      have d4 : decide (now < y.At) = false := decide_eq_false (by omega)
      have d5 : decide (y.Why < 1) = false := decide_eq_false (by omega)
      have d6 : decide (4 < y.Why) = false := decide_eq_false (by omega)
      go_wp2
      go_roundw
      case rel => exact ⟨j + 1,by omega,by go_num,Hh (by rw [HU.out,HSU.out,HEQ.out];rfl),hbq.alloc _⟩
      case measure => simp [intOf];omega
     all_goals
      have HN := Hh (show R = false by
       rw [HR.out,HU.out,HSU.out,show endB now y = false by
        rw [HEB.out];unfold withinB;rw [← Bool.not_eq_true,Bool.and_eq_true,Bool.and_eq_true,decide_eq_true_iff,decide_eq_true_iff,decide_eq_true_iff];omega]
       rfl)
      go_wp2
      exact ret_bool rfl rfl rfl (by rw [HN.out]) (hxq.alloc _)
    ·have HN := Hh (show R = true by rw [HR.out,HU.out,List.drop_eq_nil_of_le (by omega)];rfl)
     go_wp2
     exact ret_bool rfl rfl rfl (by rw [HN.out]) hxq
def OkD (d : StD) : Prop := (d.n1 ≤ 24 ∧ d.n2 ≤ 24 ∧ d.n3 ≤ 24 ∧ d.n6 + d.n7 ≤ 60 ∧ d.n8 ≤ 300) ∧ d.n2 ≤ d.n3 ∧ d.n3 ≤ d.n2
theorem okd_of {s : State} {d : StD} (e : s.Topo.Parents.length = d.n1 ∧ s.Topo.Nodes.length = d.n2 ∧ s.Up.length = d.n3 ∧ s.Queue.length = d.n6 ∧ s.Runs.length = d.n7 ∧ s.Ends.length = d.n8) (h : stateB s = true) : OkD d ∧ (emptyF s).isSome = true := by
 obtain ⟨e1,e2,e3,e6,e7,e8⟩ := e
 unfold stateB at h
 simp only [Bool.and_eq_true,decide_eq_true_iff] at h
 obtain ⟨⟨⟨⟨⟨h1,h2⟩,h3⟩,h4⟩,h5⟩,h6⟩ := h
 have h7 := (roomF_some h1).1
 unfold stateHeadB at h7
 simp only [Bool.and_eq_true,decide_eq_true_iff] at h7
 obtain ⟨⟨⟨h8,h9⟩,h10⟩,h11⟩ := h7
 obtain ⟨⟨_,h12⟩,h13,_⟩ := topo_parts h8
 unfold queueB at h3
 simp only [Bool.and_eq_true,decide_eq_true_iff,List.length_append,List.length_map] at h3
 refine ⟨⟨⟨by omega,by omega,by omega,by omega,by omega⟩,by omega,by omega⟩, ?_⟩
 unfold emptyF
 rw [if_pos (by simp only [Bool.and_eq_true,decide_eq_true_iff];exact ⟨⟨h8,h9⟩,h10⟩)]
 rfl
theorem l06NodeD_c (d : StD) (n : Int) (w : World) : Calls Tryz.prog 99 #[.agg #[.slice d.A1 d.n1 d.c1,.slice d.A2 d.n2 d.c2,.slice d.A3 d.n3 d.c3,.int .i64 d.lic.A,.int .i64 d.lic.B,.int .i64 d.lic.C,.int .i64 d.dep,.int .i64 d.now,.slice d.A6 d.n6 d.c6,.slice d.A7 d.n7 d.c7,.slice d.A8 d.n8 d.c8],.int .i64 n] w (Ret w (.bool (decide (0 ≤ n ∧ n < d.n2)))) := by
 by_cases h0 : 0 ≤ n
 ·have h1 : decide (0 ≤ n) = true := decide_eq_true h0
  go_enter Tryz.func99,Tryz.ntmps99
  go_wp2
  refine ret_bool rfl rfl rfl ?_ ((Ext.refl w).alloc _)
  simp [h0]
 ·have h1 : decide (0 ≤ n) = false := decide_eq_false h0
  go_enter Tryz.func99,Tryz.ntmps99
  go_wp2
  refine ret_bool rfl rfl rfl ?_ ((Ext.refl w).alloc _)
  simp
theorem RoomS.setu {w : World} {lo g i : Nat} {b : Bool} {ps : List Int} {ns : List Node} {up : List Bool} {r : List (List Pt) × List Pt} {A1 : Option Addr} {c1 : Nat} {A2 : Option Addr} {c2 c3 : Nat} {A4 : Option Addr} {c4 : Nat} {A5 : Option Addr} {c5 : Nat} (h : RoomS w lo ps ns up r A1 c1 A2 c2 (some ⟨g,0,none⟩) c3 A4 c4 A5 c5) (hi : i < up.length) : RoomS (w.setCell ⟨g,i,none⟩ (.bool b)) lo ps ns (up.set i b) r A1 c1 A2 c2 (some ⟨g,0,none⟩) c3 A4 c4 A5 c5 := by
 have hu : w.ownsRow lo 4 1 (.slice (some ⟨g,0,none⟩) up.length c3) up.length (up.flatMap encB) := by
  rcases h.ups with h0 | h0
  ·omega
  ·exact h0
 have hk := kept_set w g i (.bool b)
 have hp := owns_put (enc := encB) (sz := 1) (k := i) (fun _ => rfl) (j := 0) (by omega) (List.getElem?_eq_getElem hi) (x' := b) (u := .bool b) rfl hu
 rw [Nat.mul_one,Nat.add_zero] at hp
 have hl : (up.set i b).length = up.length := List.length_set
 exact ⟨h.par.keep hu hk (by decide),h.nod.keep hu hk (by decide),.inr hp,h.pro.kept hu hk (by decide) (by decide),hk.own h.lic (g_apart h.lic hu (by decide)),h.ok1,h.ok2,h.ok3⟩
def RetYes (w : World) : Ending → World → Prop := fun e w' => ∃ b : Bool,e = .returned (.bool b) ∧ Ext w w'
theorem l06Could_c (s : State) (v : Value) (x : Job) (w : World) (h : StateAt w s v) (hlen : stateLen s) (he : (emptyF s).isSome = true) : Calls Tryz.prog 95 #[v,.agg #[.int .i64 x.Id,.int .i64 x.Prio,.int .i64 x.Nodes,.int .i64 x.Need.A,.int .i64 x.Need.B,.int .i64 x.Need.C,.int .i64 x.Lic.A,.int .i64 x.Lic.B,.int .i64 x.Lic.C,.int .i64 x.Wall,.int .i64 x.Level]] w (RetYes w) := by
 have HEM := Hh (fun (u : World) (e : Ext w u) => l06Empty_c s v u (h.ext e) hlen)
 obtain ⟨⟨pl,lic⟩,hr⟩ := Option.isSome_iff_exists.1 he
 obtain ⟨ht,hu,hk⟩ := emptyF_some hr
 have HT := Hh ht
 have HU := Hh hu
 have HKM := Hh hk
 rw [hr] at HEM
 obtain ⟨A1,c1,A2,c2,A3,c3,A6,c6,A7,c7,A8,c8,rfl,h1,h2,h3,h6,h7,h8⟩ := h
 clear h1 h2 h3 h6 h7 h8 ht hu hk hr he hlen
 generalize s.Topo.Parents = ps at *
 generalize s.Topo.Nodes = ns at *
 generalize s.Up = up at *
 generalize s.Queue.length = n6 at *
 generalize s.Runs.length = n7 at *
 generalize s.Ends.length = n8 at *
 go_enter Tryz.func95,Tryz.ntmps95
 go_wp2_with fail
 refine (HEM.out _ (((Ext.refl w).alloc _).alloc _)).mono ?_
 rintro e w3 ⟨B1,m1,d1,B2,m2,d2,B3,m3,d3,B4,m4,d4,B5,m5,d5,rfl,hsome,hb3⟩
 obtain ⟨rfl,rfl,rfl,rfl,rfl,hrs⟩ := hsome _ rfl
 simp only [] at hrs ⊢
 have E0 : Ext w (((w.alloc (.cells #[.slice A1 ps.length c1,.slice A2 ns.length c2,.slice A3 up.length c3,.int .i64 s.Lic.A,.int .i64 s.Lic.B,.int .i64 s.Lic.C,.int .i64 s.Depth,.int .i64 s.Now,.slice A6 n6 c6,.slice A7 n7 c7,.slice A8 n8 c8] 34)).alloc (.cells #[.int .i64 x.Id,.int .i64 x.Prio,.int .i64 x.Nodes,.int .i64 x.Need.A,.int .i64 x.Need.B,.int .i64 x.Need.C,.int .i64 x.Lic.A,.int .i64 x.Lic.B,.int .i64 x.Lic.C,.int .i64 x.Wall,.int .i64 x.Level] 52))) := ((Ext.refl w).alloc _).alloc _
 have HXB := Hh (show w3.ownsRow w.heap.size 52 11 (.slice (some ⟨w.heap.size + 1,0,none⟩) 1 1) 1 [.int .i64 x.Id,.int .i64 x.Prio,.int .i64 x.Nodes,.int .i64 x.Need.A,.int .i64 x.Need.B,.int .i64 x.Need.C,.int .i64 x.Lic.A,.int .i64 x.Lic.B,.int .i64 x.Lic.C,.int .i64 x.Wall,.int .i64 x.Level] from by
  have h := gbox (w.alloc (.cells #[.slice A1 ps.length c1,.slice A2 ns.length c2,.slice A3 up.length c3,.int .i64 s.Lic.A,.int .i64 s.Lic.B,.int .i64 s.Lic.C,.int .i64 s.Depth,.int .i64 s.Now,.slice A6 n6 c6,.slice A7 n7 c7,.slice A8 n8 c8] 34)) [.int .i64 x.Id,.int .i64 x.Prio,.int .i64 x.Nodes,.int .i64 x.Need.A,.int .i64 x.Need.B,.int .i64 x.Need.C,.int .i64 x.Lic.A,.int .i64 x.Lic.B,.int .i64 x.Lic.C,.int .i64 x.Wall,.int .i64 x.Level] 52 11 rfl
  rw [show (w.alloc (.cells #[.slice A1 ps.length c1,.slice A2 ns.length c2,.slice A3 up.length c3,.int .i64 s.Lic.A,.int .i64 s.Lic.B,.int .i64 s.Lic.C,.int .i64 s.Depth,.int .i64 s.Now,.slice A6 n6 c6,.slice A7 n7 c7,.slice A8 n8 c8] 34)).heap.size = w.heap.size + 1 by simp] at h
  exact owns_base (owns_ext h hb3) (by omega))
 have HX3 := Hh (E0.trans hb3)
 have hz3 := hb3.le
 simp at hz3
 have HRM := Hh (hrs.base (lo' := w.heap.size) (by simp;omega))
 clear hrs hb3 E0 HEM hsome
 have HRB := Hh (gbox w3 [.slice B1 ps.length d1,.slice B2 ns.length d2,.slice B3 up.length d3,.slice B4 pl.length d4,.slice B5 lic.length d5] 73 5 rfl)
 have hn24 : up.length ≤ 24 := by have := HU.out;have := (topo_parts HT.out).2.1;omega
 generalize hnu : up.length = nu at *
 have HNE := Hh hnu
 clear hnu
 go_wp2
 go_loopw [19] (fun iv wr => ∃ (k : Nat) (up2 : List Bool),k ≤ nu ∧ iv = .int .i64 k ∧ Hid (up2.length = nu) ∧ Hid (RoomS wr w.heap.size ps ns up2 (pl,lic) B1 d1 B2 d2 B3 d3 B4 d4 B5 d5) ∧ Hid (wr.ownsRow w.heap.size 73 5 (.slice (some ⟨w3.heap.size,0,none⟩) 1 1) 1 [.slice B1 ps.length d1,.slice B2 ns.length d2,.slice B3 nu d3,.slice B4 pl.length d4,.slice B5 lic.length d5]) ∧ Hid (wr.ownsRow w.heap.size 52 11 (.slice (some ⟨w.heap.size + 1,0,none⟩) 1 1) 1 [.int .i64 x.Id,.int .i64 x.Prio,.int .i64 x.Nodes,.int .i64 x.Need.A,.int .i64 x.Need.B,.int .i64 x.Need.C,.int .i64 x.Lic.A,.int .i64 x.Lic.B,.int .i64 x.Lic.C,.int .i64 x.Wall,.int .i64 x.Level]) ∧ Ext w wr) (fun iv _ => nu - (intOf iv).toNat)
 case atStart => exact ⟨0,up,Nat.zero_le _,rfl,HNE,Hh (HRM.out.ext ((Ext.refl _).alloc _)),Hh (owns_base HRB.out (by omega)),Hh (owns_ext HXB.out ((Ext.refl _).alloc _)),HX3.out.alloc _⟩
 case round =>
  clear HRM HRB HXB HX3
  obtain ⟨k,up2,hk,rfl,HN2,HRM,HRB,HXB,hb⟩ := hrel
  obtain ⟨q0,q1,q2,q3,q4,qf0,qf1,qf2,qf3,qf4,ql⟩ := gcells5 HRB.out
  by_cases hlt : k < nu
  ·have hu0 : wr.ownsRow w.heap.size 4 1 (.slice B3 up2.length d3) up2.length (up2.flatMap encB) := by
    rcases HRM.out.ups with h0 | h0
    ·have := HN2.out;omega
    ·exact h0
   obtain ⟨g,cp,hg,hg1,hg2⟩ := own_form hu0 (by have := HN2.out;omega)
   injection hg with hg _ _
   subst hg
   have HSU := Hh (HRM.out.setu (i := k) (b := true) (by have := HN2.out;omega))
   have hug : wr.frozen? ⟨g,k,none⟩ = false := hu0.frozenAt k
   obtain ⟨uc,huc⟩ := owns_cell hu0 (j := k) (by have := HN2.out;omega)
   have HKP := Hh (kept_set wr g k (.bool true))
   have HUO := Hh hu0
   have HRB2 := Hh (HKP.out.own HRB.out (g_apart HRB.out HUO.out (by decide)))
   have HXB2 := Hh (HKP.out.own HXB.out (g_apart HXB.out HUO.out (by decide)))
   have HXE := Hh (hb.setCell (p := ⟨g,k,none⟩) hg1 (.bool true))
   clear hu0 HKP HUO
   go_wp2
   go_roundw
   case rel => exact ⟨k + 1,up2.set k true,by omega,by go_num,Hh (by rw [List.length_set];exact HN2.out),HSU,HRB2,HXB2,HXE.out⟩
   case measure => simp [intOf];omega
  ·obtain rfl : k = nu := by omega
   obtain ⟨⟨p0,p1,p2,p3,p4,p5,p6,p7,p8,p9,p10⟩,⟨pf0,pf1,pf2,pf3,pf4,pf5,pf6,pf7,pf8,pf9,pf10⟩,pl_⟩ := cells11 HXB.out
   have HAT := Hh (show RoomAt wr ps ns up2 (pl,lic) (.agg #[.slice B1 ps.length d1,.slice B2 ns.length d2,.slice B3 k d3,.slice B4 pl.length d4,.slice B5 lic.length d5]) from by have h := HRM.out.at_;rw [HN2.out] at h;exact h)
   have HSM := Hh (rooms_sm (up := up2) HT.out (by have := HU.out;have := HN2.out;have := HNE.out;omega) HKM.out)
   have HB := Hh hb
   clear hb
   go_wp2_with fail
   refine (Earliest_c ps ns up2 pl lic x 0 _ _ HAT.out HSM.out (by unfold In64;omega)).mono ?_
   rintro e w5 ⟨ok5,t5,D,dn,dc,xs,rfl,_,_,_,_,_,hb5⟩
   have HB5 := Hh (HB.out.trans hb5)
   clear hb5
   go_wp2
   exact bodyPost_ret (v := .bool ok5) (by simp [results,Tryz.results95,go_sem, *]) rfl ⟨ok5,rfl,HB5.out⟩
theorem StD.good.setUp {w : World} {lo g k : Nat} {b : Bool} {d : StD} (h : d.good w lo) (hA : d.A3 = some ⟨g,0,none⟩) (hk : k < d.n3) : (d.withUp (d.up.set k b) d.A3 d.n3 d.c3).good (w.setCell ⟨g,k,none⟩ (.bool b)) lo := by
 have hu := h.r3
 have h3 := h.l3
 rw [hA] at hu
 have hkp := kept_set w g k (.bool b)
 have hu2 := hu
 rw [h3] at hu2
 have hp := owns_put (enc := encB) (sz := 1) (k := k) (fun _ => rfl) (j := 0) (by omega) (List.getElem?_eq_getElem (show k < d.up.length by omega)) (x' := b) (u := .bool b) rfl hu2
 rw [Nat.mul_one,Nat.add_zero,List.length_set,← h3,← hA] at hp
 exact ⟨h.l1,h.l2,(by show d.n3 = (d.up.set k b).length;rw [List.length_set];exact h3),h.l6,h.l7,h.l8,h.r1.keep hu hkp (by decide),h.r2.keep hu hkp (by decide),hp,hkp.own h.r6 (g_apart h.r6 hu (by decide)),hkp.own h.r7 (g_apart h.r7 hu (by decide)),hkp.own h.r8 (g_apart h.r8 hu (by decide)),h.k1,h.k2,h.k6,(fun x hx => ⟨(h.k7 x hx).1,by obtain ⟨xs,hx⟩ := (h.k7 x hx).2;exact ⟨xs,hx.kept hu hkp (by decide)⟩⟩),h.k8,h.kn⟩
theorem MvI.setUp {w u : World} {r g k : Nat} {b : Bool} {d : StD} (h : MvI w u r w.heap.size d d) (hA : d.A3 = some ⟨g,0,none⟩) (hk : k < d.n3) : MvI w (u.setCell ⟨g,k,none⟩ (.bool b)) r w.heap.size (d.withUp (d.up.set k b) d.A3 d.n3 d.c3) (d.withUp (d.up.set k b) d.A3 d.n3 d.c3) := by
 have hu := h.gd.r3
 rw [hA] at hu
 have hkp := kept_set u g k (.bool b)
 exact ⟨hkp.own h.box (g_apart h.box hu (by decide)),hkp.own h.res (g_apart h.res hu (by decide)),h.gd.setUp hA hk,h.ext.setCell (hu.lt g rfl).1 _⟩
theorem StD.good.upForm {w : World} {lo : Nat} {d : StD} (h : d.good w lo) (hn : 0 < d.n3) : ∃ g,d.A3 = some ⟨g,0,none⟩ := by
 obtain ⟨g,c,hv,_⟩ := own_form h.r3 hn
 injection hv with h1 _ _
 exact ⟨g,h1⟩
theorem StD.good.upCell {w : World} {lo g k : Nat} {d : StD} (h : d.good w lo) (hA : d.A3 = some ⟨g,0,none⟩) (hk : k < d.n3) : (∃ b : Bool,w.cell? ⟨g,k,none⟩ = some (.bool b)) ∧ w.frozen? ⟨g,k,none⟩ = false ∧ g < w.heap.size := by
 have hu := h.r3
 rw [hA] at hu
 have hs := h.sl3
 rw [hA] at hs
 obtain ⟨b,o,y,cs,e,_,_,_,hc,rfl,_⟩ := hs.at_ hk
 injection e with e
 injection e with e1 e2 _
 subst e1;subst e2
 have := hc 0 (.bool y) rfl
 rw [Nat.mul_one,Nat.zero_add,Nat.add_zero] at this
 exact ⟨⟨y,this⟩,hu.frozenAt k,(hu.lt g rfl).2⟩
end Go.Proofs.YtfanjhcdjbnnnaaGreat
