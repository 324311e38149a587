/- RoomOf. -/
import Derived.Test.YtfanjhcdjbnnnaaGreatK11
namespace Go.Proofs.YtfanjhcdjbnnnaaGreat
open Go.RowKit
set_option linter.unusedVariables false
set_option maxHeartbeats 32000000
set_option maxRecDepth 10000
theorem RoomOf_c (s : State) (v : Value) (w : World) (h : StateAt w s v) (hlen : stateLen s) : Calls Tryz.prog 26 #[v] w (RetRoomB w s.Topo.Parents s.Topo.Nodes s.Up (roomF s)) := by
 obtain ⟨⟨ps,ns⟩,up,lic,dep,now,qs,rs,es⟩ := s
 obtain ⟨A1,c1,A2,c2,A3,c3,A6,c6,A7,c7,A8,c8,rfl,h1,h2,h3,h6,h7,h8⟩ := h
 obtain ⟨hl1,hl2,hl3,hl6,hl7,hl8⟩ := hlen
 simp only [] at h1 h2 h3 h6 h7 h8 hl1 hl2 hl3 hl6 hl7 hl8 ⊢
 have HT := Hh (fun (u : World) (e : Ext w u) => TopoOk_c ps ns A1 ps.length c1 A2 ns.length c2 u (h1.ext (Flat.mono _ _) e) (by unfold maxLen;omega) (h2.ext (Flat.mono _ _) e) (by unfold maxLen;omega))
 have HV := Hh (fun (u : World) => VecOk_c lic u)
 have HM := Hh (fun (u : World) => isTime_c now u)
 have HF := Hh (show roomF ⟨⟨ps,ns⟩,up,lic,dep,now,qs,rs,es⟩ = if (topoB ps ns && decide (up.length = ns.length) && vecB lic && timeB now) = true then roomGo ns.length now rs (room0 ns lic) else none from rfl)
 generalize roomF ⟨⟨ps,ns⟩,up,lic,dep,now,qs,rs,es⟩ = R at *
 have HSL := Hh (show SlAt RInt 1 w A1 ps.length ps ∧ SlAt RNode 4 w A2 ns.length ns ∧ SlAt RB 1 w A3 up.length up ∧ SlAt RRun 13 w A7 rs.length rs from ⟨h1,h2,h3,h7⟩)
 clear h1 h2 h3 h6 h7 h8
 rcases (Bool.eq_false_or_eq_true (topoB ps ns)).symm with q1 | q1
 all_goals rw [q1] at HT HF
 ·have HN := Hh (show R = none by rw [HF.out];rfl)
  clear HF q1 HSL
  go_enter Tryz.func26,Tryz.ntmps26
  go_wp2_with fail
  refine (HT.out _ Ext.go).mono ?_
  rintro e w1 ⟨rfl,hb1⟩
  obtain ⟨hcr1,hfr1,hz1⟩ := hb1.rules
  (try simp at hz1)
  have hy1_w0 : w.heap.size < w1.heap.size := (by omega)
  have hy1_w1 : w.heap.size + 1 < w1.heap.size := (by omega)
  have HXF := Hh ((((Ext.refl w).alloc _).alloc _).trans hb1)
  obtain ⟨q0,q1,q2,q3,q4⟩ := bc5 (w.alloc (.cells #[.slice A1 ps.length c1,.slice A2 ns.length c2,.slice A3 up.length c3,.int .i64 lic.A,.int .i64 lic.B,.int .i64 lic.C,.int .i64 dep,.int .i64 now,.slice A6 qs.length c6,.slice A7 rs.length c7,.slice A8 es.length c8] 34)) (w.heap.size + 1) (.slice none 0 0) (.slice none 0 0) (.slice none 0 0) (.slice none 0 0) (.slice none 0 0) 73 ((hb1)) (by simp)
  obtain ⟨qf0,qf1,qf2,qf3,qf4⟩ := YtfanjhcdjbnnnaaGreat.bf5 (w.alloc (.cells #[.slice A1 ps.length c1,.slice A2 ns.length c2,.slice A3 up.length c3,.int .i64 lic.A,.int .i64 lic.B,.int .i64 lic.C,.int .i64 dep,.int .i64 now,.slice A6 qs.length c6,.slice A7 rs.length c7,.slice A8 es.length c8] 34)) (w.heap.size + 1) (.slice none 0 0) (.slice none 0 0) (.slice none 0 0) (.slice none 0 0) (.slice none 0 0) 73 ((hb1)) (by simp)
  have hql := lt_of_cell q0
  clear HT HV HM hcr1 hfr1 hb1
  go_wp2
  exact bodyPost_ret (v := .tuple #[.agg #[.slice none 0 0,.slice none 0 0,.slice none 0 0,.slice none 0 0,.slice none 0 0],.bool false]) (by simp [results,Tryz.results26,go_sem, *]) rfl (retRoom_none HN.out (HXF.out.five (by omega) _ _ _ _ _))
 by_cases hu : up.length = ns.length
 rotate_left
 ·have HN := Hh (show R = none by rw [HF.out,decide_eq_false hu];rfl)
  clear HF q1 HSL
  go_enter Tryz.func26,Tryz.ntmps26
  go_wp2_with fail
  refine (HT.out _ Ext.go).mono ?_
  rintro e w1 ⟨rfl,hb1⟩
  obtain ⟨hcr1,hfr1,hz1⟩ := hb1.rules
  (try simp at hz1)
  have hy1_w0 : w.heap.size < w1.heap.size := (by omega)
  have hy1_w1 : w.heap.size + 1 < w1.heap.size := (by omega)
  obtain ⟨b0,b1,b2,b3,b4,b5,b6,b7,b8,b9,b10⟩ := bc11 w (w.heap.size) (.slice A1 ps.length c1) (.slice A2 ns.length c2) (.slice A3 up.length c3) (.int .i64 lic.A) (.int .i64 lic.B) (.int .i64 lic.C) (.int .i64 dep) (.int .i64 now) (.slice A6 qs.length c6) (.slice A7 rs.length c7) (.slice A8 es.length c8) 34 ((((Ext.refl _).alloc _).trans hb1)) (by simp)
  obtain ⟨bf0,bf1,bf2,bf3,bf4,bf5,bf6,bf7,bf8,bf9,bf10⟩ := bf11 w (w.heap.size) (.slice A1 ps.length c1) (.slice A2 ns.length c2) (.slice A3 up.length c3) (.int .i64 lic.A) (.int .i64 lic.B) (.int .i64 lic.C) (.int .i64 dep) (.int .i64 now) (.slice A6 qs.length c6) (.slice A7 rs.length c7) (.slice A8 es.length c8) 34 ((((Ext.refl _).alloc _).trans hb1)) (by simp)
  have hbl := lt_of_cell b0
  have HXF := Hh ((((Ext.refl w).alloc _).alloc _).trans hb1)
  obtain ⟨q0,q1,q2,q3,q4⟩ := bc5 (w.alloc (.cells #[.slice A1 ps.length c1,.slice A2 ns.length c2,.slice A3 up.length c3,.int .i64 lic.A,.int .i64 lic.B,.int .i64 lic.C,.int .i64 dep,.int .i64 now,.slice A6 qs.length c6,.slice A7 rs.length c7,.slice A8 es.length c8] 34)) (w.heap.size + 1) (.slice none 0 0) (.slice none 0 0) (.slice none 0 0) (.slice none 0 0) (.slice none 0 0) 73 ((hb1)) (by simp)
  obtain ⟨qf0,qf1,qf2,qf3,qf4⟩ := YtfanjhcdjbnnnaaGreat.bf5 (w.alloc (.cells #[.slice A1 ps.length c1,.slice A2 ns.length c2,.slice A3 up.length c3,.int .i64 lic.A,.int .i64 lic.B,.int .i64 lic.C,.int .i64 dep,.int .i64 now,.slice A6 qs.length c6,.slice A7 rs.length c7,.slice A8 es.length c8] 34)) (w.heap.size + 1) (.slice none 0 0) (.slice none 0 0) (.slice none 0 0) (.slice none 0 0) (.slice none 0 0) 73 ((hb1)) (by simp)
  have hql := lt_of_cell q0
  clear HT HV HM hcr1 hfr1 hb1 bf0 bf1 bf2 bf3 bf4 bf5 bf6 bf7 bf8 bf9 bf10
  go_wp2
  exact bodyPost_ret (v := .tuple #[.agg #[.slice none 0 0,.slice none 0 0,.slice none 0 0,.slice none 0 0,.slice none 0 0],.bool false]) (by simp [results,Tryz.results26,go_sem, *]) rfl (retRoom_none HN.out (HXF.out.five (by omega) _ _ _ _ _))
 ·rw [decide_eq_true hu] at HF
  have HE := Hh (fun (u : World) (e : Ext w u) (hps : ps.length ≤ 24) (hns : ns.length ≤ 24) (hv : ∀ n ∈ ns,vecB n.Cap = true) (hl : vecB lic = true) => empty_c ps ns up lic A1 c1 A2 c2 A3 c3 u (HSL.out.1.ext (Flat.mono _ _) e) (HSL.out.2.1.ext (Flat.mono _ _) e) (HSL.out.2.2.1.ext (Flat.mono _ _) e) hps hns (by omega) hv hl)
  have HU := Hh hu
  rw [hu] at HE
  rw [hu]
  clear hu hl3
  rcases (Bool.eq_false_or_eq_true (vecB lic)).symm with q2 | q2
  all_goals rw [q2] at HV HF
  ·have HN := Hh (show R = none by rw [HF.out];rfl)
   clear HF q1 q2 HSL HE
   go_enter Tryz.func26,Tryz.ntmps26
   go_wp2_with fail
   refine (HT.out _ Ext.go).mono ?_
   rintro e w1 ⟨rfl,hb1⟩
   obtain ⟨hcr1,hfr1,hz1⟩ := hb1.rules
   (try simp at hz1)
   have hy1_w0 : w.heap.size < w1.heap.size := (by omega)
   have hy1_w1 : w.heap.size + 1 < w1.heap.size := (by omega)
   go_wp2_with fail
   refine (HV.out _).mono ?_
   rintro e w2 ⟨rfl,hb2⟩
   obtain ⟨hcr2,hfr2,hz2⟩ := hb2.rules
   (try simp at hz2)
   have hy2_w0 : w.heap.size < w2.heap.size := (by omega)
   have hy2_w1 : w.heap.size + 1 < w2.heap.size := (by omega)
   have HXF := Hh ((((Ext.refl w).alloc _).alloc _).trans (hb1.trans hb2))
   obtain ⟨q0,q1,q2,q3,q4⟩ := bc5 (w.alloc (.cells #[.slice A1 ps.length c1,.slice A2 ns.length c2,.slice A3 ns.length c3,.int .i64 lic.A,.int .i64 lic.B,.int .i64 lic.C,.int .i64 dep,.int .i64 now,.slice A6 qs.length c6,.slice A7 rs.length c7,.slice A8 es.length c8] 34)) (w.heap.size + 1) (.slice none 0 0) (.slice none 0 0) (.slice none 0 0) (.slice none 0 0) (.slice none 0 0) 73 ((hb1.trans hb2)) (by simp)
   obtain ⟨qf0,qf1,qf2,qf3,qf4⟩ := YtfanjhcdjbnnnaaGreat.bf5 (w.alloc (.cells #[.slice A1 ps.length c1,.slice A2 ns.length c2,.slice A3 ns.length c3,.int .i64 lic.A,.int .i64 lic.B,.int .i64 lic.C,.int .i64 dep,.int .i64 now,.slice A6 qs.length c6,.slice A7 rs.length c7,.slice A8 es.length c8] 34)) (w.heap.size + 1) (.slice none 0 0) (.slice none 0 0) (.slice none 0 0) (.slice none 0 0) (.slice none 0 0) 73 ((hb1.trans hb2)) (by simp)
   have hql := lt_of_cell q0
   clear HT HV HM hcr1 hfr1 hb1 hcr2 hfr2 hb2
   go_wp2
   exact bodyPost_ret (v := .tuple #[.agg #[.slice none 0 0,.slice none 0 0,.slice none 0 0,.slice none 0 0,.slice none 0 0],.bool false]) (by simp [results,Tryz.results26,go_sem, *]) rfl (retRoom_none HN.out (HXF.out.five (by omega) _ _ _ _ _))
  rcases (Bool.eq_false_or_eq_true (timeB now)).symm with q3 | q3
  all_goals rw [q3] at HM HF
  ·have HN := Hh (show R = none by rw [HF.out];rfl)
   clear HF q1 q2 q3 HSL HE
   go_enter Tryz.func26,Tryz.ntmps26
   go_wp2_with fail
   refine (HT.out _ Ext.go).mono ?_
   rintro e w1 ⟨rfl,hb1⟩
   obtain ⟨hcr1,hfr1,hz1⟩ := hb1.rules
   (try simp at hz1)
   have hy1_w0 : w.heap.size < w1.heap.size := (by omega)
   have hy1_w1 : w.heap.size + 1 < w1.heap.size := (by omega)
   go_wp2_with fail
   refine (HV.out _).mono ?_
   rintro e w2 ⟨rfl,hb2⟩
   obtain ⟨hcr2,hfr2,hz2⟩ := hb2.rules
   (try simp at hz2)
   have hy2_w0 : w.heap.size < w2.heap.size := (by omega)
   have hy2_w1 : w.heap.size + 1 < w2.heap.size := (by omega)
   go_wp2_with fail
   refine (HM.out _).mono ?_
   rintro e w3 ⟨rfl,rfl⟩
   have HXF := Hh ((((Ext.refl w).alloc _).alloc _).trans (hb1.trans hb2))
   obtain ⟨q0,q1,q2,q3,q4⟩ := bc5 (w.alloc (.cells #[.slice A1 ps.length c1,.slice A2 ns.length c2,.slice A3 ns.length c3,.int .i64 lic.A,.int .i64 lic.B,.int .i64 lic.C,.int .i64 dep,.int .i64 now,.slice A6 qs.length c6,.slice A7 rs.length c7,.slice A8 es.length c8] 34)) (w.heap.size + 1) (.slice none 0 0) (.slice none 0 0) (.slice none 0 0) (.slice none 0 0) (.slice none 0 0) 73 ((hb1.trans hb2)) (by simp)
   obtain ⟨qf0,qf1,qf2,qf3,qf4⟩ := YtfanjhcdjbnnnaaGreat.bf5 (w.alloc (.cells #[.slice A1 ps.length c1,.slice A2 ns.length c2,.slice A3 ns.length c3,.int .i64 lic.A,.int .i64 lic.B,.int .i64 lic.C,.int .i64 dep,.int .i64 now,.slice A6 qs.length c6,.slice A7 rs.length c7,.slice A8 es.length c8] 34)) (w.heap.size + 1) (.slice none 0 0) (.slice none 0 0) (.slice none 0 0) (.slice none 0 0) (.slice none 0 0) 73 ((hb1.trans hb2)) (by simp)
   have hql := lt_of_cell q0
   clear HT HV HM hcr1 hfr1 hb1 hcr2 hfr2 hb2
   go_wp2
   exact bodyPost_ret (v := .tuple #[.agg #[.slice none 0 0,.slice none 0 0,.slice none 0 0,.slice none 0 0,.slice none 0 0],.bool false]) (by simp [results,Tryz.results26,go_sem, *]) rfl (retRoom_none HN.out (HXF.out.five (by omega) _ _ _ _ _))
  ·have HG := Hh (show R = roomGo ns.length now rs (room0 ns lic) by rw [HF.out];rfl)
   have htp := topo_parts q1
   have HOK0 := Hh (room0_ok q1 q2)
   have hnow : 0 ≤ now ∧ now ≤ 1000000000 := by unfold timeB at q3;rw [decide_eq_true_iff] at q3;exact q3
   have HEM := Hh (fun (u : World) (e : Ext w u) => HE.out u e htp.1.2 htp.2.1 (fun n hn => by have := htp.2.2.2.2.1 n hn;unfold nodeB at this;simp only [Bool.and_eq_true] at this;exact this.2.2) q2)
   have HTB := Hh q1
   have HRS := Hh (fun (u : World) (e : Ext w u) => HSL.out.2.2.2.ext RRun.mono e)
   clear HF q1 q2 q3 htp HE HSL
   go_enter Tryz.func26,Tryz.ntmps26
   go_wp2_with fail
   refine (HT.out _ Ext.go).mono ?_
   rintro e w1 ⟨rfl,hb1⟩
   obtain ⟨hcr1,hfr1,hz1⟩ := hb1.rules
   (try simp at hz1)
   have hy1_w0 : w.heap.size < w1.heap.size := (by omega)
   have hy1_w1 : w.heap.size + 1 < w1.heap.size := (by omega)
   go_wp2_with fail
   refine (HV.out _).mono ?_
   rintro e w2 ⟨rfl,hb2⟩
   obtain ⟨hcr2,hfr2,hz2⟩ := hb2.rules
   (try simp at hz2)
   have hy2_w0 : w.heap.size < w2.heap.size := (by omega)
   have hy2_w1 : w.heap.size + 1 < w2.heap.size := (by omega)
   go_wp2_with fail
   refine (HM.out _).mono ?_
   rintro e w3 ⟨rfl,rfl⟩
   have hx2 : Ext w w2 := (((Ext.refl w).alloc _).alloc _).trans (hb1.trans hb2)
   have HX2 := Hh (show Ext ((w.alloc (.cells #[.slice A1 ps.length c1,.slice A2 ns.length c2,.slice A3 ns.length c3,.int .i64 lic.A,.int .i64 lic.B,.int .i64 lic.C,.int .i64 dep,.int .i64 now,.slice A6 qs.length c6,.slice A7 rs.length c7,.slice A8 es.length c8] 34)).alloc (.cells #[.slice none 0 0,.slice none 0 0,.slice none 0 0,.slice none 0 0,.slice none 0 0] 73)) w2 from hb1.trans hb2)
   go_wp2_with fail
   refine (HEM.out _ hx2).mono ?_
   rintro e w5 ⟨B1,d1,B2,d2,B3,d3,B4,d4,B5,d5,rfl,hro,hb5⟩
   have hz5 := hb5.le
   have HRO0 := Hh (hro.base (lo' := w.heap.size + 1 + 1) (by omega))
   have HBX0 := Hh (show (w5.alloc (.cells #[.slice B1 ps.length d1,.slice B2 ns.length d2,.slice B3 up.length d3,.slice B4 (room0 ns lic).1.length d4,.slice B5 (room0 ns lic).2.length d5] 73)).ownsRow (w.heap.size + 1 + 1) 73 5 (.slice (some ⟨w5.heap.size,0,none⟩) 1 1) 1 [.slice B1 ps.length d1,.slice B2 ns.length d2,.slice B3 up.length d3,.slice B4 (room0 ns lic).1.length d4,.slice B5 (room0 ns lic).2.length d5] from owns_base (gbox w5 [.slice B1 ps.length d1,.slice B2 ns.length d2,.slice B3 up.length d3,.slice B4 (room0 ns lic).1.length d4,.slice B5 (room0 ns lic).2.length d5] 73 5 rfl) (by omega))
   have HX5 := Hh (HX2.out.trans hb5)
   have hzb : w.heap.size + 1 + 1 ≤ w5.heap.size := by omega
   clear hro hb5 hb1 hb2 hcr1 hfr1 hcr2 hfr2 hx2 HT HV HM HEM
   generalize hr0 : room0 ns lic = r0 at *
   obtain ⟨pl0,lc0⟩ := r0
   have HR0 := Hh hr0
   clear hr0
   have s9 := (((Ext.refl (w.alloc (.cells #[.slice A1 ps.length c1,.slice A2 ns.length c2,.slice A3 ns.length c3,.int .i64 lic.A,.int .i64 lic.B,.int .i64 lic.C,.int .i64 dep,.int .i64 now,.slice A6 qs.length c6,.slice A7 rs.length c7,.slice A8 es.length c8] 34))).alloc _).trans HX5.out).cell (cell_box_at w w.heap.size rfl [.slice A1 ps.length c1,.slice A2 ns.length c2,.slice A3 ns.length c3,.int .i64 lic.A,.int .i64 lic.B,.int .i64 lic.C,.int .i64 dep,.int .i64 now,.slice A6 qs.length c6,.slice A7 rs.length c7,.slice A8 es.length c8] 34 9 _ rfl)
   have hs9 := lt_of_cell s9
   go_wp2
   go_loopw [46] (fun iv wr => ∃ (k : Nat) (pl : List (List Pt)) (lc : List Pt) (B1 : Option Addr) (d1 : Nat) (B2 : Option Addr) (d2 : Nat) (B3 : Option Addr) (d3 : Nat) (B4 : Option Addr) (d4 : Nat) (B5 : Option Addr) (d5 : Nat),k ≤ rs.length ∧ iv = .int .i64 k ∧ Hid (R = roomGo ns.length now (rs.drop k) (pl,lc)) ∧ Hid (roomOkM ns.length (pl,lc)) ∧ Hid (RoomO wr (w.heap.size + 1 + 1) ps ns up (pl,lc) B1 d1 B2 d2 B3 d3 B4 d4 B5 d5) ∧ Hid (wr.ownsRow (w.heap.size + 1 + 1) 73 5 (.slice (some ⟨w5.heap.size,0,none⟩) 1 1) 1 [.slice B1 ps.length d1,.slice B2 ns.length d2,.slice B3 up.length d3,.slice B4 pl.length d4,.slice B5 lc.length d5]) ∧ Ext ((w.alloc (.cells #[.slice A1 ps.length c1,.slice A2 ns.length c2,.slice A3 ns.length c3,.int .i64 lic.A,.int .i64 lic.B,.int .i64 lic.C,.int .i64 dep,.int .i64 now,.slice A6 qs.length c6,.slice A7 rs.length c7,.slice A8 es.length c8] 34)).alloc (.cells #[.slice none 0 0,.slice none 0 0,.slice none 0 0,.slice none 0 0,.slice none 0 0] 73)) wr) (fun iv _ => rs.length - (intOf iv).toNat)
   case atStart => exact ⟨0,pl0,lc0,B1,d1,B2,d2,B3,d3,B4,d4,B5,d5,Nat.zero_le _,rfl,Hh HG.out,HOK0,Hh (HRO0.out.ext ((Ext.refl _).alloc _)),HBX0,HX5.out.alloc _⟩
   case round =>
    clear HRO0 HBX0 HG HOK0 HX2 s9
    obtain ⟨k,pl,lc,B1,d1,B2,d2,B3,d3,B4,d4,B5,d5,hk,rfl,HG,HOK,HRO,HBX,hb⟩ := hrel
    have hxw : Ext w wr := (((Ext.refl w).alloc _).alloc _).trans hb
    by_cases hlt : k < rs.length
    ·obtain ⟨bq,oq,x,cs,hA7,hbw,hx,_,hc,Ar,cr,rfl,hs,hcr,hnl,hat64,hjok⟩ := (HRS.out wr hxw).at_ hlt
     subst hA7
     have g0 := hc 0 _ rfl
     have g1 := hc 1 _ rfl
     have g2 := hc 2 _ rfl
     have g3 := hc 3 _ rfl
     have g4 := hc 4 _ rfl
     have g5 := hc 5 _ rfl
     have g6 := hc 6 _ rfl
     have g7 := hc 7 _ rfl
     have g8 := hc 8 _ rfl
     have g9 := hc 9 _ rfl
     have g10 := hc 10 _ rfl
     have g11 := hc 11 _ rfl
     have g12 := hc 12 _ rfl
     simp only [Nat.add_zero] at g0
     have HST := Hh (room_step (m := ns.length) (now := now) (r := (pl,lc)) hx)
     have HOKD := Hh (show runOkB ns.length now x = (jobB x.Job && jobNodesB ns.length x.Job x.Nodes && (withinB x.At 0 now && withinB (x.At + x.Job.Wall) (now + 1) 1000000000)) from rfl)
     have HNS := Hh (fun (u : World) (e : Ext wr u) => hs.ext (Flat.mono encInt In64) e)
     have HWL := Hh (fun (h : jobB x.Job = true) => jobB_wall h)
     have HAT := Hh hat64
     have HCR := Hh hcr
     have HNLL := Hh hnl
     clear hx hc hs hat64 hjok hcr hnl
     have HJ := Hh (fun u : World => JobOk_c x.Job u)
     have HS7 := Hh ((((Ext.refl (w.alloc (.cells #[.slice A1 ps.length c1,.slice A2 ns.length c2,.slice A3 ns.length c3,.int .i64 lic.A,.int .i64 lic.B,.int .i64 lic.C,.int .i64 dep,.int .i64 now,.slice A6 qs.length c6,.slice (some ⟨bq,oq,none⟩) rs.length c7,.slice A8 es.length c8] 34))).alloc _).trans hb).cell (cell_box_at w w.heap.size rfl [.slice A1 ps.length c1,.slice A2 ns.length c2,.slice A3 ns.length c3,.int .i64 lic.A,.int .i64 lic.B,.int .i64 lic.C,.int .i64 dep,.int .i64 now,.slice A6 qs.length c6,.slice (some ⟨bq,oq,none⟩) rs.length c7,.slice A8 es.length c8] 34 7 _ rfl))
     rcases (Bool.eq_false_or_eq_true (jobB x.Job)).symm with q1 | q1
     all_goals rw [q1] at HJ HOKD
     ·have HN := Hh (show R = none by rw [HG.out,HST.out,HOKD.out];rfl)
      clear HS7 HRO HBX HOK q1
      go_wp2_with fail
      refine (HJ.out _).mono ?_
      rintro e w1 ⟨rfl,hb1⟩
      have HXF := Hh (hxw.trans (((Ext.refl wr).alloc _).trans hb1))
      obtain ⟨q0,q1,q2,q3,q4⟩ := bc5 (w.alloc (.cells #[.slice A1 ps.length c1,.slice A2 ns.length c2,.slice A3 ns.length c3,.int .i64 lic.A,.int .i64 lic.B,.int .i64 lic.C,.int .i64 dep,.int .i64 now,.slice A6 qs.length c6,.slice (some ⟨bq,oq,none⟩) rs.length c7,.slice A8 es.length c8] 34)) (w.heap.size + 1) (.slice none 0 0) (.slice none 0 0) (.slice none 0 0) (.slice none 0 0) (.slice none 0 0) 73 ((hb.trans (((Ext.refl wr).alloc _).trans hb1))) (by simp)
      obtain ⟨qf0,qf1,qf2,qf3,qf4⟩ := YtfanjhcdjbnnnaaGreat.bf5 (w.alloc (.cells #[.slice A1 ps.length c1,.slice A2 ns.length c2,.slice A3 ns.length c3,.int .i64 lic.A,.int .i64 lic.B,.int .i64 lic.C,.int .i64 dep,.int .i64 now,.slice A6 qs.length c6,.slice (some ⟨bq,oq,none⟩) rs.length c7,.slice A8 es.length c8] 34)) (w.heap.size + 1) (.slice none 0 0) (.slice none 0 0) (.slice none 0 0) (.slice none 0 0) (.slice none 0 0) 73 ((hb.trans (((Ext.refl wr).alloc _).trans hb1))) (by simp)
      have hql := lt_of_cell q0
      clear hb hxw hb1 g0 g1 g2 g3 g4 g5 g6 g7 g8 g9 g10 g11 g12
      go_wp2
      exact bodyPost_ret (v := .tuple #[.agg #[.slice none 0 0,.slice none 0 0,.slice none 0 0,.slice none 0 0,.slice none 0 0],.bool false]) (by simp [results,Tryz.results26,go_sem, *]) rfl (retRoom_none HN.out ((HXF.out.five (by omega) _ _ _ _ _)))
     have hwall := HWL.out q1
     have hw1 := IntWalk.i64_in (now + 1) ⟨by omega,by omega⟩
     go_wp2_with fail
     refine (HJ.out _).mono ?_
     rintro e w1 ⟨rfl,hb1⟩
     have hb1x : Ext wr w1 := ((Ext.refl wr).alloc _).trans hb1
     have e0 := hb1.cell (cell_box_at wr wr.heap.size rfl [.int .i64 x.Job.Id,.int .i64 x.Job.Prio,.int .i64 x.Job.Nodes,.int .i64 x.Job.Need.A,.int .i64 x.Job.Need.B,.int .i64 x.Job.Need.C,.int .i64 x.Job.Lic.A,.int .i64 x.Job.Lic.B,.int .i64 x.Job.Lic.C,.int .i64 x.Job.Wall,.int .i64 x.Job.Level,.int .i64 x.At,.slice Ar x.Nodes.length cr] 54 0 _ rfl)
     have e1 := hb1.cell (cell_box_at wr wr.heap.size rfl [.int .i64 x.Job.Id,.int .i64 x.Job.Prio,.int .i64 x.Job.Nodes,.int .i64 x.Job.Need.A,.int .i64 x.Job.Need.B,.int .i64 x.Job.Need.C,.int .i64 x.Job.Lic.A,.int .i64 x.Job.Lic.B,.int .i64 x.Job.Lic.C,.int .i64 x.Job.Wall,.int .i64 x.Job.Level,.int .i64 x.At,.slice Ar x.Nodes.length cr] 54 1 _ rfl)
     have e2 := hb1.cell (cell_box_at wr wr.heap.size rfl [.int .i64 x.Job.Id,.int .i64 x.Job.Prio,.int .i64 x.Job.Nodes,.int .i64 x.Job.Need.A,.int .i64 x.Job.Need.B,.int .i64 x.Job.Need.C,.int .i64 x.Job.Lic.A,.int .i64 x.Job.Lic.B,.int .i64 x.Job.Lic.C,.int .i64 x.Job.Wall,.int .i64 x.Job.Level,.int .i64 x.At,.slice Ar x.Nodes.length cr] 54 2 _ rfl)
     have e3 := hb1.cell (cell_box_at wr wr.heap.size rfl [.int .i64 x.Job.Id,.int .i64 x.Job.Prio,.int .i64 x.Job.Nodes,.int .i64 x.Job.Need.A,.int .i64 x.Job.Need.B,.int .i64 x.Job.Need.C,.int .i64 x.Job.Lic.A,.int .i64 x.Job.Lic.B,.int .i64 x.Job.Lic.C,.int .i64 x.Job.Wall,.int .i64 x.Job.Level,.int .i64 x.At,.slice Ar x.Nodes.length cr] 54 3 _ rfl)
     have e4 := hb1.cell (cell_box_at wr wr.heap.size rfl [.int .i64 x.Job.Id,.int .i64 x.Job.Prio,.int .i64 x.Job.Nodes,.int .i64 x.Job.Need.A,.int .i64 x.Job.Need.B,.int .i64 x.Job.Need.C,.int .i64 x.Job.Lic.A,.int .i64 x.Job.Lic.B,.int .i64 x.Job.Lic.C,.int .i64 x.Job.Wall,.int .i64 x.Job.Level,.int .i64 x.At,.slice Ar x.Nodes.length cr] 54 4 _ rfl)
     have e5 := hb1.cell (cell_box_at wr wr.heap.size rfl [.int .i64 x.Job.Id,.int .i64 x.Job.Prio,.int .i64 x.Job.Nodes,.int .i64 x.Job.Need.A,.int .i64 x.Job.Need.B,.int .i64 x.Job.Need.C,.int .i64 x.Job.Lic.A,.int .i64 x.Job.Lic.B,.int .i64 x.Job.Lic.C,.int .i64 x.Job.Wall,.int .i64 x.Job.Level,.int .i64 x.At,.slice Ar x.Nodes.length cr] 54 5 _ rfl)
     have e6 := hb1.cell (cell_box_at wr wr.heap.size rfl [.int .i64 x.Job.Id,.int .i64 x.Job.Prio,.int .i64 x.Job.Nodes,.int .i64 x.Job.Need.A,.int .i64 x.Job.Need.B,.int .i64 x.Job.Need.C,.int .i64 x.Job.Lic.A,.int .i64 x.Job.Lic.B,.int .i64 x.Job.Lic.C,.int .i64 x.Job.Wall,.int .i64 x.Job.Level,.int .i64 x.At,.slice Ar x.Nodes.length cr] 54 6 _ rfl)
     have e7 := hb1.cell (cell_box_at wr wr.heap.size rfl [.int .i64 x.Job.Id,.int .i64 x.Job.Prio,.int .i64 x.Job.Nodes,.int .i64 x.Job.Need.A,.int .i64 x.Job.Need.B,.int .i64 x.Job.Need.C,.int .i64 x.Job.Lic.A,.int .i64 x.Job.Lic.B,.int .i64 x.Job.Lic.C,.int .i64 x.Job.Wall,.int .i64 x.Job.Level,.int .i64 x.At,.slice Ar x.Nodes.length cr] 54 7 _ rfl)
     have e8 := hb1.cell (cell_box_at wr wr.heap.size rfl [.int .i64 x.Job.Id,.int .i64 x.Job.Prio,.int .i64 x.Job.Nodes,.int .i64 x.Job.Need.A,.int .i64 x.Job.Need.B,.int .i64 x.Job.Need.C,.int .i64 x.Job.Lic.A,.int .i64 x.Job.Lic.B,.int .i64 x.Job.Lic.C,.int .i64 x.Job.Wall,.int .i64 x.Job.Level,.int .i64 x.At,.slice Ar x.Nodes.length cr] 54 8 _ rfl)
     have e9 := hb1.cell (cell_box_at wr wr.heap.size rfl [.int .i64 x.Job.Id,.int .i64 x.Job.Prio,.int .i64 x.Job.Nodes,.int .i64 x.Job.Need.A,.int .i64 x.Job.Need.B,.int .i64 x.Job.Need.C,.int .i64 x.Job.Lic.A,.int .i64 x.Job.Lic.B,.int .i64 x.Job.Lic.C,.int .i64 x.Job.Wall,.int .i64 x.Job.Level,.int .i64 x.At,.slice Ar x.Nodes.length cr] 54 9 _ rfl)
     have e10 := hb1.cell (cell_box_at wr wr.heap.size rfl [.int .i64 x.Job.Id,.int .i64 x.Job.Prio,.int .i64 x.Job.Nodes,.int .i64 x.Job.Need.A,.int .i64 x.Job.Need.B,.int .i64 x.Job.Need.C,.int .i64 x.Job.Lic.A,.int .i64 x.Job.Lic.B,.int .i64 x.Job.Lic.C,.int .i64 x.Job.Wall,.int .i64 x.Job.Level,.int .i64 x.At,.slice Ar x.Nodes.length cr] 54 10 _ rfl)
     have e11 := hb1.cell (cell_box_at wr wr.heap.size rfl [.int .i64 x.Job.Id,.int .i64 x.Job.Prio,.int .i64 x.Job.Nodes,.int .i64 x.Job.Need.A,.int .i64 x.Job.Need.B,.int .i64 x.Job.Need.C,.int .i64 x.Job.Lic.A,.int .i64 x.Job.Lic.B,.int .i64 x.Job.Lic.C,.int .i64 x.Job.Wall,.int .i64 x.Job.Level,.int .i64 x.At,.slice Ar x.Nodes.length cr] 54 11 _ rfl)
     have e12 := hb1.cell (cell_box_at wr wr.heap.size rfl [.int .i64 x.Job.Id,.int .i64 x.Job.Prio,.int .i64 x.Job.Nodes,.int .i64 x.Job.Need.A,.int .i64 x.Job.Need.B,.int .i64 x.Job.Need.C,.int .i64 x.Job.Lic.A,.int .i64 x.Job.Lic.B,.int .i64 x.Job.Lic.C,.int .i64 x.Job.Wall,.int .i64 x.Job.Level,.int .i64 x.At,.slice Ar x.Nodes.length cr] 54 12 _ rfl)
     have he0 := lt_of_cell e0
     have s7 := hb1x.cell HS7.out
     have hs7 := lt_of_cell s7
     clear g0 g1 g2 g3 g4 g5 g6 g7 g8 g9 g10 g11 g12
     go_wp2_with fail
     refine (within_c x.At 0 now _).mono ?_
     rintro e w2 ⟨rfl,rfl⟩
     rcases (Bool.eq_false_or_eq_true (withinB x.At 0 now)).symm with q2 | q2
     all_goals rw [q2] at HOKD
     ·have HN := Hh (show R = none by rw [HG.out,HST.out,HOKD.out];simp)
      rw [q2]
      clear HS7 HRO HBX HOK q1 q2 e0 e1 e2 e3 e4 e5 e6 e7 e8 e9 e10 e11 e12 s7
      have HXF := Hh (hxw.trans (hb1x))
      obtain ⟨q0,q1,q2,q3,q4⟩ := bc5 (w.alloc (.cells #[.slice A1 ps.length c1,.slice A2 ns.length c2,.slice A3 ns.length c3,.int .i64 lic.A,.int .i64 lic.B,.int .i64 lic.C,.int .i64 dep,.int .i64 now,.slice A6 qs.length c6,.slice (some ⟨bq,oq,none⟩) rs.length c7,.slice A8 es.length c8] 34)) (w.heap.size + 1) (.slice none 0 0) (.slice none 0 0) (.slice none 0 0) (.slice none 0 0) (.slice none 0 0) 73 ((hb.trans (hb1x))) (by simp)
      obtain ⟨qf0,qf1,qf2,qf3,qf4⟩ := YtfanjhcdjbnnnaaGreat.bf5 (w.alloc (.cells #[.slice A1 ps.length c1,.slice A2 ns.length c2,.slice A3 ns.length c3,.int .i64 lic.A,.int .i64 lic.B,.int .i64 lic.C,.int .i64 dep,.int .i64 now,.slice A6 qs.length c6,.slice (some ⟨bq,oq,none⟩) rs.length c7,.slice A8 es.length c8] 34)) (w.heap.size + 1) (.slice none 0 0) (.slice none 0 0) (.slice none 0 0) (.slice none 0 0) (.slice none 0 0) 73 ((hb.trans (hb1x))) (by simp)
      have hql := lt_of_cell q0
      clear hb hxw hb1 hb1x
      go_wp2
      exact bodyPost_ret (v := .tuple #[.agg #[.slice none 0 0,.slice none 0 0,.slice none 0 0,.slice none 0 0,.slice none 0 0],.bool false]) (by simp [results,Tryz.results26,go_sem, *]) rfl (retRoom_none HN.out ((HXF.out.five (by omega) _ _ _ _ _)))
     have hat : 0 ≤ x.At ∧ x.At ≤ now := by unfold withinB at q2;rw [decide_eq_true_iff] at q2;exact q2
     rw [q2]
     have hw2 := IntWalk.i64_in (x.At + x.Job.Wall) ⟨by omega,by omega⟩
     go_wp2_with fail
     skip
     refine (within_c (x.At + x.Job.Wall) (now + 1) 1000000000 _).mono ?_
     rintro e w2 ⟨rfl,rfl⟩
     rcases (Bool.eq_false_or_eq_true (withinB (x.At + x.Job.Wall) (now + 1) 1000000000)).symm with q3 | q3
     all_goals rw [q3] at HOKD
     ·have HN := Hh (show R = none by rw [HG.out,HST.out,HOKD.out];simp)
      rw [q3]
      clear HS7 HRO HBX HOK q1 q2 q3 e0 e1 e2 e3 e4 e5 e6 e7 e8 e9 e10 e11 e12 s7
      have HXF := Hh (hxw.trans (hb1x))
      obtain ⟨q0,q1,q2,q3,q4⟩ := bc5 (w.alloc (.cells #[.slice A1 ps.length c1,.slice A2 ns.length c2,.slice A3 ns.length c3,.int .i64 lic.A,.int .i64 lic.B,.int .i64 lic.C,.int .i64 dep,.int .i64 now,.slice A6 qs.length c6,.slice (some ⟨bq,oq,none⟩) rs.length c7,.slice A8 es.length c8] 34)) (w.heap.size + 1) (.slice none 0 0) (.slice none 0 0) (.slice none 0 0) (.slice none 0 0) (.slice none 0 0) 73 ((hb.trans (hb1x))) (by simp)
      obtain ⟨qf0,qf1,qf2,qf3,qf4⟩ := YtfanjhcdjbnnnaaGreat.bf5 (w.alloc (.cells #[.slice A1 ps.length c1,.slice A2 ns.length c2,.slice A3 ns.length c3,.int .i64 lic.A,.int .i64 lic.B,.int .i64 lic.C,.int .i64 dep,.int .i64 now,.slice A6 qs.length c6,.slice (some ⟨bq,oq,none⟩) rs.length c7,.slice A8 es.length c8] 34)) (w.heap.size + 1) (.slice none 0 0) (.slice none 0 0) (.slice none 0 0) (.slice none 0 0) (.slice none 0 0) 73 ((hb.trans (hb1x))) (by simp)
      have hql := lt_of_cell q0
      clear hb hxw hb1 hb1x
      go_wp2
      exact bodyPost_ret (v := .tuple #[.agg #[.slice none 0 0,.slice none 0 0,.slice none 0 0,.slice none 0 0,.slice none 0 0],.bool false]) (by simp [results,Tryz.results26,go_sem, *]) rfl (retRoom_none HN.out ((HXF.out.five (by omega) _ _ _ _ _)))
     rw [q3]
     have HBX1 := Hh (owns_ext HBX.out hb1x)
     obtain ⟨t0,t1,t2,t3,t4,tf0,tf1,tf2,tf3,tf4,tl⟩ := gcells5 HBX1.out
     have HMV := Hh (moved_c ps ns up pl lc x.Job now (x.At + x.Job.Wall) x.Nodes Ar x.Nodes.length cr _ w1 (HRO.out.ext hb1x).at_ HTB.out HU.out HOK.out (HNS.out _ hb1x) (by have := HNLL.out;unfold maxLen;omega) HCR.out ⟨by omega,by omega⟩ ⟨by omega,by omega⟩)
     have HMX := Hh (show R = (match (if (jobB x.Job && jobNodesB ns.length x.Job x.Nodes) = true then moveM now (x.At + x.Job.Wall) x.Job x.Nodes (pl,lc) else none) with | none => none | some r' => roomGo ns.length now (rs.drop (k + 1)) r') by
      rw [HG.out,HST.out,HOKD.out,q1]
      cases jobNodesB ns.length x.Job x.Nodes <;> rfl)
     have HVL := Hh (fun (r' : List (List Pt) × List Pt) (h : (if (jobB x.Job && jobNodesB ns.length x.Job x.Nodes) = true then moveM now (x.At + x.Job.Wall) x.Job x.Nodes (pl,lc) else none) = some r') => show roomOkM ns.length r' from by
      split at h
      ·exact moveM_valid HOK.out h
      ·cases h)
     generalize (if (jobB x.Job && jobNodesB ns.length x.Job x.Nodes) = true then moveM now (x.At + x.Job.Wall) x.Job x.Nodes (pl,lc) else none) = mr at *
     clear q1 q2 q3 HS7 tf0 tf1 tf2 tf3 tf4
     go_wp2_with fail
     refine HMV.out.mono ?_
     rintro e w3 ⟨E1,n1,f1,E2,n2,f2,E3,n3,f3,E4,n4,f4,E5,n5,f5,rfl,hro3,hb3⟩
     have HRO3 := Hh hro3
     have hz3 := hb3.le
     have hz1 := hb1x.le
     have hzr := (HBX.out.lt w5.heap.size rfl).2
     have hb3x : Ext wr w3 := hb1x.trans hb3
     clear hro3 t0 t1 t2 t3 t4 e0 e1 e2 e3 e4 e5 e6 e7 e8 e9 e10 e11 e12 s7 tl HMV HBX1
     rcases mr with _ | mr
     ·have HN := Hh (show R = none by rw [HMX.out])
      have HXF := Hh (hxw.trans (hb3x))
      obtain ⟨q0,q1,q2,q3,q4⟩ := bc5 (w.alloc (.cells #[.slice A1 ps.length c1,.slice A2 ns.length c2,.slice A3 ns.length c3,.int .i64 lic.A,.int .i64 lic.B,.int .i64 lic.C,.int .i64 dep,.int .i64 now,.slice A6 qs.length c6,.slice (some ⟨bq,oq,none⟩) rs.length c7,.slice A8 es.length c8] 34)) (w.heap.size + 1) (.slice none 0 0) (.slice none 0 0) (.slice none 0 0) (.slice none 0 0) (.slice none 0 0) 73 ((hb.trans (hb3x))) (by simp)
      obtain ⟨qf0,qf1,qf2,qf3,qf4⟩ := YtfanjhcdjbnnnaaGreat.bf5 (w.alloc (.cells #[.slice A1 ps.length c1,.slice A2 ns.length c2,.slice A3 ns.length c3,.int .i64 lic.A,.int .i64 lic.B,.int .i64 lic.C,.int .i64 dep,.int .i64 now,.slice A6 qs.length c6,.slice (some ⟨bq,oq,none⟩) rs.length c7,.slice A8 es.length c8] 34)) (w.heap.size + 1) (.slice none 0 0) (.slice none 0 0) (.slice none 0 0) (.slice none 0 0) (.slice none 0 0) 73 ((hb.trans (hb3x))) (by simp)
      have hql := lt_of_cell q0
      clear hb hxw hb1 hb1x hb3 hb3x HRO HBX HRO3 HOK HMX HVL
      go_wp2
      exact bodyPost_ret (v := .tuple #[.agg #[.slice none 0 0,.slice none 0 0,.slice none 0 0,.slice none 0 0,.slice none 0 0],.bool false]) (by simp [results,Tryz.results26,go_sem, *]) rfl (retRoom_none HN.out ((HXF.out.five (by omega) _ _ _ _ _).alloc _))
     ·obtain ⟨pl2,lc2⟩ := mr
      obtain ⟨rfl,rfl,rfl,rfl,rfl,hro4⟩ := HRO3.out _ rfl
      simp only [] at hro4 ⊢
      have HBX3 := Hh (owns_ext HBX.out hb3x)
      obtain ⟨t0,t1,t2,t3,t4,tf0,tf1,tf2,tf3,tf4,tl⟩ := gcells5 HBX3.out
      have HF5 := Hh (room_fill (hro4.base (lo' := w.heap.size + 1 + 1) (by omega)) HBX3.out (.slice E1 ps.length f1) (.slice E2 ns.length f2) (.slice E3 up.length f3) (.slice E4 pl2.length f4) (.slice E5 lc2.length f5))
      have HXF := Hh (Ext.five (hb.trans hb3x) (b := w5.heap.size) (by simp;omega) (.slice E1 ps.length f1) (.slice E2 ns.length f2) (.slice E3 up.length f3) (.slice E4 pl2.length f4) (.slice E5 lc2.length f5))
      have HVV := Hh (HVL.out _ rfl)
      clear hro4 HRO3 HRO HBX HOK HVL hb hb1 hb1x hb3 hb3x hxw HBX3
      go_wp2
      go_roundw
      case rel => exact ⟨k + 1,pl2,lc2,E1,f1,E2,f2,E3,f3,E4,f4,E5,f5,by omega,by go_num,Hh HMX.out,HVV,Hh (HF5.out.1.ext ((Ext.refl _).alloc _)),Hh (owns_ext HF5.out.2 ((Ext.refl _).alloc _)),HXF.out.alloc _⟩
      case measure => simp [intOf];omega
    ·have HKN := Hh (show R = some (pl,lc) by rw [HG.out,List.drop_eq_nil_of_le (by omega)];rfl)
     obtain ⟨t0,t1,t2,t3,t4,tf0,tf1,tf2,tf3,tf4,tl⟩ := gcells5 HBX.out
     obtain ⟨q0,q1,q2,q3,q4⟩ := bc5 (w.alloc (.cells #[.slice A1 ps.length c1,.slice A2 ns.length c2,.slice A3 ns.length c3,.int .i64 lic.A,.int .i64 lic.B,.int .i64 lic.C,.int .i64 dep,.int .i64 now,.slice A6 qs.length c6,.slice A7 rs.length c7,.slice A8 es.length c8] 34)) (w.heap.size + 1) (.slice none 0 0) (.slice none 0 0) (.slice none 0 0) (.slice none 0 0) (.slice none 0 0) 73 ((hb)) (by simp)
     obtain ⟨qf0,qf1,qf2,qf3,qf4⟩ := YtfanjhcdjbnnnaaGreat.bf5 (w.alloc (.cells #[.slice A1 ps.length c1,.slice A2 ns.length c2,.slice A3 ns.length c3,.int .i64 lic.A,.int .i64 lic.B,.int .i64 lic.C,.int .i64 dep,.int .i64 now,.slice A6 qs.length c6,.slice A7 rs.length c7,.slice A8 es.length c8] 34)) (w.heap.size + 1) (.slice none 0 0) (.slice none 0 0) (.slice none 0 0) (.slice none 0 0) (.slice none 0 0) 73 ((hb)) (by simp)
     have hql := lt_of_cell q0
     have hqb : w.heap.size + 1 ≠ w5.heap.size := by omega
     have HRO4 := Hh (((((HRO.out.low (b := w.heap.size + 1) (p := 0) (u := .slice B1 ps.length d1) (by omega)).low (b := w.heap.size + 1) (p := 1) (u := .slice B2 ns.length d2) (by omega)).low (b := w.heap.size + 1) (p := 2) (u := .slice B3 up.length d3) (by omega)).low (b := w.heap.size + 1) (p := 3) (u := .slice B4 pl.length d4) (by omega)).low (b := w.heap.size + 1) (p := 4) (u := .slice B5 lc.length d5) (by omega))
     have HXF := Hh hxw
     clear HRO HBX hb hxw HOK HG
     go_wp2
     exact bodyPost_ret (v := .tuple #[.agg #[.slice B1 ps.length d1,.slice B2 ns.length d2,.slice B3 up.length d3,.slice B4 pl.length d4,.slice B5 lc.length d5],.bool true]) (by simp [results,Tryz.results26,go_sem, *]) rfl ⟨B1,ps.length,d1,B2,ns.length,d2,B3,up.length,d3,B4,pl.length,d4,B5,lc.length,d5,by rw [HKN.out];rfl,fun r hr => by rw [HKN.out] at hr;injection hr with hr;subst hr;exact ⟨rfl,rfl,rfl,rfl,rfl,HRO4.out.base (by omega)⟩,HXF.out.five (by omega) _ _ _ _ _⟩
end Go.Proofs.YtfanjhcdjbnnnaaGreat
