/- SEmp, StLaw. -/
import Derived.Test.YtfanjhcdjbnnnaaGreatK11
import Derived.Test.YtfanjhcdjbnnnaaGreatK16
import Derived.Test.YtfanjhcdjbnnnaaGreatK23
import Derived.Test.YtfanjhcdjbnnnaaGreatK04
import Derived.Test.YtfanjhcdjbnnnaaGreatK09
namespace Go.Proofs.YtfanjhcdjbnnnaaGreat
open Go.RowKit
set_option linter.unusedVariables false
set_option maxHeartbeats 32000000
set_option maxRecDepth 10000
def emptyF (s : State) : Option (List (List Pt) × List Pt) := if (topoB s.Topo.Parents s.Topo.Nodes && decide (s.Up.length = s.Topo.Nodes.length) && vecB s.Lic) = true then some (room0 s.Topo.Nodes s.Lic) else none
theorem l06Empty_c (s : State) (v : Value) (w : World) (h : StateAt w s v) (hlen : stateLen s) : Calls Tryz.prog 57 #[v] w (RetRoomSB w s.Topo.Parents s.Topo.Nodes s.Up (emptyF s)) := by
 obtain ⟨⟨ps,ns⟩,up,lic,dep,now,qs,rs,es⟩ := s
 obtain ⟨A1,c1,A2,c2,A3,c3,A6,c6,A7,c7,A8,c8,rfl,h1,h2,h3,h6,h7,h8⟩ := h
 obtain ⟨hl1,hl2,hl3,hl6,hl7,hl8⟩ := hlen
 simp only [] at h1 h2 h3 h6 h7 h8 hl1 hl2 hl3 hl6 hl7 hl8 ⊢
 have HT := Hh (fun (u : World) (e : Ext w u) => sTopoOk_c ps ns A1 ps.length c1 A2 ns.length c2 u (h1.ext (Flat.mono _ _) e) (by unfold maxLen;omega) (h2.ext (Flat.mono _ _) e) (by unfold maxLen;omega))
 have HV := Hh (fun (u : World) => sVecOk_c lic u)
 have HF := Hh (show emptyF ⟨⟨ps,ns⟩,up,lic,dep,now,qs,rs,es⟩ = if (topoB ps ns && decide (up.length = ns.length) && vecB lic) = true then some (room0 ns lic) else none from rfl)
 generalize emptyF ⟨⟨ps,ns⟩,up,lic,dep,now,qs,rs,es⟩ = R at *
 obtain ⟨i1,hi1,hJ0,hJ1,hJ2⟩ := info_parts CProf.info
 have HPN := Hh (fun (v : Vec) (hv : vecB v = true) (u : World) => show Calls Tryz.prog 89 #[.agg #[.int .i64 v.A,.int .i64 v.B,.int .i64 v.C]] u (RetP u (some [⟨0,v⟩])) from by have := sProfNew_c v u;rw [if_pos hv] at this;exact this)
 have HSL := Hh (fun (u : World) (e : Ext w u) => show SlAt RInt 1 u A1 ps.length ps ∧ SlAt RNode 4 u A2 ns.length ns ∧ SlAt RB 1 u A3 up.length up from ⟨h1.ext (Flat.mono _ _) e,h2.ext (Flat.mono _ _) e,h3.ext (Flat.mono _ _) e⟩)
 clear h1 h2 h3 h6 h7 h8
 rcases (Bool.eq_false_or_eq_true (topoB ps ns)).symm with q1 | q1
 all_goals rw [q1] at HT HF
 ·have HN := Hh (show R = none by rw [HF.out];rfl)
  clear HF q1 HSL
  go_enter Tryz.func57,Tryz.ntmps57
  go_wp2_with fail
  refine (HT.out _ Ext.go).mono ?_
  rintro e w1 ⟨rfl,hb1⟩
  obtain ⟨hcr1,hfr1,hz1⟩ := hb1.rules
  (try simp at hz1)
  have hy1_w0 : w.heap.size < w1.heap.size := (by omega)
  have hy1_w1 : w.heap.size + 1 < w1.heap.size := (by omega)
  have hy1_w2 : w.heap.size + 1 + 1 < w1.heap.size := (by omega)
  have HXF := Hh (((((Ext.refl w).alloc _).alloc _).alloc _).trans (hb1))
  obtain ⟨q0,q1,q2,q3,q4⟩ := bc5 (w.alloc (.cells #[.slice A1 ps.length c1,.slice A2 ns.length c2,.slice A3 up.length c3,.int .i64 lic.A,.int .i64 lic.B,.int .i64 lic.C,.int .i64 dep,.int .i64 now,.slice A6 qs.length c6,.slice A7 rs.length c7,.slice A8 es.length c8] 34)) (w.heap.size + 1) (.slice none 0 0) (.slice none 0 0) (.slice none 0 0) (.slice none 0 0) (.slice none 0 0) 73 ((((Ext.refl _).alloc _).trans (hb1))) (by simp)
  obtain ⟨qf0,qf1,qf2,qf3,qf4⟩ := YtfanjhcdjbnnnaaGreat.bf5 (w.alloc (.cells #[.slice A1 ps.length c1,.slice A2 ns.length c2,.slice A3 up.length c3,.int .i64 lic.A,.int .i64 lic.B,.int .i64 lic.C,.int .i64 dep,.int .i64 now,.slice A6 qs.length c6,.slice A7 rs.length c7,.slice A8 es.length c8] 34)) (w.heap.size + 1) (.slice none 0 0) (.slice none 0 0) (.slice none 0 0) (.slice none 0 0) (.slice none 0 0) 73 ((((Ext.refl _).alloc _).trans (hb1))) (by simp)
  have hql := lt_of_cell q0
  clear HT HV HPN hcr1 hfr1 hb1
  go_wp2
  exact bodyPost_ret (v := .tuple #[.agg #[.slice none 0 0,.slice none 0 0,.slice none 0 0,.slice none 0 0,.slice none 0 0],.bool false]) (by simp [results,Tryz.results57,go_sem, *]) rfl (retRoomS_none HN.out (HXF.out.five (by omega) _ _ _ _ _))
 by_cases hu : up.length = ns.length
 rotate_left
 ·have HN := Hh (show R = none by rw [HF.out,decide_eq_false hu];rfl)
  clear HF q1 HSL
  go_enter Tryz.func57,Tryz.ntmps57
  go_wp2_with fail
  refine (HT.out _ Ext.go).mono ?_
  rintro e w1 ⟨rfl,hb1⟩
  obtain ⟨hcr1,hfr1,hz1⟩ := hb1.rules
  (try simp at hz1)
  have hy1_w0 : w.heap.size < w1.heap.size := (by omega)
  have hy1_w1 : w.heap.size + 1 < w1.heap.size := (by omega)
  have hy1_w2 : w.heap.size + 1 + 1 < w1.heap.size := (by omega)
  obtain ⟨b0,b1,b2,b3,b4,b5,b6,b7,b8,b9,b10⟩ := bc11 w (w.heap.size) (.slice A1 ps.length c1) (.slice A2 ns.length c2) (.slice A3 up.length c3) (.int .i64 lic.A) (.int .i64 lic.B) (.int .i64 lic.C) (.int .i64 dep) (.int .i64 now) (.slice A6 qs.length c6) (.slice A7 rs.length c7) (.slice A8 es.length c8) 34 (((((Ext.refl _).alloc _).alloc _).trans hb1)) (by simp)
  obtain ⟨bf0,bf1,bf2,bf3,bf4,bf5,bf6,bf7,bf8,bf9,bf10⟩ := bf11 w (w.heap.size) (.slice A1 ps.length c1) (.slice A2 ns.length c2) (.slice A3 up.length c3) (.int .i64 lic.A) (.int .i64 lic.B) (.int .i64 lic.C) (.int .i64 dep) (.int .i64 now) (.slice A6 qs.length c6) (.slice A7 rs.length c7) (.slice A8 es.length c8) 34 (((((Ext.refl _).alloc _).alloc _).trans hb1)) (by simp)
  have hbl := lt_of_cell b0
  have HXF := Hh (((((Ext.refl w).alloc _).alloc _).alloc _).trans (hb1))
  obtain ⟨q0,q1,q2,q3,q4⟩ := bc5 (w.alloc (.cells #[.slice A1 ps.length c1,.slice A2 ns.length c2,.slice A3 up.length c3,.int .i64 lic.A,.int .i64 lic.B,.int .i64 lic.C,.int .i64 dep,.int .i64 now,.slice A6 qs.length c6,.slice A7 rs.length c7,.slice A8 es.length c8] 34)) (w.heap.size + 1) (.slice none 0 0) (.slice none 0 0) (.slice none 0 0) (.slice none 0 0) (.slice none 0 0) 73 ((((Ext.refl _).alloc _).trans (hb1))) (by simp)
  obtain ⟨qf0,qf1,qf2,qf3,qf4⟩ := YtfanjhcdjbnnnaaGreat.bf5 (w.alloc (.cells #[.slice A1 ps.length c1,.slice A2 ns.length c2,.slice A3 up.length c3,.int .i64 lic.A,.int .i64 lic.B,.int .i64 lic.C,.int .i64 dep,.int .i64 now,.slice A6 qs.length c6,.slice A7 rs.length c7,.slice A8 es.length c8] 34)) (w.heap.size + 1) (.slice none 0 0) (.slice none 0 0) (.slice none 0 0) (.slice none 0 0) (.slice none 0 0) 73 ((((Ext.refl _).alloc _).trans (hb1))) (by simp)
  have hql := lt_of_cell q0
  clear HT HV HPN hcr1 hfr1 hb1 bf0 bf1 bf2 bf3 bf4 bf5 bf6 bf7 bf8 bf9 bf10
  go_wp2
  exact bodyPost_ret (v := .tuple #[.agg #[.slice none 0 0,.slice none 0 0,.slice none 0 0,.slice none 0 0,.slice none 0 0],.bool false]) (by simp [results,Tryz.results57,go_sem, *]) rfl (retRoomS_none HN.out (HXF.out.five (by omega) _ _ _ _ _))
 rw [decide_eq_true hu] at HF
 have HU := Hh hu
 rw [hu]
 rw [hu] at HSL
 clear hu hl3
 rcases (Bool.eq_false_or_eq_true (vecB lic)).symm with q2 | q2
 all_goals rw [q2] at HV HF
 ·have HN := Hh (show R = none by rw [HF.out];rfl)
  clear HF q1 q2 HSL
  go_enter Tryz.func57,Tryz.ntmps57
  go_wp2_with fail
  refine (HT.out _ Ext.go).mono ?_
  rintro e w1 ⟨rfl,hb1⟩
  obtain ⟨hcr1,hfr1,hz1⟩ := hb1.rules
  (try simp at hz1)
  have hy1_w0 : w.heap.size < w1.heap.size := (by omega)
  have hy1_w1 : w.heap.size + 1 < w1.heap.size := (by omega)
  have hy1_w2 : w.heap.size + 1 + 1 < w1.heap.size := (by omega)
  go_wp2_with fail
  refine (HV.out _).mono ?_
  rintro e w2 ⟨rfl,hb2⟩
  obtain ⟨hcr2,hfr2,hz2⟩ := hb2.rules
  (try simp at hz2)
  have hy2_w0 : w.heap.size < w2.heap.size := (by omega)
  have hy2_w1 : w.heap.size + 1 < w2.heap.size := (by omega)
  have hy2_w2 : w.heap.size + 1 + 1 < w2.heap.size := (by omega)
  have HXF := Hh (((((Ext.refl w).alloc _).alloc _).alloc _).trans (hb1.trans hb2))
  obtain ⟨q0,q1,q2,q3,q4⟩ := bc5 (w.alloc (.cells #[.slice A1 ps.length c1,.slice A2 ns.length c2,.slice A3 ns.length c3,.int .i64 lic.A,.int .i64 lic.B,.int .i64 lic.C,.int .i64 dep,.int .i64 now,.slice A6 qs.length c6,.slice A7 rs.length c7,.slice A8 es.length c8] 34)) (w.heap.size + 1) (.slice none 0 0) (.slice none 0 0) (.slice none 0 0) (.slice none 0 0) (.slice none 0 0) 73 ((((Ext.refl _).alloc _).trans (hb1.trans hb2))) (by simp)
  obtain ⟨qf0,qf1,qf2,qf3,qf4⟩ := YtfanjhcdjbnnnaaGreat.bf5 (w.alloc (.cells #[.slice A1 ps.length c1,.slice A2 ns.length c2,.slice A3 ns.length c3,.int .i64 lic.A,.int .i64 lic.B,.int .i64 lic.C,.int .i64 dep,.int .i64 now,.slice A6 qs.length c6,.slice A7 rs.length c7,.slice A8 es.length c8] 34)) (w.heap.size + 1) (.slice none 0 0) (.slice none 0 0) (.slice none 0 0) (.slice none 0 0) (.slice none 0 0) 73 ((((Ext.refl _).alloc _).trans (hb1.trans hb2))) (by simp)
  have hql := lt_of_cell q0
  clear HT HV HPN hcr1 hfr1 hb1 hcr2 hfr2 hb2
  go_wp2
  exact bodyPost_ret (v := .tuple #[.agg #[.slice none 0 0,.slice none 0 0,.slice none 0 0,.slice none 0 0,.slice none 0 0],.bool false]) (by simp [results,Tryz.results57,go_sem, *]) rfl (retRoomS_none HN.out (HXF.out.five (by omega) _ _ _ _ _))
 have HG := Hh (show R = some (room0 ns lic) by rw [HF.out];rfl)
 have htp := topo_parts q1
 have HOK0 := Hh (room0_ok q1 q2)
 have HNV := Hh (show ∀ n ∈ ns,vecB n.Cap = true from fun n hn => by have := htp.2.2.2.2.1 n hn;unfold nodeB at this;simp only [Bool.and_eq_true] at this;exact this.2.2)
 have HPL := Hh htp.1.2
 have hns24 := htp.2.1
 have HLV := Hh q2
 clear HF q1 q2 htp
 go_enter Tryz.func57,Tryz.ntmps57
 go_wp2_with fail
 refine (HT.out _ Ext.go).mono ?_
 rintro e w1 ⟨rfl,hb1⟩
 obtain ⟨hcr1,hfr1,hz1⟩ := hb1.rules
 (try simp at hz1)
 have hy1_w0 : w.heap.size < w1.heap.size := (by omega)
 have hy1_w1 : w.heap.size + 1 < w1.heap.size := (by omega)
 have hy1_w2 : w.heap.size + 1 + 1 < w1.heap.size := (by omega)
 go_wp2_with fail
 refine (HV.out _).mono ?_
 rintro e w2 ⟨rfl,hb2⟩
 obtain ⟨hcr2,hfr2,hz2⟩ := hb2.rules
 (try simp at hz2)
 have hy2_w0 : w.heap.size < w2.heap.size := (by omega)
 have hy2_w1 : w.heap.size + 1 < w2.heap.size := (by omega)
 have hy2_w2 : w.heap.size + 1 + 1 < w2.heap.size := (by omega)
 have HX2 := Hh (show Ext ((w.alloc (.cells #[.slice A1 ps.length c1,.slice A2 ns.length c2,.slice A3 ns.length c3,.int .i64 lic.A,.int .i64 lic.B,.int .i64 lic.C,.int .i64 dep,.int .i64 now,.slice A6 qs.length c6,.slice A7 rs.length c7,.slice A8 es.length c8] 34)).alloc (.cells #[.slice none 0 0,.slice none 0 0,.slice none 0 0,.slice none 0 0,.slice none 0 0] 73)) w2 from ((Ext.refl _).alloc _).trans (hb1.trans hb2))
 have HBX0 := Hh (show w2.ownsRow (w.heap.size + 1 + 1) 73 5 (.slice (some ⟨w.heap.size + 1 + 1,0,none⟩) 1 1) 1 [.slice A1 ps.length c1,.slice A2 ns.length c2,.slice A3 ns.length c3,.slice none 0 0,.slice none 0 0] from by
  have h := owns_ext (gbox ((w.alloc (.cells #[.slice A1 ps.length c1,.slice A2 ns.length c2,.slice A3 ns.length c3,.int .i64 lic.A,.int .i64 lic.B,.int .i64 lic.C,.int .i64 dep,.int .i64 now,.slice A6 qs.length c6,.slice A7 rs.length c7,.slice A8 es.length c8] 34)).alloc (.cells #[.slice none 0 0,.slice none 0 0,.slice none 0 0,.slice none 0 0,.slice none 0 0] 73)) [.slice A1 ps.length c1,.slice A2 ns.length c2,.slice A3 ns.length c3,.slice none 0 0,.slice none 0 0] 73 5 rfl) (hb1.trans hb2)
  rw [show ((w.alloc (.cells #[.slice A1 ps.length c1,.slice A2 ns.length c2,.slice A3 ns.length c3,.int .i64 lic.A,.int .i64 lic.B,.int .i64 lic.C,.int .i64 dep,.int .i64 now,.slice A6 qs.length c6,.slice A7 rs.length c7,.slice A8 es.length c8] 34)).alloc (.cells #[.slice none 0 0,.slice none 0 0,.slice none 0 0,.slice none 0 0,.slice none 0 0] 73)).heap.size = w.heap.size + 1 + 1 by simp] at h
  exact h)
 have s1 := (((Ext.refl (w.alloc (.cells #[.slice A1 ps.length c1,.slice A2 ns.length c2,.slice A3 ns.length c3,.int .i64 lic.A,.int .i64 lic.B,.int .i64 lic.C,.int .i64 dep,.int .i64 now,.slice A6 qs.length c6,.slice A7 rs.length c7,.slice A8 es.length c8] 34))).alloc _).trans HX2.out).cell (cell_box_at w w.heap.size rfl [.slice A1 ps.length c1,.slice A2 ns.length c2,.slice A3 ns.length c3,.int .i64 lic.A,.int .i64 lic.B,.int .i64 lic.C,.int .i64 dep,.int .i64 now,.slice A6 qs.length c6,.slice A7 rs.length c7,.slice A8 es.length c8] 34 1 _ rfl)
 have hs1 := lt_of_cell s1
 clear hb1 hb2 hcr1 hfr1 hcr2 hfr2 HT HV
 go_wp2
 go_loopw [39] (fun iv wr => ∃ (k : Nat) (A10 : Option Addr) (c10 : Nat),k ≤ ns.length ∧ iv = .int .i64 k ∧ Hid (PO wr (w.heap.size + 1 + 1) A10 k c10 ((ns.take k).map (fun n : Node => [(⟨0,n.Cap⟩ : Pt)]))) ∧ Hid (wr.ownsRow (w.heap.size + 1 + 1) 73 5 (.slice (some ⟨w.heap.size + 1 + 1,0,none⟩) 1 1) 1 [.slice A1 ps.length c1,.slice A2 ns.length c2,.slice A3 ns.length c3,.slice A10 k c10,.slice none 0 0]) ∧ Ext ((w.alloc (.cells #[.slice A1 ps.length c1,.slice A2 ns.length c2,.slice A3 ns.length c3,.int .i64 lic.A,.int .i64 lic.B,.int .i64 lic.C,.int .i64 dep,.int .i64 now,.slice A6 qs.length c6,.slice A7 rs.length c7,.slice A8 es.length c8] 34)).alloc (.cells #[.slice none 0 0,.slice none 0 0,.slice none 0 0,.slice none 0 0,.slice none 0 0] 73)) wr) (fun iv _ => ns.length - (intOf iv).toNat)
 case atStart => exact ⟨0,none,0,Nat.zero_le _,rfl,Hh (PO.nil _ _),HBX0,HX2.out⟩
 case round =>
  clear HBX0 HX2 s1
  obtain ⟨k,A10,c10,hk,rfl,HPO,HBX,hb⟩ := hrel
  have hxw : Ext w wr := (((Ext.refl w).alloc _).alloc _).trans hb
  have hzb := (HBX.out.lt _ rfl).2
  by_cases hlt : k < ns.length
  ·obtain ⟨bq,oq,x,cs,hA2,hbw,hx2,_,hc,rfl,hok⟩ := (HSL.out wr hxw).2.1.at_ hlt
   subst hA2
   have g0 := hc 0 _ rfl
   have g1 := hc 1 _ rfl
   have g2 := hc 2 _ rfl
   have g3 := hc 3 _ rfl
   simp only [Nat.add_zero] at g0
   have HX := Hh hx2
   have HVX := Hh (HNV.out x (List.mem_of_getElem? hx2))
   obtain ⟨hpl1,L,hL,hLi⟩ := HPO.out
   have HTK := Hh hpl1
   have HLL := Hh hL
   have HLI := Hh hLi
   clear hx2 hc hok hpl1 hL hLi hxw
   go_wp2_with fail
   refine (HPN.out x.Cap HVX.out _).mono ?_
   rintro e w4 ⟨A11,c11,l,rfl,hr4,ho4,hy4,hb4⟩
   obtain rfl : l = [⟨0,x.Cap⟩] := by rcases hr4 with h4 | ⟨h4,_⟩;(injection h4 with h4;exact h4.symm);(cases h4)
   have HE4 := Hh (show Ext wr w4 from ((Ext.refl wr).alloc _).trans hb4)
   have hz4 := HE4.out.le
   have HO4 := Hh (owns_base ho4 (show w.heap.size + 1 + 1 ≤ _ by simp;omega))
   have HY4 := Hh hy4
   have x4 := HE4.out.cell (gcells5 HBX.out).2.2.2.1
   have hl4 : w.heap.size + 1 + 1 < w4.heap.size := by omega
   clear hr4 ho4 hy4 hb4
   go_wp2_with (at_builtin;go_must (refine wpList_append_r (enc := encS) (ok := fun _ => True) (.tmp 50) (.tmp 52) _ (w.heap.size + 1 + 1) 71 i1 _ 1 24 (.slice A10 k c10) k L _ 1 1 [(A11,1,c11)] rfl rfl Tryz.underlying68 hi1 hJ0 hJ1 hJ2 rfl (by omega) rfl (owns_ext HLL.out ((HE4.out.alloc _).alloc _)) rfl (by exact sl_one_at (enc := encS) _ _ (by simp) (A11,1,c11) 71 rfl trivial) (fun _ => rfl) encS_one (by unfold maxLen;omega) (by omega) (by simp;omega) ?_);intro A12 c12 w5 hr5;have HR5 := Hh hr5;have HB5 := Hh (hr5.other (owns_ext HBX.out ((HE4.out.alloc _).alloc _)) (g_apart HBX.out HLL.out (by decide)));have x5 := (gcells5 HB5.out).2.2.2.1;have xf5 := HB5.out.frozenAt 3;have hl5 := (HB5.out.lt _ rfl).2;have hz5 := hr5.size;clear hr5)
   have HRN := Hh (PO.grow HTK.out (owns_ext HLL.out ((HE4.out.alloc _).alloc _)) (fun j p hj => by obtain ⟨Ap,cp,e1,e2,e3⟩ := HLI.out j p hj;exact ⟨Ap,cp,e1,owns_ext e2 ((HE4.out.alloc _).alloc _),e3⟩) HR5.out (p := [⟨0,x.Cap⟩]) (by simp [encS]) (owns_ext HO4.out (((Ext.refl w4).alloc _).alloc _)) HY4.out)
   have HXT := Hh (ext_turned (hb.trans ((HE4.out.alloc _).alloc _)) (HR5.out.turned (lo := w.heap.size + 1 + 1) (fun q hq => (HLL.out.lt q hq).1)) (by simp))
   clear x4
   go_wp2
   go_roundw
   case rel => exact ⟨k + 1,A12,c12,by omega,by go_num,Hh (by rw [take_succ HX.out,List.map_append];exact HRN.out.far HB5.out (by decide) (by decide)),Hh (HB5.out.stored 3 _).1,HXT.out.setCell (by simp) _⟩
   case measure => simp [intOf];omega
  ·obtain ⟨hkn,HKN⟩ : k = ns.length ∧ Hid (k = ns.length) := ⟨by omega,Hh (by omega)⟩
   have HMP := Hh (show ((ns.take k).map (fun n : Node => [(⟨0,n.Cap⟩ : Pt)])) = ns.map (fun n : Node => [(⟨0,n.Cap⟩ : Pt)]) by rw [List.take_of_length_le (by have := HKN.out;omega)])
   rw [HMP.out] at HPO
   clear hkn
   obtain ⟨b0,b1,b2,b3,b4,b5,b6,b7,b8,b9,b10⟩ := bc11 w (w.heap.size) (.slice A1 ps.length c1) (.slice A2 ns.length c2) (.slice A3 ns.length c3) (.int .i64 lic.A) (.int .i64 lic.B) (.int .i64 lic.C) (.int .i64 dep) (.int .i64 now) (.slice A6 qs.length c6) (.slice A7 rs.length c7) (.slice A8 es.length c8) 34 ((((Ext.refl _).alloc _).trans hb)) (by simp)
   obtain ⟨bf0,bf1,bf2,bf3,bf4,bf5,bf6,bf7,bf8,bf9,bf10⟩ := bf11 w (w.heap.size) (.slice A1 ps.length c1) (.slice A2 ns.length c2) (.slice A3 ns.length c3) (.int .i64 lic.A) (.int .i64 lic.B) (.int .i64 lic.C) (.int .i64 dep) (.int .i64 now) (.slice A6 qs.length c6) (.slice A7 rs.length c7) (.slice A8 es.length c8) 34 ((((Ext.refl _).alloc _).trans hb)) (by simp)
   have hbl := lt_of_cell b0
   clear b0 b1 b2 b6 b7 b8 b9 b10 bf0 bf1 bf2 bf3 bf4 bf5 bf6 bf7 bf8 bf9 bf10
   go_wp2_with fail
   refine (HPN.out lic HLV.out _).mono ?_
   rintro e w4 ⟨A11,c11,l,rfl,hr4,ho4,hy4,hb4⟩
   obtain rfl : l = [⟨0,lic⟩] := by rcases hr4 with h4 | ⟨h4,_⟩;(injection h4 with h4;exact h4.symm);(cases h4)
   have hz4 := hb4.le
   have HBY := Hh (owns_ext HBX.out hb4)
   have HBZ := Hh (HBY.out.stored 4 (.slice A11 1 c11)).1
   have hxs : Ext ((w.alloc (.cells #[.slice A1 ps.length c1,.slice A2 ns.length c2,.slice A3 ns.length c3,.int .i64 lic.A,.int .i64 lic.B,.int .i64 lic.C,.int .i64 dep,.int .i64 now,.slice A6 qs.length c6,.slice A7 rs.length c7,.slice A8 es.length c8] 34)).alloc (.cells #[.slice none 0 0,.slice none 0 0,.slice none 0 0,.slice none 0 0,.slice none 0 0] 73)) (w4.setCell ⟨w.heap.size + 1 + 1,4,none⟩ (.slice A11 1 c11)) := (hb.trans hb4).setCell (by simp) _
   have HXS := Hh hxs
   have hws : Ext w (w4.setCell ⟨w.heap.size + 1 + 1,4,none⟩ (.slice A11 1 c11)) := (((Ext.refl w).alloc _).alloc _).trans hxs
   have HOL := Hh (owns_base ho4 (show w.heap.size + 1 + 1 ≤ _ by omega))
   have HRA := Hh (show RoomAt (w4.setCell ⟨w.heap.size + 1 + 1,4,none⟩ (.slice A11 1 c11)) ps ns up (ns.map (fun n => [⟨0,n.Cap⟩]),[⟨0,lic⟩]) (.agg #[.slice A1 ps.length c1,.slice A2 ns.length c2,.slice A3 ns.length c3,.slice A10 k c10,.slice A11 1 c11]) from
    ⟨A1,c1,A2,c2,A3,c3,A10,c10,A11,c11,by rw [HU.out,HKN.out];simp,(HSL.out _ hws).1,(HSL.out _ hws).2.1,by rw [HU.out];exact (HSL.out _ hws).2.2,by have := ((HPO.out.ext hb4).far HBY.out (p := 4) (u := .slice A11 1 c11) (by decide) (by decide)).sl;rw [HKN.out] at this;simpa using this,owns_sl Pt.size (g_far HOL.out (fun e => g_apart HOL.out HBY.out (by decide) _ e rfl)) hy4⟩)
   have HCC := Hh (l04Copy_c ps ns up (ns.map (fun n => [⟨0,n.Cap⟩])) [⟨0,lic⟩] _ _ HRA.out HPL.out hns24 (by have := HU.out;omega) (by simpa using hns24) (fun p hp => by obtain ⟨y,_,rfl⟩ := List.mem_map.1 hp;simp) (by simp))
   obtain ⟨t0,t1,t2,t3,t4,tf0,tf1,tf2,tf3,tf4,tl⟩ := gcells5 HBY.out
   clear hb4 ho4 hy4 hr4 b3 b4 b5 HRA HOL hxs hws
   go_wp2_with fail
   refine HCC.out.mono ?_
   rintro e w6 ⟨E1,f1,E2,f2,E3,f3,E4,f4,E5,f5,rfl,hro,hb6⟩
   have hz6 := hb6.le
   simp at hz6
   have hx6 : Ext w w6 := ((((Ext.refl w).alloc _).alloc _).trans HXS.out).trans hb6
   obtain ⟨q0,q1,q2,q3,q4⟩ := bc5 (w.alloc (.cells #[.slice A1 ps.length c1,.slice A2 ns.length c2,.slice A3 ns.length c3,.int .i64 lic.A,.int .i64 lic.B,.int .i64 lic.C,.int .i64 dep,.int .i64 now,.slice A6 qs.length c6,.slice A7 rs.length c7,.slice A8 es.length c8] 34)) (w.heap.size + 1) (.slice none 0 0) (.slice none 0 0) (.slice none 0 0) (.slice none 0 0) (.slice none 0 0) 73 ((HXS.out.trans hb6)) (by simp)
   obtain ⟨qf0,qf1,qf2,qf3,qf4⟩ := YtfanjhcdjbnnnaaGreat.bf5 (w.alloc (.cells #[.slice A1 ps.length c1,.slice A2 ns.length c2,.slice A3 ns.length c3,.int .i64 lic.A,.int .i64 lic.B,.int .i64 lic.C,.int .i64 dep,.int .i64 now,.slice A6 qs.length c6,.slice A7 rs.length c7,.slice A8 es.length c8] 34)) (w.heap.size + 1) (.slice none 0 0) (.slice none 0 0) (.slice none 0 0) (.slice none 0 0) (.slice none 0 0) 73 ((HXS.out.trans hb6)) (by simp)
   have hql := lt_of_cell q0
   have HRB := Hh (hro.base (lo' := w.heap.size + 1 + 1) (by simp;omega))
   have HRO4 := Hh (((((HRB.out.low (b := w.heap.size + 1) (p := 0) (u := .slice E1 ps.length f1) (by omega)).low (b := w.heap.size + 1) (p := 1) (u := .slice E2 ns.length f2) (by omega)).low (b := w.heap.size + 1) (p := 2) (u := .slice E3 up.length f3) (by omega)).low (b := w.heap.size + 1) (p := 3) (u := .slice E4 ns.length f4) (by omega)).low (b := w.heap.size + 1) (p := 4) (u := .slice E5 1 f5) (by omega))
   have HXF := Hh hx6
   clear hro hb6 hb hxw hx6 HBX HBY HBZ HPO HCC t0 t1 t2 t3 t4 tf0 tf1 tf2 tf3 tf4 tl HXS HRB HSL
   go_wp2
   exact bodyPost_ret (v := .tuple #[.agg #[.slice E1 ps.length f1,.slice E2 ns.length f2,.slice E3 up.length f3,.slice E4 ns.length f4,.slice E5 1 f5],.bool true]) (by simp [results,Tryz.results57,go_sem, *]) rfl ⟨E1,ps.length,f1,E2,ns.length,f2,E3,up.length,f3,E4,ns.length,f4,E5,1,f5,by rw [HG.out];rfl,fun r hr => by rw [HG.out] at hr;injection hr with hr;subst hr;exact ⟨rfl,rfl,rfl,(by simp [room0]),rfl,HRO4.out.base (by omega)⟩,HXF.out.five (by omega) _ _ _ _ _⟩
theorem roomGo_runs {m : Nat} {now : Int} : ∀ (l : List Run) (r o : List (List Pt) × List Pt),roomGo m now l r = some o → ∀ x ∈ l,runOkB m now x = true := by
 intro l
 induction l with
 | nil => intro r o _ x hx;cases hx
 | cons a q ih =>
  intro r o h x hx
  rw [roomGo] at h
  split at h
  ·rename_i ha
   split at h
   ·cases h
   ·rcases List.mem_cons.1 hx with rfl | hx
    ·exact ha
    ·exact ih _ _ h x hx
  ·cases h
theorem roomF_some {s : State} (h : (roomF s).isSome = true) : stateHeadB s = true ∧ ∀ x ∈ s.Runs,runOkB s.Topo.Nodes.length s.Now x = true := by
 unfold roomF at h
 split at h
 ·rename_i hh
  obtain ⟨o,ho⟩ := Option.isSome_iff_exists.1 h
  exact ⟨hh,roomGo_runs _ _ _ ho⟩
 ·cases h
theorem head_parts {s : State} (h : stateHeadB s = true) : topoB s.Topo.Parents s.Topo.Nodes = true ∧ s.Up.length = s.Topo.Nodes.length ∧ vecB s.Lic = true ∧ timeB s.Now = true := by
 unfold stateHeadB at h
 simp only [Bool.and_eq_true,decide_eq_true_iff] at h
 exact ⟨h.1.1.1,h.1.1.2,h.1.2,h.2⟩
theorem runOk_parts {m : Nat} {now : Int} {x : Run} (h : runOkB m now x = true) : jobB x.Job = true ∧ nodesIn m x.Nodes = true ∧ 1 ≤ x.Nodes.length := by
 unfold runOkB jobNodesB at h
 simp only [Bool.and_eq_true,decide_eq_true_iff] at h
 have h1 := h.1.1
 have h2 := h.1.2.2
 refine ⟨h1,h.1.2.1.2, ?_⟩
 have h3 := (jobB_iff x.Job).1 h1
 omega
theorem upL_root {ps : List Int} (h : upGo (ps.drop 1) 1 = true) : ∀ s,s < ps.length → (0 : Int) ∈ upL ps s := by
 intro s
 induction s using Nat.strongRecOn with
 | ind s ih =>
  intro hs
  by_cases h0 : s = 0
  ·subst h0;rw [upL_zero];simp
  ·rw [upL_succ h (by omega) hs]
   have := (par_lt h (show 1 ≤ s by omega) hs).2
   exact List.mem_cons_of_mem _ (ih _ this (by omega))
theorem low_range (ps : List Int) (ns : List Node) (nodes : List Int) : ∀ (r s : Nat) (b : Int),(0 ≤ b ∧ b < (s + r : Nat)) → 0 ≤ lowGo ps ns nodes r s b ∧ lowGo ps ns nodes r s b < (s + r : Nat) := by
 intro r
 induction r with
 | zero => intro s b h;exact h
 | succ r ih =>
  intro s b h
  rw [lowGo]
  have := ih (s + 1) (if (overAll ps ns nodes s && (decide (b < 0) || decide (levT ps s ≤ levT ps b.toNat))) = true then (s : Int) else b) (by split <;> omega)
  omega
theorem lowest_range {ps : List Int} {ns : List Node} {nodes : List Int} (ht : topoB ps ns = true) (hv : nodesIn ns.length nodes = true) (h0 : 0 < nodes.length) : 0 ≤ lowestI ps ns nodes ∧ lowestI ps ns nodes < ps.length := by
 have htp := topo_parts ht
 unfold lowestI
 rw [if_pos (by rw [ht,hv,decide_eq_true h0];rfl)]
 obtain ⟨r,hr⟩ : ∃ r,ps.length = r + 1 := ⟨ps.length - 1,by have := htp.1.1;omega⟩
 rw [hr,lowGo]
 have hov : overAll ps ns nodes ((0 : Nat) : Int) = true := by
  unfold overAll
  rw [List.all_eq_true]
  intro n hn
  rw [List.contains_iff_mem]
  have hn2 : 0 ≤ n ∧ n < ns.length := by
   unfold nodesIn at hv
   rw [List.all_eq_true] at hv
   have := hv n hn
   unfold withinB at this
   simp at this
   omega
  obtain ⟨i,rfl⟩ := Int.eq_ofNat_of_zero_le hn2.1
  have hi : i < ns.length := by omega
  rw [show ((i : Int)).toNat = i by omega,List.getD_eq_getElem?_getD,List.getElem?_eq_getElem hi]
  have hnb := htp.2.2.2.2.1 ns[i] (List.getElem_mem hi)
  unfold nodeB withinB at hnb
  simp only [Bool.and_eq_true,decide_eq_true_iff] at hnb
  exact upL_root htp.2.2.1 _ (by simp only [Option.getD_some];omega)
 rw [hov]
 have := low_range ps ns nodes r 1 0 (by omega)
 simp only [Bool.true_and]
 rw [if_pos (by simp)]
 simpa [Nat.add_comm] using this
theorem asc_eq : ∀ l : List Int,ascB l = ascGo l := by
 have key : ∀ (l : List Int) (p : Int),chainGo (fun _ => true) ltI (some p) l = ascGo (p :: l) := by
  intro l
  induction l with
  | nil => intro p;rfl
  | cons a r ih => intro p;rw [chainGo,ih a];rw [ascGo];simp [ltI]
 intro l
 cases l with
 | nil => rfl
 | cons a r => unfold ascB;rw [chainGo,key];simp
end Go.Proofs.YtfanjhcdjbnnnaaGreat
