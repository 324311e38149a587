/- Moved, Empty. -/
import Derived.Test.YtfanjhcdjbnnnaaGreatK09
import Derived.Deep.RegionHeld3
namespace Go.Proofs.YtfanjhcdjbnnnaaGreat
open Go.RowKit
set_option linter.unusedVariables false
set_option maxHeartbeats 16000000
set_option maxRecDepth 10000
def RetRoomB (w : World) (ps : List Int) (ns : List Node) (up : List Bool) (R : Option (List (List Pt) × List Pt)) : Ending → World → Prop := fun e w' => ∃ A1 n1 c1 A2 n2 c2 A3 n3 c3 A4 n4 c4 A5 n5 c5,e = .returned (.tuple #[.agg #[.slice A1 n1 c1,.slice A2 n2 c2,.slice A3 n3 c3,.slice A4 n4 c4,.slice A5 n5 c5],.bool R.isSome]) ∧ (∀ r,R = some r → n1 = ps.length ∧ n2 = ns.length ∧ n3 = up.length ∧ n4 = r.1.length ∧ n5 = r.2.length ∧ RoomO w' w.heap.size ps ns up r A1 c1 A2 c2 A3 c3 A4 c4 A5 c5) ∧ Ext w w'
theorem retRoom_none {w w' : World} {ps : List Int} {ns : List Node} {up : List Bool} {R : Option (List (List Pt) × List Pt)} (h : R = none) (hb : Ext w w') : RetRoomB w ps ns up R (.returned (.tuple #[.agg #[.slice none 0 0,.slice none 0 0,.slice none 0 0,.slice none 0 0,.slice none 0 0],.bool false])) w' := by
 subst h
 exact ⟨none,0,0,none,0,0,none,0,0,none,0,0,none,0,0,rfl,(fun r hr => by cases hr),hb⟩
theorem take_step {fr te : Int} {v : Vec} {nodes : List Int} {k : Nat} {x : Int} {pl : List (List Pt)} (hx : nodes[k]? = some x) : takeAll fr te v (nodes.drop k) pl = (match takeQ (pl.getD x.toNat []) fr te v with
  | none => none
  | some p => takeAll fr te v (nodes.drop (k + 1)) (pl.set x.toNat p)) := by
 rw [drop_cons hx,takeAll]
 cases takeQ (pl.getD x.toNat []) fr te v <;> rfl
theorem nodesIn_at {m : Nat} {l : List Int} (h : nodesIn m l = true) {x : Int} (hx : x ∈ l) : 0 ≤ x ∧ x < m := by
 unfold nodesIn at h
 rw [List.all_eq_true] at h
 have := h x hx
 unfold withinB at this
 simp at this
 omega
theorem RoomO.setp {w : World} {lo g i : Nat} {ps : List Int} {ns : List Node} {up : List Bool} {pl : List (List Pt)} {lic : List Pt} {A1 : Option Addr} {c1 : Nat} {A2 : Option Addr} {c2 : Nat} {A3 : Option Addr} {c3 c4 : Nat} {A5 : Option Addr} {c5 : Nat} {p : List Pt} {A' : Option Addr} {c' : Nat} (h : RoomO w lo ps ns up (pl,lic) A1 c1 A2 c2 A3 c3 (some ⟨g,0,none⟩) c4 A5 c5) (hi : i < pl.length) (ho : w.ownsRow lo 133 4 (.slice A' p.length c') p.length (p.flatMap Pt.enc)) (hy : ∀ y ∈ p,y.ok) :
  RoomO (w.setCell ⟨g,i,none⟩ (.slice A' p.length c')) lo ps ns up (pl.set i p,lic) A1 c1 A2 c2 A3 c3 (some ⟨g,0,none⟩) c4 A5 c5 := by
 obtain ⟨_,L,hL,_⟩ := h.pro
 have hs := h.pro.set hi ho hy
 exact ⟨g_far h.par (fun e => g_apart h.par hL (by decide) _ e rfl),g_far h.nod (fun e => g_apart h.nod hL (by decide) _ e rfl),g_far h.ups (fun e => g_apart h.ups hL (by decide) _ e rfl),by show PO _ _ _ (pl.set i p).length _ _;rw [List.length_set];exact hs,g_far h.lic (fun e => g_apart h.lic hL (by decide) _ e rfl),h.ok1,h.ok2,h.ok3⟩
theorem RoomO.box_far {w : World} {lo lo' g b i : Nat} {ps : List Int} {ns : List Node} {up : List Bool} {pl : List (List Pt)} {lic : List Pt} {A1 : Option Addr} {c1 : Nat} {A2 : Option Addr} {c2 : Nat} {A3 : Option Addr} {c3 c4 : Nat} {A5 : Option Addr} {c5 : Nat} {u : Value} {L0 : List Value} (h : RoomO w lo ps ns up (pl,lic) A1 c1 A2 c2 A3 c3 (some ⟨g,0,none⟩) c4 A5 c5) (hbox : w.ownsRow lo' 73 5 (.slice (some ⟨b,0,none⟩) 1 1) 1 L0) : (w.setCell ⟨g,i,none⟩ u).ownsRow lo' 73 5 (.slice (some ⟨b,0,none⟩) 1 1) 1 L0 := by
 obtain ⟨_,L,hL,_⟩ := h.pro
 exact g_far hbox (fun e => g_apart hbox hL (by decide) _ e rfl)
theorem RoomO.lics {w : World} {lo : Nat} {ps : List Int} {ns : List Node} {up : List Bool} {pl : List (List Pt)} {lic l : List Pt} {A1 : Option Addr} {c1 : Nat} {A2 : Option Addr} {c2 : Nat} {A3 : Option Addr} {c3 : Nat} {A4 : Option Addr} {c4 : Nat} {A5 : Option Addr} {c5 : Nat} {A6 : Option Addr} {c6 : Nat} (h : RoomO w lo ps ns up (pl,lic) A1 c1 A2 c2 A3 c3 A4 c4 A5 c5) (ho : w.ownsRow lo 133 4 (.slice A6 l.length c6) l.length (l.flatMap Pt.enc)) (hy : ∀ y ∈ l,y.ok) : RoomO w lo ps ns up (pl,l) A1 c1 A2 c2 A3 c3 A4 c4 A6 c6 :=
 ⟨h.par,h.nod,h.ups,h.pro,ho,h.ok1,h.ok2,hy⟩
theorem Ext.five {w0 w : World} (h : Ext w0 w) {b : Nat} (hb : w0.heap.size ≤ b) (a0 a1 a2 a3 a4 : Value) : Ext w0 (((((w.setCell ⟨b,0,none⟩ a0).setCell ⟨b,1,none⟩ a1).setCell ⟨b,2,none⟩ a2).setCell ⟨b,3,none⟩ a3).setCell ⟨b,4,none⟩ a4) :=
 ((((h.setCell hb a0).setCell hb a1).setCell hb a2).setCell hb a3).setCell hb a4
theorem jobB_wall {j : Job} (h : jobB j = true) : 1 ≤ j.Wall ∧ j.Wall ≤ 1000000 := by
 unfold jobB at h
 simp at h
 omega
theorem moved_c (ps : List Int) (ns : List Node) (up : List Bool) (pl : List (List Pt)) (lic : List Pt) (j : Job) (fr te : Int) (nodes : List Int) (A : Option Addr) (n c : Nat) (v : Value) (w : World) (h : RoomAt w ps ns up (pl,lic) v) (ht : topoB ps ns = true) (hu : up.length = ns.length) (hr : roomOkM ns.length (pl,lic)) (h3 : SlAt RInt 1 w A n nodes) (hl3 : n ≤ maxLen) (hcap : n ≤ c) (hfr : In64 fr) (hto : In64 te) : Calls Tryz.prog 48 #[v,.agg #[.int .i64 j.Id,.int .i64 j.Prio,.int .i64 j.Nodes,.int .i64 j.Need.A,.int .i64 j.Need.B,.int .i64 j.Need.C,.int .i64 j.Lic.A,.int .i64 j.Lic.B,.int .i64 j.Lic.C,.int .i64 j.Wall,.int .i64 j.Level],.int .i64 fr,.int .i64 te,.slice A n c,.func (.func 49) #[] #[]] w (RetRoomB w ps ns up (if (jobB j && jobNodesB ns.length j nodes) = true then moveM fr te j nodes (pl,lic) else none)) := by
 obtain ⟨⟨_,hp1⟩,hn1,_⟩ := topo_parts ht
 have hM := Flat.mono encInt In64
 have hpl := hr.1
 simp only [] at hpl
 have HRO := Hh (fun (u : World) (e : Ext w u) => RoomOk_c ps ns up (pl,lic) v u (h.ext e) ht hu hr)
 have HCP := Hh (fun (u : World) (e : Ext w u) => copyRoom_c ps ns up pl lic v u (h.ext e) hp1 hn1 (by omega) (by omega) (fun p hp => (profB_parts (hr.2.1 p hp)).2.1) (profB_parts hr.2.2).2.1)
 have HJO := Hh (fun (u : World) => JobOk_c j u)
 have HH := Hh h
 obtain ⟨A1,c1,A2,c2,A3,c3,A4,c4,A5,c5,rfl,h1,h2,_,_,_⟩ := h
 have HAJ := Hh (fun (u : World) (e : Ext w u) => areJobNodes_c ps ns j nodes A1 ps.length c1 A2 ns.length c2 A n c u (h1.ext hM e) (h2.ext (Flat.mono _ _) e) (h3.ext hM e) hl3 hcap ht)
 have H3 := Hh (fun (u : World) (e : Ext w u) => h3.ext hM e)
 have HNL := Hh h3.len
 have HR := Hh hr
 have HNI := Hh (fun (hh : jobNodesB ns.length j nodes = true) => show nodesIn ns.length nodes = true from by
  unfold jobNodesB at hh
  simp only [Bool.and_eq_true] at hh
  exact hh.1.2)
 have hl3' := hl3
 unfold maxLen at hl3
 have HPLN := Hh hpl
 clear h1 h2 h3 hr ht hpl hu
 rcases (Bool.eq_false_or_eq_true (jobB j)).symm with hj | hj
 all_goals rw [hj] at HJO ⊢
 ·go_enter Tryz.func48,Tryz.ntmps48
  go_wp2_with fail
  refine (HRO.out _ Ext.go).mono ?_
  rintro e w1 ⟨rfl,hb1⟩
  obtain ⟨hcr1,hfr1,hz1⟩ := hb1.rules
  (try simp at hz1)
  have hy1_w0 : w.heap.size < w1.heap.size := (by omega)
  have hy1_w1 : w.heap.size + 1 < w1.heap.size := (by omega)
  have hy1_w2 : w.heap.size + 1 + 1 < w1.heap.size := (by omega)
  go_wp2_with fail
  refine (HJO.out _).mono ?_
  rintro e w2 ⟨rfl,hb2⟩
  obtain ⟨hcr2,hfr2,hz2⟩ := hb2.rules
  (try simp at hz2)
  have hy2_w0 : w.heap.size < w2.heap.size := (by omega)
  have hy2_w1 : w.heap.size + 1 < w2.heap.size := (by omega)
  have hy2_w2 : w.heap.size + 1 + 1 < w2.heap.size := (by omega)
  obtain ⟨q0,q1,q2,q3,q4⟩ := bc5 ((w.alloc (.cells #[.slice A1 ps.length c1,.slice A2 ns.length c2,.slice A3 up.length c3,.slice A4 pl.length c4,.slice A5 lic.length c5] 73)).alloc (.cells #[.int .i64 j.Id,.int .i64 j.Prio,.int .i64 j.Nodes,.int .i64 j.Need.A,.int .i64 j.Need.B,.int .i64 j.Need.C,.int .i64 j.Lic.A,.int .i64 j.Lic.B,.int .i64 j.Lic.C,.int .i64 j.Wall,.int .i64 j.Level] 52)) (w.heap.size + 1 + 1) (.slice none 0 0) (.slice none 0 0) (.slice none 0 0) (.slice none 0 0) (.slice none 0 0) 73 ((hb1.trans hb2)) (by simp)
  obtain ⟨qf0,qf1,qf2,qf3,qf4⟩ := bf5 ((w.alloc (.cells #[.slice A1 ps.length c1,.slice A2 ns.length c2,.slice A3 up.length c3,.slice A4 pl.length c4,.slice A5 lic.length c5] 73)).alloc (.cells #[.int .i64 j.Id,.int .i64 j.Prio,.int .i64 j.Nodes,.int .i64 j.Need.A,.int .i64 j.Need.B,.int .i64 j.Need.C,.int .i64 j.Lic.A,.int .i64 j.Lic.B,.int .i64 j.Lic.C,.int .i64 j.Wall,.int .i64 j.Level] 52)) (w.heap.size + 1 + 1) (.slice none 0 0) (.slice none 0 0) (.slice none 0 0) (.slice none 0 0) (.slice none 0 0) 73 ((hb1.trans hb2)) (by simp)
  have hql := lt_of_cell q0
  have HXF := Hh (((((Ext.refl w).alloc _).alloc _).alloc _).trans (hb1.trans hb2))
  clear HRO HCP HH HAJ H3 HNL HR HNI HPLN hcr1 hfr1 hcr2 hfr2 hb1 hb2
  go_wp2
  exact bodyPost_ret (v := .tuple #[.agg #[.slice none 0 0,.slice none 0 0,.slice none 0 0,.slice none 0 0,.slice none 0 0],.bool false]) (by simp [results,Tryz.results48,go_sem, *]) rfl (retRoom_none rfl (HXF.out.five (by omega) _ _ _ _ _))
 rcases (Bool.eq_false_or_eq_true (jobNodesB ns.length j nodes)).symm with hn | hn
 all_goals rw [hn] at HAJ ⊢
 ·go_enter Tryz.func48,Tryz.ntmps48
  go_wp2_with fail
  refine (HRO.out _ Ext.go).mono ?_
  rintro e w1 ⟨rfl,hb1⟩
  obtain ⟨hcr1,hfr1,hz1⟩ := hb1.rules
  (try simp at hz1)
  have hy1_w0 : w.heap.size < w1.heap.size := (by omega)
  have hy1_w1 : w.heap.size + 1 < w1.heap.size := (by omega)
  have hy1_w2 : w.heap.size + 1 + 1 < w1.heap.size := (by omega)
  go_wp2_with fail
  refine (HJO.out _).mono ?_
  rintro e w2 ⟨rfl,hb2⟩
  obtain ⟨hcr2,hfr2,hz2⟩ := hb2.rules
  (try simp at hz2)
  have hy2_w0 : w.heap.size < w2.heap.size := (by omega)
  have hy2_w1 : w.heap.size + 1 < w2.heap.size := (by omega)
  have hy2_w2 : w.heap.size + 1 + 1 < w2.heap.size := (by omega)
  go_wp2_with fail
  refine (HAJ.out _ Ext.go).mono ?_
  rintro e w3 ⟨rfl,hb3⟩
  obtain ⟨hcr3,hfr3,hz3⟩ := hb3.rules
  (try simp at hz3)
  have hy3_w0 : w.heap.size < w3.heap.size := (by omega)
  have hy3_w1 : w.heap.size + 1 < w3.heap.size := (by omega)
  have hy3_w2 : w.heap.size + 1 + 1 < w3.heap.size := (by omega)
  obtain ⟨q0,q1,q2,q3,q4⟩ := bc5 ((w.alloc (.cells #[.slice A1 ps.length c1,.slice A2 ns.length c2,.slice A3 up.length c3,.slice A4 pl.length c4,.slice A5 lic.length c5] 73)).alloc (.cells #[.int .i64 j.Id,.int .i64 j.Prio,.int .i64 j.Nodes,.int .i64 j.Need.A,.int .i64 j.Need.B,.int .i64 j.Need.C,.int .i64 j.Lic.A,.int .i64 j.Lic.B,.int .i64 j.Lic.C,.int .i64 j.Wall,.int .i64 j.Level] 52)) (w.heap.size + 1 + 1) (.slice none 0 0) (.slice none 0 0) (.slice none 0 0) (.slice none 0 0) (.slice none 0 0) 73 ((hb1.trans (hb2.trans hb3))) (by simp)
  obtain ⟨qf0,qf1,qf2,qf3,qf4⟩ := bf5 ((w.alloc (.cells #[.slice A1 ps.length c1,.slice A2 ns.length c2,.slice A3 up.length c3,.slice A4 pl.length c4,.slice A5 lic.length c5] 73)).alloc (.cells #[.int .i64 j.Id,.int .i64 j.Prio,.int .i64 j.Nodes,.int .i64 j.Need.A,.int .i64 j.Need.B,.int .i64 j.Need.C,.int .i64 j.Lic.A,.int .i64 j.Lic.B,.int .i64 j.Lic.C,.int .i64 j.Wall,.int .i64 j.Level] 52)) (w.heap.size + 1 + 1) (.slice none 0 0) (.slice none 0 0) (.slice none 0 0) (.slice none 0 0) (.slice none 0 0) 73 ((hb1.trans (hb2.trans hb3))) (by simp)
  have hql := lt_of_cell q0
  have HXF := Hh (((((Ext.refl w).alloc _).alloc _).alloc _).trans (hb1.trans (hb2.trans hb3)))
  clear HRO HCP HH HAJ H3 HNL HR HNI HPLN hcr1 hfr1 hcr2 hfr2 hcr3 hfr3 hb1 hb2 hb3
  go_wp2
  exact bodyPost_ret (v := .tuple #[.agg #[.slice none 0 0,.slice none 0 0,.slice none 0 0,.slice none 0 0,.slice none 0 0],.bool false]) (by simp [results,Tryz.results48,go_sem, *]) rfl (retRoom_none rfl (HXF.out.five (by omega) _ _ _ _ _))
 ·have HNN := Hh (HNI.out hn)
  simp only [Bool.and_self,if_true]
  have HMV := Hh (show moveM fr te j nodes (pl,lic) = (match takeAll fr te j.Need nodes pl with
   | none => none
   | some ps => match takeQ lic fr te j.Lic with
    | none => none
    | some l => some (ps,l)) from rfl)
  generalize moveM fr te j nodes (pl,lic) = R at *
  clear hj hn
  go_enter Tryz.func48,Tryz.ntmps48
  go_wp2_with fail
  refine (HRO.out _ Ext.go).mono ?_
  rintro e w1 ⟨rfl,hb1⟩
  obtain ⟨hcr1,hfr1,hz1⟩ := hb1.rules
  (try simp at hz1)
  have hy1_w0 : w.heap.size < w1.heap.size := (by omega)
  have hy1_w1 : w.heap.size + 1 < w1.heap.size := (by omega)
  have hy1_w2 : w.heap.size + 1 + 1 < w1.heap.size := (by omega)
  go_wp2_with fail
  refine (HJO.out _).mono ?_
  rintro e w2 ⟨rfl,hb2⟩
  obtain ⟨hcr2,hfr2,hz2⟩ := hb2.rules
  (try simp at hz2)
  have hy2_w0 : w.heap.size < w2.heap.size := (by omega)
  have hy2_w1 : w.heap.size + 1 < w2.heap.size := (by omega)
  have hy2_w2 : w.heap.size + 1 + 1 < w2.heap.size := (by omega)
  go_wp2_with fail
  refine (HAJ.out _ Ext.go).mono ?_
  rintro e w3 ⟨rfl,hb3⟩
  obtain ⟨hcr3,hfr3,hz3⟩ := hb3.rules
  (try simp at hz3)
  have hy3_w0 : w.heap.size < w3.heap.size := (by omega)
  have hy3_w1 : w.heap.size + 1 < w3.heap.size := (by omega)
  have hy3_w2 : w.heap.size + 1 + 1 < w3.heap.size := (by omega)
  have hx3 : Ext w w3 := Ext.go
  go_wp2_with fail
  refine (HCP.out _ hx3).mono ?_
  rintro e w5 ⟨B1,d1,B2,d2,B3,d3,B4,d4,B5,d5,rfl,hro,hb5⟩
  have HRM := Hh hro
  have hx5 : Ext w w5 := hx3.trans hb5
  have HX5 := Hh (show Ext (((w.alloc (.cells #[.slice A1 ps.length c1,.slice A2 ns.length c2,.slice A3 up.length c3,.slice A4 pl.length c4,.slice A5 lic.length c5] 73)).alloc (.cells #[.int .i64 j.Id,.int .i64 j.Prio,.int .i64 j.Nodes,.int .i64 j.Need.A,.int .i64 j.Need.B,.int .i64 j.Need.C,.int .i64 j.Lic.A,.int .i64 j.Lic.B,.int .i64 j.Lic.C,.int .i64 j.Wall,.int .i64 j.Level] 52)).alloc (.cells #[.slice none 0 0,.slice none 0 0,.slice none 0 0,.slice none 0 0,.slice none 0 0] 73)) w5 from hb1.trans (hb2.trans (hb3.trans hb5)))
  have hz5 := hb5.le
  have hz9 : w.heap.size + 1 + 1 + 1 ≤ w3.heap.size := by omega
  have HRB := Hh (hro.base (lo' := w.heap.size + 1 + 1 + 1) hz9)
  clear hro hcr1 hfr1 hcr2 hfr2 hcr3 hfr3 hb1 hb2 hb3 hb5 hx3
  have HBX5 := Hh (show (w5.alloc (.cells #[.slice B1 ps.length d1,.slice B2 ns.length d2,.slice B3 up.length d3,.slice B4 pl.length d4,.slice B5 lic.length d5] 73)).ownsRow (w.heap.size + 1 + 1 + 1) 73 5 (.slice (some ⟨w5.heap.size,0,none⟩) 1 1) 1 [.slice B1 ps.length d1,.slice B2 ns.length d2,.slice B3 up.length d3,.slice B4 pl.length d4,.slice B5 lic.length d5] from owns_base (gbox w5 [.slice B1 ps.length d1,.slice B2 ns.length d2,.slice B3 up.length d3,.slice B4 pl.length d4,.slice B5 lic.length d5] 73 5 rfl) (by omega))
  have hzb : (w.heap.size + 1 + 1 + 1) ≤ w5.heap.size := by omega
  go_wp2
  go_loopw [42] (fun iv wr => ∃ (k : Nat) (ql : List (List Pt)),k ≤ n ∧ iv = .int .i64 k ∧ Hid (takeAll fr te j.Need nodes pl = takeAll fr te j.Need (nodes.drop k) ql) ∧ Hid (RoomO wr (w.heap.size + 1 + 1 + 1) ps ns up (ql,lic) B1 d1 B2 d2 B3 d3 B4 d4 B5 d5) ∧ Hid (ql.length = ns.length ∧ ∀ p ∈ ql,profB p = true) ∧ Hid (wr.ownsRow (w.heap.size + 1 + 1 + 1) 73 5 (.slice (some ⟨w5.heap.size,0,none⟩) 1 1) 1 [.slice B1 ps.length d1,.slice B2 ns.length d2,.slice B3 up.length d3,.slice B4 pl.length d4,.slice B5 lic.length d5]) ∧ Ext (((w.alloc (.cells #[.slice A1 ps.length c1,.slice A2 ns.length c2,.slice A3 up.length c3,.slice A4 pl.length c4,.slice A5 lic.length c5] 73)).alloc (.cells #[.int .i64 j.Id,.int .i64 j.Prio,.int .i64 j.Nodes,.int .i64 j.Need.A,.int .i64 j.Need.B,.int .i64 j.Need.C,.int .i64 j.Lic.A,.int .i64 j.Lic.B,.int .i64 j.Lic.C,.int .i64 j.Wall,.int .i64 j.Level] 52)).alloc (.cells #[.slice none 0 0,.slice none 0 0,.slice none 0 0,.slice none 0 0,.slice none 0 0] 73)) wr) (fun iv _ => n - (intOf iv).toNat)
  case atStart => exact ⟨0,pl,Nat.zero_le _,rfl,Hh rfl,Hh (HRB.out.ext ((Ext.refl _).alloc _)),Hh ⟨HPLN.out,HR.out.2.1⟩,HBX5,HX5.out.alloc _⟩
  case round =>
   clear HBX5 hx5 HRO HCP HJO HAJ HH HNI HRM HRB hy1_w0 hy1_w1 hy1_w2 hy2_w0 hy2_w1 hy2_w2 hy3_w0 hy3_w1 hy3_w2 hz1 hz2 hz3 hz5 hM hl3'
   obtain ⟨k,ql,hk,rfl,HTA,HRO2,HQ,HBX,hb⟩ := hrel
   by_cases hlt : k < n
   ·obtain ⟨bq,oq,x,cs,rfl,hbw,hx2,_,hc,rfl,hok⟩ := (H3.out wr ((((((Ext.refl w).alloc _).alloc _).alloc _)).trans hb)).at_ hlt
    have g0 := hc 0 _ rfl
    simp only [Nat.mul_one,Nat.add_zero] at g0
    have HST := Hh (take_step (fr := fr) (te := te) (v := j.Need) (pl := ql) hx2)
    obtain ⟨hxa,hxb⟩ := nodesIn_at HNN.out (List.mem_of_getElem? hx2)
    obtain ⟨i,rfl⟩ := Int.eq_ofNat_of_zero_le hxa
    obtain ⟨p,hp⟩ : ∃ p,ql[i]? = some p := ⟨_,List.getElem?_eq_getElem (by have := HQ.out.1;omega)⟩
    obtain ⟨g,rfl,hg1,hg2⟩ := HRO2.out.pro.form (by have := HQ.out.1;simp only [];omega)
    obtain ⟨Ap,cp,hcell,hsp,hfz,_,_⟩ := HRO2.out.pro.get hp
    have HPV := Hh (HQ.out.2 p (List.mem_of_getElem? hp))
    have hpl200 := (profB_parts HPV.out).2.1
    have HTK := Hh (fun (u : World) (e : Ext wr u) => ProfTake_c p fr te j.Need Ap p.length cp u (hsp.ext (Flat.mono _ _) e) (by unfold maxLen;omega))
    have HIL := Hh (show (i : Int) < (pl.length : Int) by rw [HPLN.out];omega)
    have hil := HIL.out
    have HII := Hh (show i < ql.length by have h1 := HQ.out.1;omega)
    have hil2 : i < pl.length := by omega
    have HGD := Hh (show ql.getD ((i : Int)).toNat [] = p by simp [List.getD,hp])
    rw [HGD.out] at HST
    have HTV := Hh (fun (o : List Pt) (h : takeQ p fr te j.Need = some o) => takeQ_valid h)
    generalize takeQ p fr te j.Need = tq at *
    obtain ⟨t0,t1,t2,t3,t4,tf0,tf1,tf2,tf3,tf4,tl⟩ := gcells5 HBX.out
    have hx2b := HX5.out
    have hbw2 := hb
    have j3 := (((Ext.refl _).alloc _).trans hb).cell (cell_box_at (w.alloc (.cells #[.slice A1 ps.length c1,.slice A2 ns.length c2,.slice A3 up.length c3,.slice A4 pl.length c4,.slice A5 lic.length c5] 73)) (w.heap.size + 1) (by simp) [.int .i64 j.Id,.int .i64 j.Prio,.int .i64 j.Nodes,.int .i64 j.Need.A,.int .i64 j.Need.B,.int .i64 j.Need.C,.int .i64 j.Lic.A,.int .i64 j.Lic.B,.int .i64 j.Lic.C,.int .i64 j.Wall,.int .i64 j.Level] 52 3 _ rfl)
    have j4 := (((Ext.refl _).alloc _).trans hb).cell (cell_box_at (w.alloc (.cells #[.slice A1 ps.length c1,.slice A2 ns.length c2,.slice A3 up.length c3,.slice A4 pl.length c4,.slice A5 lic.length c5] 73)) (w.heap.size + 1) (by simp) [.int .i64 j.Id,.int .i64 j.Prio,.int .i64 j.Nodes,.int .i64 j.Need.A,.int .i64 j.Need.B,.int .i64 j.Need.C,.int .i64 j.Lic.A,.int .i64 j.Lic.B,.int .i64 j.Lic.C,.int .i64 j.Wall,.int .i64 j.Level] 52 4 _ rfl)
    have j5 := (((Ext.refl _).alloc _).trans hb).cell (cell_box_at (w.alloc (.cells #[.slice A1 ps.length c1,.slice A2 ns.length c2,.slice A3 up.length c3,.slice A4 pl.length c4,.slice A5 lic.length c5] 73)) (w.heap.size + 1) (by simp) [.int .i64 j.Id,.int .i64 j.Prio,.int .i64 j.Nodes,.int .i64 j.Need.A,.int .i64 j.Need.B,.int .i64 j.Need.C,.int .i64 j.Lic.A,.int .i64 j.Lic.B,.int .i64 j.Lic.C,.int .i64 j.Wall,.int .i64 j.Level] 52 5 _ rfl)
    have hj3 := lt_of_cell j3
    have HCELL := Hh hcell
    have HFZ := Hh hfz
    have HT3 := Hh t3
    have HLW := Hh (show (w.heap.size + 1 + 1 + 1) ≤ wr.heap.size from by have := hb.le;simp at this;omega)
    clear hx2 hc hok hsp hp hx2b t0 t1 t2 t4 tf0 tf1 tf2 tf4 hbw2
    have HKS := Hh (fun (u : World) (e : Ext wr u) => show Ext wr u ∧ u.cell? ⟨w5.heap.size,3,none⟩ = some (.slice (some ⟨g,0,none⟩) pl.length d4) ∧ u.cell? ⟨g,i,none⟩ = some (.slice Ap p.length cp) ∧ u.cell? ⟨w.heap.size + 1,3,none⟩ = some (.int .i64 j.Need.A) ∧ u.cell? ⟨w.heap.size + 1,4,none⟩ = some (.int .i64 j.Need.B) ∧ u.cell? ⟨w.heap.size + 1,5,none⟩ = some (.int .i64 j.Need.C) from ⟨e,e.cell HT3.out,e.cell HCELL.out,e.cell j3,e.cell j4,e.cell j5⟩)
    go_upto_region 7 with fail
    go_cut [17,18,42] from 42 to 68 (fun s17 s18 s42 wx => ∃ bz A6 c6 n6,s17 = .pointer (some ⟨bz,0,none⟩) ∧ s18 = .bool tq.isSome ∧ s42 = .int .i64 (k : Int) ∧ wr.heap.size ≤ bz ∧ Hid (∀ l,tq = some l → n6 = l.length ∧ wx.ownsRow (w.heap.size + 1 + 1 + 1) 133 4 (.slice A6 l.length c6) l.length (l.flatMap Pt.enc) ∧ ∀ y ∈ l,y.ok) ∧ Hid (wx.ownsRow wr.heap.size 71 1 (.slice (some ⟨bz,0,none⟩) 1 1) 1 [.slice A6 n6 c6]) ∧ Ext wr wx)
    case first =>
     go_region_held3 (fun u => Ext wr u ∧ u.cell? ⟨w5.heap.size,3,none⟩ = some (.slice (some ⟨g,0,none⟩) pl.length d4) ∧ u.cell? ⟨g,i,none⟩ = some (.slice Ap p.length cp) ∧ u.cell? ⟨w.heap.size + 1,3,none⟩ = some (.int .i64 j.Need.A) ∧ u.cell? ⟨w.heap.size + 1,4,none⟩ = some (.int .i64 j.Need.B) ∧ u.cell? ⟨w.heap.size + 1,5,none⟩ = some (.int .i64 j.Need.C)) ((refine HKS.out _ ?_;first | exact (Ext.refl _).drew | assumption | exact ((Ext.refl _).drew).alloc _ | exact HE6.out | exact HE6.out.alloc _ | exact HE6.out.setCell (Nat.le_refl _) _)) (first | (go_at_call 49;(with_reducible refine (HTK.out _ (by repeat (first | exact Ext.refl _ | apply Ext.alloc | apply Ext.drew))).mono ?_);rintro e w6 ⟨A6,c6,l,rfl,hR6,ho6,hy6,hb6⟩;have HE6 := Hh (show Ext wr w6 from Ext.trans (by repeat (first | exact Ext.refl _ | apply Ext.alloc | apply Ext.drew)) hb6);have hl6 := HE6.out.le;have HO6 := Hh (owns_base ho6 (show (w.heap.size + 1 + 1 + 1) ≤ _ from (by first | omega | (simp;omega))));have HR6 := Hh hR6;(first | (have HB6 := Hh (owns_ext (gbox wr [.slice none 0 0] 71 1 rfl) hb6);obtain ⟨m0,mf0,ml0⟩ := gcells1 HB6.out) | (have HB6 := Hh (owns_ext (gbox wr [.slice none 0 0] 71 1 rfl) (((Ext.refl _).drew).trans hb6));obtain ⟨m0,mf0,ml0⟩ := gcells1 HB6.out) | skip);clear hR6 ho6))
     all_goals
      go_wp2_with fail
      go_meet
      first
       | exact ⟨_,A6,c6,l.length,rfl,rfl,rfl,by first | omega | (simp;omega),Hh (fun l2 h2 => by rcases HR6.out with h6 | ⟨h6,_⟩;(rw [h6] at h2;injection h2 with h2;subst h2;exact ⟨rfl,owns_ext HO6.out ((Ext.refl _).alloc _),hy6⟩);(rw [h6] at h2;cases h2)),Hh (owns_base (gbox w6 [.slice A6 l.length c6] 71 1 rfl) hl6),HE6.out.alloc _⟩
       | exact ⟨_,A6,c6,l.length,rfl,rfl,rfl,Nat.le_refl _,Hh (fun l2 h2 => by rcases HR6.out with h6 | ⟨h6,_⟩;(rw [h6] at h2;injection h2 with h2;subst h2;exact ⟨rfl,g_far HO6.out (fun e => g_apart HO6.out HB6.out (by decide) _ e rfl),hy6⟩);(rw [h6] at h2;cases h2)),Hh (HB6.out.stored 0 _).1,HE6.out.setCell (Nat.le_refl _) _⟩
    case rest =>
     obtain ⟨bz,A6,c6,n6,rfl,rfl,rfl,hbz,HFT,HFB,hx⟩ := hcut
     have hlz := HLW.out
     have hbz1 : w5.heap.size ≠ bz := by omega
     have hbz2 : g ≠ bz := by omega
     have hbz3 : w.heap.size + 1 + 1 ≠ bz := by omega
     have HBW := Hh (hb.trans hx)
     have hxz := hx.le
     obtain ⟨m0,mf0,ml0⟩ := gcells1 HFB.out
     clear hcell hfz t3 tf3 j3 j4 j5
     rcases tq with _ | l
     ·have HRN := Hh (show R = none by rw [HMV.out,HTA.out,HST.out])
      have HXF := Hh (((((Ext.refl w).alloc _).alloc _).alloc _).trans (hb.trans hx))
      clear hb hx
      clear tl hg2 HFT HFB HRO2 HBX HTK HKS HST HTA HQ HCELL HFZ HT3 HGD HTV HPV HIL HNN HX5 HPLN HR H3 HMV m0 mf0 ml0 hil hil2
      obtain ⟨q0,q1,q2,q3,q4⟩ := bc5 ((w.alloc (.cells #[.slice A1 ps.length c1,.slice A2 ns.length c2,.slice A3 up.length c3,.slice A4 pl.length c4,.slice A5 lic.length c5] 73)).alloc (.cells #[.int .i64 j.Id,.int .i64 j.Prio,.int .i64 j.Nodes,.int .i64 j.Need.A,.int .i64 j.Need.B,.int .i64 j.Need.C,.int .i64 j.Lic.A,.int .i64 j.Lic.B,.int .i64 j.Lic.C,.int .i64 j.Wall,.int .i64 j.Level] 52)) (w.heap.size + 1 + 1) (.slice none 0 0) (.slice none 0 0) (.slice none 0 0) (.slice none 0 0) (.slice none 0 0) 73 ((HBW.out)) (by simp)
      obtain ⟨qf0,qf1,qf2,qf3,qf4⟩ := bf5 ((w.alloc (.cells #[.slice A1 ps.length c1,.slice A2 ns.length c2,.slice A3 up.length c3,.slice A4 pl.length c4,.slice A5 lic.length c5] 73)).alloc (.cells #[.int .i64 j.Id,.int .i64 j.Prio,.int .i64 j.Nodes,.int .i64 j.Need.A,.int .i64 j.Need.B,.int .i64 j.Need.C,.int .i64 j.Lic.A,.int .i64 j.Lic.B,.int .i64 j.Lic.C,.int .i64 j.Wall,.int .i64 j.Level] 52)) (w.heap.size + 1 + 1) (.slice none 0 0) (.slice none 0 0) (.slice none 0 0) (.slice none 0 0) (.slice none 0 0) 73 ((HBW.out)) (by simp)
      have hql := lt_of_cell q0
      go_wp2
      exact bodyPost_ret (v := .tuple #[.agg #[.slice none 0 0,.slice none 0 0,.slice none 0 0,.slice none 0 0,.slice none 0 0],.bool false]) (by simp [results,Tryz.results48,go_sem, *]) rfl (retRoom_none HRN.out (HXF.out.five (by omega) _ _ _ _ _))
     ·obtain rfl := (HFT.out l rfl).1
      have HOL := Hh (HFT.out l rfl).2
      have hcl2 := hx.cell HCELL.out
      have hfz2 := (hx.frozenEq (a := ⟨g,i,none⟩) hg2).trans HFZ.out
      have u3 := hx.cell HT3.out
      have hg3 : g < wc.heap.size := by omega
      have hb3 : w5.heap.size < wc.heap.size := by omega
      clear HTK HKS HCELL HFZ HT3 HGD HPV HX5 HR H3 HMV HBW
      go_wp2
      go_roundw
      case rel => exact ⟨k + 1,ql.set i l,by omega,by go_num,Hh (by rw [HTA.out,HST.out];simp),Hh ((HRO2.out.ext hx).setp HII.out HOL.out.1 HOL.out.2),Hh ⟨by rw [List.length_set];exact HQ.out.1,fun q hq => (List.mem_or_eq_of_mem_set hq).elim (HQ.out.2 q) (fun e => by rw [e];exact HTV.out l rfl)⟩,Hh ((HRO2.out.ext hx).box_far (owns_ext HBX.out hx)),(hb.trans hx).setCell (by simp;omega) _⟩
      case measure => simp [intOf];omega
   ·obtain rfl : k = n := by omega
    have HTN := Hh (show takeAll fr te j.Need nodes pl = some ql by rw [HTA.out,List.drop_eq_nil_of_le (by have := HNL.out;omega)];rfl)
    have HLW := Hh (show (w.heap.size + 1 + 1 + 1) ≤ wr.heap.size from by have := hb.le;simp at this;omega)
    have hl200 := (profB_parts HR.out.2.2).2.1
    have HTL := Hh (fun (u : World) (e : Ext wr u) => ProfTake_c lic fr te j.Lic B5 lic.length d5 u ((owns_sl Pt.size HRO2.out.lic HRO2.out.ok3).ext (Flat.mono _ _) e) (by unfold maxLen;simp only [] at hl200;omega))
    have HMW := Hh (show R = (match takeQ lic fr te j.Lic with | none => none | some l => some (ql,l)) by rw [HMV.out,HTN.out])
    generalize takeQ lic fr te j.Lic = tq at *
    obtain ⟨t0,t1,t2,t3,t4,tf0,tf1,tf2,tf3,tf4,tl⟩ := gcells5 HBX.out
    have j6 := (((Ext.refl _).alloc _).trans hb).cell (cell_box_at (w.alloc (.cells #[.slice A1 ps.length c1,.slice A2 ns.length c2,.slice A3 up.length c3,.slice A4 pl.length c4,.slice A5 lic.length c5] 73)) (w.heap.size + 1) (by simp) [.int .i64 j.Id,.int .i64 j.Prio,.int .i64 j.Nodes,.int .i64 j.Need.A,.int .i64 j.Need.B,.int .i64 j.Need.C,.int .i64 j.Lic.A,.int .i64 j.Lic.B,.int .i64 j.Lic.C,.int .i64 j.Wall,.int .i64 j.Level] 52 6 _ rfl)
    have j7 := (((Ext.refl _).alloc _).trans hb).cell (cell_box_at (w.alloc (.cells #[.slice A1 ps.length c1,.slice A2 ns.length c2,.slice A3 up.length c3,.slice A4 pl.length c4,.slice A5 lic.length c5] 73)) (w.heap.size + 1) (by simp) [.int .i64 j.Id,.int .i64 j.Prio,.int .i64 j.Nodes,.int .i64 j.Need.A,.int .i64 j.Need.B,.int .i64 j.Need.C,.int .i64 j.Lic.A,.int .i64 j.Lic.B,.int .i64 j.Lic.C,.int .i64 j.Wall,.int .i64 j.Level] 52 7 _ rfl)
    have j8 := (((Ext.refl _).alloc _).trans hb).cell (cell_box_at (w.alloc (.cells #[.slice A1 ps.length c1,.slice A2 ns.length c2,.slice A3 up.length c3,.slice A4 pl.length c4,.slice A5 lic.length c5] 73)) (w.heap.size + 1) (by simp) [.int .i64 j.Id,.int .i64 j.Prio,.int .i64 j.Nodes,.int .i64 j.Need.A,.int .i64 j.Need.B,.int .i64 j.Need.C,.int .i64 j.Lic.A,.int .i64 j.Lic.B,.int .i64 j.Lic.C,.int .i64 j.Wall,.int .i64 j.Level] 52 8 _ rfl)
    have hj6 := lt_of_cell j6
    clear t0 t1 t2 t3 tf0 tf1 tf2 tf3 tf4
    go_wp2_with fail
    refine (HTL.out _ (Ext.refl _)).mono ?_
    rintro e w6 ⟨A6,c6,l,rfl,hR6,ho6,hy6,hb6⟩
    have hlz := HLW.out
    have hz6 := hb6.le
    have HO6 := Hh (owns_base ho6 hlz)
    have HBW := Hh (hb.trans hb6)
    have HR6 := Hh hR6
    clear t4 j6 j7 j8 ho6 hR6
    obtain ⟨q0,q1,q2,q3,q4⟩ := bc5 ((w.alloc (.cells #[.slice A1 ps.length c1,.slice A2 ns.length c2,.slice A3 up.length c3,.slice A4 pl.length c4,.slice A5 lic.length c5] 73)).alloc (.cells #[.int .i64 j.Id,.int .i64 j.Prio,.int .i64 j.Nodes,.int .i64 j.Need.A,.int .i64 j.Need.B,.int .i64 j.Need.C,.int .i64 j.Lic.A,.int .i64 j.Lic.B,.int .i64 j.Lic.C,.int .i64 j.Wall,.int .i64 j.Level] 52)) (w.heap.size + 1 + 1) (.slice none 0 0) (.slice none 0 0) (.slice none 0 0) (.slice none 0 0) (.slice none 0 0) 73 ((HBW.out)) (by simp)
    obtain ⟨qf0,qf1,qf2,qf3,qf4⟩ := bf5 ((w.alloc (.cells #[.slice A1 ps.length c1,.slice A2 ns.length c2,.slice A3 up.length c3,.slice A4 pl.length c4,.slice A5 lic.length c5] 73)).alloc (.cells #[.int .i64 j.Id,.int .i64 j.Prio,.int .i64 j.Nodes,.int .i64 j.Need.A,.int .i64 j.Need.B,.int .i64 j.Need.C,.int .i64 j.Lic.A,.int .i64 j.Lic.B,.int .i64 j.Lic.C,.int .i64 j.Wall,.int .i64 j.Level] 52)) (w.heap.size + 1 + 1) (.slice none 0 0) (.slice none 0 0) (.slice none 0 0) (.slice none 0 0) (.slice none 0 0) 73 ((HBW.out)) (by simp)
    have hql := lt_of_cell q0
    have hbz4 : w.heap.size + 1 + 1 ≠ w5.heap.size := by omega
    rcases tq with _ | l2
    ·have HRN := Hh (show R = none by rw [HMW.out])
     have HXF := Hh (((((Ext.refl w).alloc _).alloc _).alloc _).trans (hb.trans hb6))
     clear tl HTA HRO2 HQ HBX HTN HLW HTL HMW HR6 HO6 hb6 hlz hy6 HPLN HR H3 HMV HX5 HNN hb hj6
     go_wp2
     exact bodyPost_ret (v := .tuple #[.agg #[.slice none 0 0,.slice none 0 0,.slice none 0 0,.slice none 0 0,.slice none 0 0],.bool false]) (by simp [results,Tryz.results48,go_sem, *]) rfl (retRoom_none HRN.out ((HXF.out.five (by omega) _ _ _ _ _).alloc _))
    ·obtain rfl : l2 = l := by rcases HR6.out with h6 | ⟨h6,_⟩;(injection h6);(cases h6)
     have HRN := Hh (show R = some (ql,l2) by rw [HMW.out])
     have HBY := Hh (owns_ext HBX.out hb6)
     obtain ⟨t0,t1,t2,t3,t4,tf0,tf1,tf2,tf3,tf4,tl2⟩ := gcells5 HBY.out
     have HRO3 := Hh ((HRO2.out.ext hb6).lics HO6.out hy6)
     have HRO4 := Hh ((((((HRO3.out.far HBY.out (p := 4) (u := .slice A6 l2.length c6)).low (b := w.heap.size + 1 + 1) (p := 0) (u := .slice B1 ps.length d1) (by omega)).low (b := w.heap.size + 1 + 1) (p := 1) (u := .slice B2 ns.length d2) (by omega)).low (b := w.heap.size + 1 + 1) (p := 2) (u := .slice B3 up.length d3) (by omega)).low (b := w.heap.size + 1 + 1) (p := 3) (u := .slice B4 pl.length d4) (by omega)).low (b := w.heap.size + 1 + 1) (p := 4) (u := .slice A6 l2.length c6) (by omega))
     have HXF := Hh ((((((Ext.refl w).alloc _).alloc _).alloc _).trans (hb.trans hb6)).setCell (p := ⟨w5.heap.size,4,none⟩) (by simp only [];omega) (.slice A6 l2.length c6))
     clear hb hb6
     clear HRO3 HBW HBX HBY HRO2 tl HTA HTN HLW HTL HMW HR6 HO6 hlz hy6 HR H3 HMV HX5 HNN hj6
     go_wp2
     exact bodyPost_ret (v := .tuple #[.agg #[.slice B1 ps.length d1,.slice B2 ns.length d2,.slice B3 up.length d3,.slice B4 pl.length d4,.slice A6 l2.length c6],.bool true]) (by simp [results,Tryz.results48,go_sem, *]) rfl ⟨B1,ps.length,d1,B2,ns.length,d2,B3,up.length,d3,B4,pl.length,d4,A6,l2.length,c6,by rw [HRN.out];rfl,fun r hr => by rw [HRN.out] at hr;injection hr with hr;subst hr;exact ⟨rfl,rfl,rfl,by rw [HPLN.out];exact HQ.out.1.symm,rfl,(HRO4.out.ext ((Ext.refl _).alloc _)).base (by omega)⟩,((HXF.out.five (by omega) _ _ _ _ _).alloc _)⟩
theorem empty_c (ps : List Int) (ns : List Node) (up : List Bool) (lic : Vec) (A1 : Option Addr) (c1 : Nat) (A2 : Option Addr) (c2 : Nat) (A3 : Option Addr) (c3 : Nat) (w : World) (h1 : SlAt RInt 1 w A1 ps.length ps) (h2 : SlAt RNode 4 w A2 ns.length ns) (h3 : SlAt RB 1 w A3 up.length up) (hps : ps.length ≤ 24) (hns : ns.length ≤ 24) (hup : up.length ≤ 24) (hv : ∀ n ∈ ns,vecB n.Cap = true) (hl : vecB lic = true) : Calls Tryz.prog 46 #[.agg #[.slice A1 ps.length c1,.slice A2 ns.length c2],.slice A3 up.length c3,.agg #[.int .i64 lic.A,.int .i64 lic.B,.int .i64 lic.C]] w (RetRoom w ps ns up (room0 ns lic)) := by
 obtain ⟨i0,hi,hI0,hI1,hI2⟩ := info_parts CBool.info
 obtain ⟨i1,hi1,hJ0,hJ1,hJ2⟩ := info_parts CProf.info
 have HT := Hh (fun (u : World) (e : Ext w u) => copyTopo_c ps ns A1 ps.length c1 A2 ns.length c2 u (h1.ext (Flat.mono _ _) e) (by omega) (h2.ext (Flat.mono _ _) e) (by omega))
 have HU := Hh (fun (u : World) (e : Ext w u) => h3.ext (Flat.mono encB (fun _ => True)) e)
 have H2 := Hh (fun (u : World) (e : Ext w u) => h2.ext (Flat.mono Node.enc Node.ok) e)
 have HK := Hh (show (∀ x ∈ ps,In64 x) ∧ (∀ x ∈ ns,x.ok) from ⟨h1.all,h2.all⟩)
 have HPN := Hh (fun (v : Vec) (hv : vecB v = true) (u : World) => show Calls Tryz.prog 76 #[.agg #[.int .i64 v.A,.int .i64 v.B,.int .i64 v.C]] u (RetP u (some [⟨0,v⟩])) from by have := ProfNew_c v u;rw [if_pos hv] at this;exact this)
 have HV := Hh hv
 have HL := Hh hl
 clear h1 h2 h3 hv hl
 go_enter Tryz.func46,Tryz.ntmps46
 go_wp2_with fail
 refine (HT.out _ ((((Ext.refl w).alloc _).alloc _).alloc _)).mono ?_
 rintro e w2 ⟨A6,c6,A7,c7,rfl,ho2,ho2',hb2⟩
 have hz2 := hb2.le
 simp at hz2
 have HO2 := Hh (owns_base ho2 (show w.heap.size + 1 + 1 + 1 ≤ _ by simp))
 have HO2' := Hh (owns_base ho2' (show w.heap.size + 1 + 1 + 1 ≤ _ by simp))
 have hx2 : Ext w w2 := ((((Ext.refl w).alloc _).alloc _).alloc _).trans hb2
 clear ho2 ho2'
 go_wp2_with (at_builtin;go_must (refine wpList_append_r (enc := encB) (ok := fun _ => True) (.const (.slice none 0 0)) (.tmp 14) _ (w.heap.size + 1 + 1 + 1) 4 i0 _ 1 1 (.slice none 0 0) 0 [] A3 up.length c3 up rfl rfl Tryz.underlying27 hi hI0 hI1 hI2 rfl (by omega) rfl (World.ownsRow_nil _ _ _ _) rfl (HU.out _ hx2) (fun _ => rfl) encB_one (by unfold maxLen;omega) (by omega) hz2 ?_);intro A8 c8 w3 hr3;have hb3 := hr3.ext_nil;have HO3 := Hh hr3.row;have hz3 := hb3.le;have y0 := (hb2.trans hb3).cell (((((Ext.refl _).alloc (.cells #[.int .i64 lic.A,.int .i64 lic.B,.int .i64 lic.C] 29)).alloc (.cells #[.slice none 0 0,.slice none 0 0,.slice none 0 0,.slice none 0 0,.slice none 0 0] 73))).cell (cell_box_at w w.heap.size rfl [.slice A1 ps.length c1,.slice A2 ns.length c2] 26 1 _ rfl));have hy0 := lt_of_cell y0;clear hr3)
 simp only [Nat.zero_add,List.nil_append] at HO3 ⊢
 have HX3 := Hh (hb2.trans hb3)
 have HRO := Hh (show RoomO (w3.alloc (.cells #[.slice A6 ps.length c6,.slice A7 ns.length c7,.slice A8 up.length c8,.slice none 0 0,.slice none 0 0] 73)) (w.heap.size + 1 + 1 + 1) ps ns up ([],[]) A6 c6 A7 c7 A8 c8 none 0 none 0 from ⟨owns_ext HO2.out (hb3.alloc _),owns_ext HO2'.out (hb3.alloc _),owns_ext HO3.out ((Ext.refl _).alloc _),PO.nil _ _,World.ownsRow_nil _ _ _ _,HK.out.1,HK.out.2,fun x hx => by cases hx⟩)
 have HBX := Hh (show (w3.alloc (.cells #[.slice A6 ps.length c6,.slice A7 ns.length c7,.slice A8 up.length c8,.slice none 0 0,.slice none 0 0] 73)).ownsRow (w.heap.size + 1 + 1 + 1) 73 5 (.slice (some ⟨w3.heap.size,0,none⟩) 1 1) 1 [.slice A6 ps.length c6,.slice A7 ns.length c7,.slice A8 up.length c8,.slice none 0 0,.slice none 0 0] from owns_base (gbox w3 [.slice A6 ps.length c6,.slice A7 ns.length c7,.slice A8 up.length c8,.slice none 0 0,.slice none 0 0] 73 5 rfl) (by omega))
 have hzz : w.heap.size + 1 + 1 + 1 ≤ w3.heap.size := by omega
 clear hb2 hb3 hx2 HO2 HO2' HO3 HT HU
 go_wp2
 go_loopw [20] (fun iv wr => ∃ (k : Nat) (A10 : Option Addr) (c10 : Nat),k ≤ ns.length ∧ iv = .int .i64 k ∧ Hid (RoomO wr (w.heap.size + 1 + 1 + 1) ps ns up ((ns.take k).map (fun n => [⟨0,n.Cap⟩]),[]) A6 c6 A7 c7 A8 c8 A10 c10 none 0) ∧ Hid (wr.ownsRow (w.heap.size + 1 + 1 + 1) 73 5 (.slice (some ⟨w3.heap.size,0,none⟩) 1 1) 1 [.slice A6 ps.length c6,.slice A7 ns.length c7,.slice A8 up.length c8,.slice A10 k c10,.slice none 0 0]) ∧ Ext (((w.alloc (.cells #[.slice A1 ps.length c1,.slice A2 ns.length c2] 26)).alloc (.cells #[.int .i64 lic.A,.int .i64 lic.B,.int .i64 lic.C] 29)).alloc (.cells #[.slice none 0 0,.slice none 0 0,.slice none 0 0,.slice none 0 0,.slice none 0 0] 73)) wr ∧ w3.heap.size < wr.heap.size) (fun iv _ => ns.length - (intOf iv).toNat)
 case atStart => exact ⟨0,none,0,Nat.zero_le _,rfl,HRO,HBX,HX3.out.alloc _,by simp⟩
 case round =>
  clear HRO HBX y0
  obtain ⟨k,A10,c10,hk,rfl,HRO,HBX,hb,hzb⟩ := hrel
  have hxw : Ext w wr := ((((Ext.refl w).alloc _).alloc _).alloc _).trans hb
  by_cases hlt : k < ns.length
  ·obtain ⟨bq,oq,x,cs,hA2,hbw,hx2,_,hc,rfl,hok⟩ := (H2.out wr hxw).at_ hlt
   subst hA2
   have g0 := hc 0 _ rfl
   have g1 := hc 1 _ rfl
   have g2 := hc 2 _ rfl
   have g3 := hc 3 _ rfl
   simp only [Nat.add_zero] at g0
   have HX := Hh hx2
   have HVX := Hh (HV.out x (List.mem_of_getElem? hx2))
   obtain ⟨_,L,hL,hLi⟩ := HRO.out.pro
   have HTK := Hh (show ((ns.take k).map (fun n : Node => [(⟨0,n.Cap⟩ : Pt)])).length = k by rw [List.length_map,List.length_take];omega)
   have HLL := Hh (show wr.ownsRow (w.heap.size + 1 + 1 + 1) 71 1 (.slice A10 k c10) k L by rw [← HTK.out];exact hL)
   have HLI := Hh hLi
   clear hx2 hc hok hL hLi hxw
   go_wp2_with fail
   refine (HPN.out x.Cap HVX.out _).mono ?_
   rintro e w4 ⟨A11,c11,l,rfl,hr4,ho4,hy4,hb4⟩
   obtain rfl : l = [⟨0,x.Cap⟩] := by rcases hr4 with h4 | ⟨h4,_⟩;(injection h4 with h4;exact h4.symm);(cases h4)
   have HE4 := Hh (show Ext wr w4 from ((Ext.refl wr).alloc _).trans hb4)
   have hz4 := HE4.out.le
   have HO4 := Hh (owns_base ho4 (show w.heap.size + 1 + 1 + 1 ≤ _ by simp;omega))
   have HY4 := Hh hy4
   have x4 := HE4.out.cell (gcells5 HBX.out).2.2.2.1
   have hl4 : w3.heap.size < w4.heap.size := by omega
   clear hr4 ho4 hy4 hb4
   go_wp2_with (at_builtin;go_must (refine wpList_append_r (enc := encS) (ok := fun _ => True) (.tmp 31) (.tmp 33) _ (w.heap.size + 1 + 1 + 1) 71 i1 _ 1 24 (.slice A10 k c10) k L _ 1 1 [(A11,1,c11)] rfl rfl Tryz.underlying68 hi1 hJ0 hJ1 hJ2 rfl (by omega) rfl (owns_ext HLL.out ((HE4.out.alloc _).alloc _)) rfl (by exact sl_one_at (enc := encS) _ _ (by simp) (A11,1,c11) 71 rfl trivial) (fun _ => rfl) encS_one (by unfold maxLen;omega) (by omega) (by simp;omega) ?_);intro A12 c12 w5 hr5;have HR5 := Hh hr5;have HB5 := Hh (hr5.other (owns_ext HBX.out ((HE4.out.alloc _).alloc _)) (g_apart HBX.out HLL.out (by decide)));have x5 := (gcells5 HB5.out).2.2.2.1;have xf5 := HB5.out.frozenAt 3;have hl5 := (HB5.out.lt w3.heap.size rfl).2;have hz5 := hr5.size;clear hr5)
   have HRN := Hh ((HRO.out.ext ((HE4.out.alloc _).alloc _)).push HTK.out (owns_ext HLL.out ((HE4.out.alloc _).alloc _)) (fun j p hj => by obtain ⟨Ap,cp,e1,e2,e3⟩ := HLI.out j p hj;exact ⟨Ap,cp,e1,owns_ext e2 ((HE4.out.alloc _).alloc _),e3⟩) HR5.out (q := [⟨0,x.Cap⟩]) (by simp [encS]) (owns_ext HO4.out (((Ext.refl w4).alloc _).alloc _)) HY4.out)
   have HXT := Hh (ext_turned (hb.trans ((HE4.out.alloc _).alloc _)) (HR5.out.turned (lo := w.heap.size + 1 + 1 + 1) (fun q hq => (HLL.out.lt q hq).1)) (by simp))
   clear x4
   go_wp2
   go_roundw
   case rel => exact ⟨k + 1,A12,c12,by omega,by go_num,Hh (by rw [take_succ HX.out,List.map_append];exact HRN.out.far HB5.out),Hh (HB5.out.stored 3 _).1,HXT.out.setCell (by simp;omega) _,by simp;omega⟩
   case measure => simp [intOf];omega
  ·have HKN := Hh (show k = ns.length by omega)
   have HMP := Hh (show (ns.take k).map (fun n : Node => [(⟨0,n.Cap⟩ : Pt)]) = ns.map (fun n => [⟨0,n.Cap⟩]) by rw [List.take_of_length_le (by have := HKN.out;omega)])
   rw [HMP.out] at HRO
   obtain ⟨v0,v1,v2⟩ := bc3 (w.alloc (.cells #[.slice A1 ps.length c1,.slice A2 ns.length c2] 26)) (w.heap.size + 1) (.int .i64 lic.A) (.int .i64 lic.B) (.int .i64 lic.C) 29 ((((Ext.refl _).alloc _).trans hb)) (by simp)
   obtain ⟨vf0,vf1,vf2⟩ := bf3 (w.alloc (.cells #[.slice A1 ps.length c1,.slice A2 ns.length c2] 26)) (w.heap.size + 1) (.int .i64 lic.A) (.int .i64 lic.B) (.int .i64 lic.C) 29 ((((Ext.refl _).alloc _).trans hb)) (by simp)
   have hv0 := lt_of_cell v0
   go_wp2_with fail
   refine (HPN.out lic HL.out _).mono ?_
   rintro e w4 ⟨A11,c11,l,rfl,hr4,ho4,hy4,hb4⟩
   obtain rfl : l = [⟨0,lic⟩] := by rcases hr4 with h4 | ⟨h4,_⟩;(injection h4 with h4;exact h4.symm);(cases h4)
   have hz4 := hb4.le
   have HRO2 := Hh ((HRO.out.ext hb4).lics (owns_base ho4 (by omega)) hy4)
   have HBY := Hh (owns_ext HBX.out hb4)
   obtain ⟨t0,t1,t2,t3,t4,tf0,tf1,tf2,tf3,tf4,tl⟩ := gcells5 HBY.out
   obtain ⟨q0,q1,q2,q3,q4⟩ := bc5 ((w.alloc (.cells #[.slice A1 ps.length c1,.slice A2 ns.length c2] 26)).alloc (.cells #[.int .i64 lic.A,.int .i64 lic.B,.int .i64 lic.C] 29)) (w.heap.size + 1 + 1) (.slice none 0 0) (.slice none 0 0) (.slice none 0 0) (.slice none 0 0) (.slice none 0 0) 73 ((hb.trans hb4)) (by simp)
   obtain ⟨qf0,qf1,qf2,qf3,qf4⟩ := bf5 ((w.alloc (.cells #[.slice A1 ps.length c1,.slice A2 ns.length c2] 26)).alloc (.cells #[.int .i64 lic.A,.int .i64 lic.B,.int .i64 lic.C] 29)) (w.heap.size + 1 + 1) (.slice none 0 0) (.slice none 0 0) (.slice none 0 0) (.slice none 0 0) (.slice none 0 0) 73 ((hb.trans hb4)) (by simp)
   have hql := lt_of_cell q0
   have hqb : w.heap.size + 1 + 1 ≠ w3.heap.size := by omega
   have HRO4 := Hh ((((((HRO2.out.far HBY.out (p := 4) (u := .slice A11 1 c11)).low (b := w.heap.size + 1 + 1) (p := 0) (u := .slice A6 ps.length c6) (by omega)).low (b := w.heap.size + 1 + 1) (p := 1) (u := .slice A7 ns.length c7) (by omega)).low (b := w.heap.size + 1 + 1) (p := 2) (u := .slice A8 up.length c8) (by omega)).low (b := w.heap.size + 1 + 1) (p := 3) (u := .slice A10 k c10) (by omega)).low (b := w.heap.size + 1 + 1) (p := 4) (u := .slice A11 1 c11) (by omega))
   have HXF := Hh ((hxw.trans hb4).setCell (p := ⟨w3.heap.size,4,none⟩) (by simp only [];omega) (.slice A11 1 c11))
   clear hxw hb hb4 ho4 hy4 hr4 HRO HBX HRO2 HBY HMP HV HPN H2 HX3 HK v0 v1 v2 vf0 vf1 vf2 hv0 hlt hk
   go_wp2
   exact bodyPost_ret (v := .agg #[.slice A6 ps.length c6,.slice A7 ns.length c7,.slice A8 up.length c8,.slice A10 k c10,.slice A11 1 c11]) (by simp [results,Tryz.results46,go_sem, *]) rfl ⟨A6,c6,A7,c7,A8,c8,A10,c10,A11,c11,by rw [HKN.out];simp [room0],HRO4.out.base (by omega),HXF.out.five (by omega) _ _ _ _ _⟩
end Go.Proofs.YtfanjhcdjbnnnaaGreat
