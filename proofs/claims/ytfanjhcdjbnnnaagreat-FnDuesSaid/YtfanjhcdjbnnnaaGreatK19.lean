/- Over4, Elig, LTimes. -/
import Derived.Test.YtfanjhcdjbnnnaaGreatK18
import Derived.Test.YtfanjhcdjbnnnaaGreatK13
import Derived.Test.YtfanjhcdjbnnnaaGreatK02
import Derived.Test.YtfanjhcdjbnnnaaGreatK11
import Derived.Deep.RegionLaw
namespace Go.Proofs.YtfanjhcdjbnnnaaGreat
open Go.RowKit
set_option linter.unusedVariables false
set_option maxHeartbeats 16000000
set_option maxRecDepth 10000
theorem sProfMin_c (xs : List Pt) (fr tto : Int) (A : Option Addr) (n c : Nat) (w : World) (h : SlAt RPt 4 w A n xs) (hl : n ≤ maxLen) : Calls Tryz.prog 109 #[.agg #[.slice A n c],.int .i64 fr,.int .i64 tto] w (RetVB w (overB xs fr tto)) := by
 have hl' := hl
 unfold maxLen at hl
 have HN := Hh h.len
 have HM := Hh (Flat.mono Pt.enc Pt.ok)
 have hA := Hh (fun (u : World) (e : Ext w u) => sProfOk_c xs A n c u (h.ext HM.out e) hl')
 have hF := Hh (fun u : World => sTime_c fr u)
 have hT := Hh (fun u : World => sTime_c tto u)
 have hV := Hh (fun (u : World) (e : Ext w u) => l03At_c xs fr A n c u (h.ext HM.out e) hl')
 generalize freeAt xs fr = v0 at hV
 rcases (Bool.eq_false_or_eq_true (profB xs)).symm with h1 | h1
 all_goals rw [h1] at hA
 ·rw [show overB xs fr tto = false by unfold overB;rw [h1];rfl]
  go_enter Tryz.func109,Tryz.ntmps109
  go_wp2_with fail
  refine (hA.out _ Ext.go).mono ?_
  rintro e w1 ⟨rfl,hb1⟩
  obtain ⟨hcr1,hfr1,hz1⟩ := hb1.rules
  (try simp at hz1)
  have hy1_w0 : w.heap.size < w1.heap.size := (by omega)
  have hy1_w1 : w.heap.size + 1 < w1.heap.size := (by omega)
  obtain ⟨q0,q1,q2⟩ := bc3 (w.alloc (.cells #[.slice A n c] 71)) (w.heap.size + 1) (.int .i64 0) (.int .i64 0) (.int .i64 0) 29 ((hb1)) (by simp)
  obtain ⟨qf0,qf1,qf2⟩ := bf3 (w.alloc (.cells #[.slice A n c] 71)) (w.heap.size + 1) (.int .i64 0) (.int .i64 0) (.int .i64 0) 29 ((hb1)) (by simp)
  go_wp2
  exact bodyPost_ret (by simp [results,Tryz.results109,go_sem, *]) rfl ⟨⟨0,0,0⟩,rfl,Ext.go⟩
 rcases (Bool.eq_false_or_eq_true (timeB fr)).symm with h2 | h2
 all_goals rw [h2] at hF
 ·rw [show overB xs fr tto = false by unfold overB spanB;rw [h1,h2];rfl]
  go_enter Tryz.func109,Tryz.ntmps109
  go_wp2_with fail
  refine (hA.out _ Ext.go).mono ?_
  rintro e w1 ⟨rfl,hb1⟩
  obtain ⟨hcr1,hfr1,hz1⟩ := hb1.rules
  (try simp at hz1)
  have hy1_w0 : w.heap.size < w1.heap.size := (by omega)
  have hy1_w1 : w.heap.size + 1 < w1.heap.size := (by omega)
  go_wp2_with fail
  refine (hF.out _).mono ?_
  rintro e w2 ⟨rfl,rfl⟩
  obtain ⟨q0,q1,q2⟩ := bc3 (w.alloc (.cells #[.slice A n c] 71)) (w.heap.size + 1) (.int .i64 0) (.int .i64 0) (.int .i64 0) 29 ((hb1)) (by simp)
  obtain ⟨qf0,qf1,qf2⟩ := bf3 (w.alloc (.cells #[.slice A n c] 71)) (w.heap.size + 1) (.int .i64 0) (.int .i64 0) (.int .i64 0) 29 ((hb1)) (by simp)
  go_wp2
  exact bodyPost_ret (by simp [results,Tryz.results109,go_sem, *]) rfl ⟨⟨0,0,0⟩,rfl,Ext.go⟩
 rcases (Bool.eq_false_or_eq_true (timeB tto)).symm with h3 | h3
 all_goals rw [h3] at hT
 ·rw [show overB xs fr tto = false by unfold overB spanB;rw [h1,h2,h3];rfl]
  go_enter Tryz.func109,Tryz.ntmps109
  go_wp2_with fail
  refine (hA.out _ Ext.go).mono ?_
  rintro e w1 ⟨rfl,hb1⟩
  obtain ⟨hcr1,hfr1,hz1⟩ := hb1.rules
  (try simp at hz1)
  have hy1_w0 : w.heap.size < w1.heap.size := (by omega)
  have hy1_w1 : w.heap.size + 1 < w1.heap.size := (by omega)
  go_wp2_with fail
  refine (hF.out _).mono ?_
  rintro e w2 ⟨rfl,rfl⟩
  go_wp2_with fail
  refine (hT.out _).mono ?_
  rintro e w3 ⟨rfl,rfl⟩
  obtain ⟨q0,q1,q2⟩ := bc3 (w.alloc (.cells #[.slice A n c] 71)) (w.heap.size + 1) (.int .i64 0) (.int .i64 0) (.int .i64 0) 29 ((hb1)) (by simp)
  obtain ⟨qf0,qf1,qf2⟩ := bf3 (w.alloc (.cells #[.slice A n c] 71)) (w.heap.size + 1) (.int .i64 0) (.int .i64 0) (.int .i64 0) 29 ((hb1)) (by simp)
  go_wp2
  exact bodyPost_ret (by simp [results,Tryz.results109,go_sem, *]) rfl ⟨⟨0,0,0⟩,rfl,Ext.go⟩
 by_cases h4 : tto ≤ fr
 ·rw [show overB xs fr tto = false by unfold overB spanB;rw [h1,h2,h3,decide_eq_false (by omega)];rfl]
  clear h1 h2 h3
  go_enter Tryz.func109,Tryz.ntmps109
  go_wp2_with fail
  refine (hA.out _ Ext.go).mono ?_
  rintro e w1 ⟨rfl,hb1⟩
  obtain ⟨hcr1,hfr1,hz1⟩ := hb1.rules
  (try simp at hz1)
  have hy1_w0 : w.heap.size < w1.heap.size := (by omega)
  have hy1_w1 : w.heap.size + 1 < w1.heap.size := (by omega)
  go_wp2_with fail
  refine (hF.out _).mono ?_
  rintro e w2 ⟨rfl,rfl⟩
  go_wp2_with fail
  refine (hT.out _).mono ?_
  rintro e w3 ⟨rfl,rfl⟩
  obtain ⟨q0,q1,q2⟩ := bc3 (w.alloc (.cells #[.slice A n c] 71)) (w.heap.size + 1) (.int .i64 0) (.int .i64 0) (.int .i64 0) 29 ((hb1)) (by simp)
  obtain ⟨qf0,qf1,qf2⟩ := bf3 (w.alloc (.cells #[.slice A n c] 71)) (w.heap.size + 1) (.int .i64 0) (.int .i64 0) (.int .i64 0) 29 ((hb1)) (by simp)
  go_wp2
  exact bodyPost_ret (by simp [results,Tryz.results109,go_sem, *]) rfl ⟨⟨0,0,0⟩,rfl,Ext.go⟩
 rw [show overB xs fr tto = true by unfold overB spanB;rw [h1,h2,h3,decide_eq_true (by omega)];rfl]
 clear h1 h2 h3
 go_enter Tryz.func109,Tryz.ntmps109
 go_wp2_with fail
 refine (hA.out _ Ext.go).mono ?_
 rintro e w1 ⟨rfl,hb1⟩
 obtain ⟨hcr1,hfr1,hz1⟩ := hb1.rules
 (try simp at hz1)
 have hy1_w0 : w.heap.size < w1.heap.size := (by omega)
 have hy1_w1 : w.heap.size + 1 < w1.heap.size := (by omega)
 go_wp2_with fail
 refine (hF.out _).mono ?_
 rintro e w2 ⟨rfl,rfl⟩
 go_wp2_with fail
 refine (hT.out _).mono ?_
 rintro e w3 ⟨rfl,rfl⟩
 have x0 := bc1 w (w.heap.size) (.slice A n c) 71 ((((Ext.refl _).alloc _).trans hb1)) (by simp)
 have xf0 := bf1 w (w.heap.size) (.slice A n c) 71 ((((Ext.refl _).alloc _).trans hb1)) (by simp)
 go_wp2_with fail
 refine (hV.out _ Ext.go).mono ?_
 rintro e w4 ⟨rfl,hb4⟩
 obtain ⟨hcr4,hfr4,hz4⟩ := hb4.rules
 (try simp at hz4)
 have hy4_w0 : w.heap.size < w4.heap.size := (by omega)
 have hy4_w1 : w.heap.size + 1 < w4.heap.size := (by omega)
 have x0 := bc1 w (w.heap.size) (.slice A n c) 71 ((((Ext.refl _).alloc _).trans (hb1.trans hb4))) (by simp)
 have xf0 := bf1 w (w.heap.size) (.slice A n c) 71 ((((Ext.refl _).alloc _).trans (hb1.trans hb4))) (by simp)
 clear hA hF hT hV
 go_wp2
 go_loopw [36] (fun i wr => ∃ (k : Nat) (v : Vec),k ≤ n ∧ i = .int .i64 k ∧ wr.cell? ⟨w4.heap.size,0,none⟩ = some (.int .i64 v.A) ∧ wr.cell? ⟨w4.heap.size,1,none⟩ = some (.int .i64 v.B) ∧ wr.cell? ⟨w4.heap.size,2,none⟩ = some (.int .i64 v.C) ∧ wr.frozen? ⟨w4.heap.size,0,none⟩ = false ∧ wr.frozen? ⟨w4.heap.size,1,none⟩ = false ∧ wr.frozen? ⟨w4.heap.size,2,none⟩ = false ∧ Ext w4 wr ∧ w4.heap.size < wr.heap.size) (fun i _ => n - (intOf i).toNat)
 case atStart => exact ⟨0,v0,Nat.zero_le _,rfl,(cell_box_at w4 _ rfl [.int .i64 v0.A,.int .i64 v0.B,.int .i64 v0.C] 29 0 _ rfl),(cell_box_at w4 _ rfl [.int .i64 v0.A,.int .i64 v0.B,.int .i64 v0.C] 29 1 _ rfl),(cell_box_at w4 _ rfl [.int .i64 v0.A,.int .i64 v0.B,.int .i64 v0.C] 29 2 _ rfl),(frozen_box_at _ _ (by simp) _ _ _),(frozen_box_at _ _ (by simp) _ _ _),(frozen_box_at _ _ (by simp) _ _ _),Ext.go,by simp⟩
 case round =>
  obtain ⟨k,v,hk,rfl,c0,c1,c2,z0,z1,z2,hbr,hzr⟩ := hrel
  have hb : Ext w wr := (((Ext.refl w).alloc _).alloc _).trans (hb1.trans (hb4.trans hbr))
  by_cases hlt : k < n
  ·obtain ⟨b,o,x,cs,rfl,hbw,hx,_,hc,rfl,_⟩ := (h.ext HM.out hb).at_ hlt
   have g0 := hc 0 _ rfl
   have g1 := hc 1 _ rfl
   have g2 := hc 2 _ rfl
   have g3 := hc 3 _ rfl
   simp only [Nat.add_zero] at g0
   clear hc hx h
   by_cases g1 : fr ≤ x.At
   ·by_cases g2 : x.At < tto
    ·have HG1 := Hh (fun u : World => sVecMin_c v x.Free u)
     go_wp2_with fail
     refine (HG1.out _).mono ?_
     rintro e w5 ⟨v',rfl,hb5⟩
     have e5 : Ext wr w5 := ((Ext.refl wr).alloc _).trans hb5
     have k0 := e5.cell c0
     have k1 := e5.cell c1
     have k2 := e5.cell c2
     have l0 := (e5.frozenEq (lt_of_cell c0)).trans z0
     have l1 := (e5.frozenEq (lt_of_cell c1)).trans z1
     have l2 := (e5.frozenEq (lt_of_cell c2)).trans z2
     have hz5 : w4.heap.size < w5.heap.size := by have := e5.le;omega
     clear c0 c1 c2 z0 z1 z2
     go_wp2
     go_roundw
     case rel => exact ⟨k + 1,v',by omega,by go_num,by go_simp,by go_simp,by go_simp,by go_simp,by go_simp,by go_simp,(hbr.trans e5).setCell (by simp) _ |>.setCell (by simp) _ |>.setCell (by simp) _,by simp;omega⟩
     case measure => simp [intOf];omega
    ·go_wp2
     go_roundw
     case rel => exact ⟨k + 1,v,by omega,by go_num,by go_simp,by go_simp,by go_simp,by go_simp,by go_simp,by go_simp,Ext.go,by simp;omega⟩
     case measure => simp [intOf];omega
   ·go_wp2
    go_roundw
    case rel => exact ⟨k + 1,v,by omega,by go_num,by go_simp,by go_simp,by go_simp,by go_simp,by go_simp,by go_simp,Ext.go,by simp;omega⟩
    case measure => simp [intOf];omega
  ·obtain ⟨p0,p1,p2⟩ := bc3 (w.alloc (.cells #[.slice A n c] 71)) (w.heap.size + 1) (.int .i64 0) (.int .i64 0) (.int .i64 0) 29 ((hb1.trans (hb4.trans hbr))) (by simp)
   obtain ⟨pf0,pf1,pf2⟩ := bf3 (w.alloc (.cells #[.slice A n c] 71)) (w.heap.size + 1) (.int .i64 0) (.int .i64 0) (.int .i64 0) 29 ((hb1.trans (hb4.trans hbr))) (by simp)
   clear h
   go_wp2
   exact bodyPost_ret (by simp [results,Tryz.results109,go_sem, *]) rfl ⟨v,rfl,Ext.go⟩
def RetNums (w : World) (m : Nat) : Ending → World → Prop := fun e w' => ∃ (A : Option Addr) (n c : Nat) (xs : List Int),e = .returned (.slice A n c) ∧ SlAt RInt 1 w' A n xs ∧ n ≤ m ∧ Ext w w'
theorem ret_nums {w w0 : World} {P : Program} {fn : Func} {a : Act} {t : Tmp} {A : Option Addr} {n c m : Nat} {xs : List Int} (hr : fn.results = #[.tmp t]) (h : SlAt RInt 1 w A n xs) (hn : n ≤ m) (hb : Ext w0 w) (hv : a.tmps.getD t undef = .slice A n c := by rfl) (hd : a.defers = [] := by rfl) : bodyPost P fn (RetNums w0 m) .ret a w :=
 bodyPost_ret (results_tmp hr _ _ _) hd ⟨A,n,c,xs,by rw [hv],h,hn,hb⟩
theorem roomB_sm {ps : List Int} {ns : List Node} {up : List Bool} {pl : List (List Pt)} {lic : List Pt} (h : roomB ps ns up pl lic = true) : roomSm ps ns up pl lic ∧ pl.length ≤ 24 ∧ ps.length ≤ 24 ∧ ns.length ≤ 24 := by
 obtain ⟨ht,hu,hl,hp,hq⟩ := roomB_parts h
 obtain ⟨⟨_,h1⟩,⟨h2,_⟩⟩ := topo_parts ht
 simp only [] at hl hp hq
 have h3 := (profB_parts hq).2.1
 exact ⟨⟨⟨by omega,by omega,by omega⟩,by omega,by omega,fun p hm => by have := (profB_parts (hp p hm)).2.1;omega⟩,by omega,by omega,by omega⟩
theorem Eligible_c (ps : List Int) (ns : List Node) (up : List Bool) (pl : List (List Pt)) (lic : List Pt) (need : Vec) (fr te : Int) (v : Value) (w : World) (h : RoomAt w ps ns up (pl,lic) v) (hr : roomB ps ns up pl lic = true) : Calls Tryz.prog 138 #[v,.agg #[.int .i64 need.A,.int .i64 need.B,.int .i64 need.C],.int .i64 fr,.int .i64 te] w (RetNums w 24) := by
 obtain ⟨i0,hi,hI0,hI1,hI2⟩ := info_parts TInt.info
 obtain ⟨hsm,hQ,_,_⟩ := roomB_sm hr
 have HRO := Hh (fun (u : World) (e : Ext w u) => sRoomOkG_c ps ns up pl lic v u (h.ext e) hsm)
 rw [hr] at HRO
 obtain ⟨ht,hu,hl,hp,hq⟩ := roomB_parts hr
 simp only [] at hl hp hq
 obtain ⟨A1,c1,A2,c2,A3,c3,A4,c4,A5,c5,rfl,h1,h2,h3,h4,h5⟩ := h
 simp only [] at h4 h5 ⊢
 have H3 := Hh (fun (u : World) (e : Ext w u) => h3.ext (Flat.mono _ _) e)
 have H4 := Hh (fun (u : World) (e : Ext w u) => h4.ext RPf.mono e)
 have HPM := Hh (fun (p : List Pt) (hm : p ∈ pl) (A : Option Addr) (c : Nat) (u : World) (hs : SlAt RPt 4 u A p.length p) => sProfMin_c p fr te A p.length c u hs (by have := (profB_parts (hp p hm)).2.1;unfold maxLen;omega))
 have HUL : up.length = pl.length := by omega
 rw [HUL] at H3 ⊢
 simp only [] at HRO
 rw [HUL] at HRO
 clear h1 h2 h3 h4 h5 hr hsm ht hu hl hp hq HUL
 generalize ps.length = np at *
 generalize ns.length = nn at *
 generalize lic.length = nq at *
 generalize pl.length = m at *
 go_enter Tryz.func138,Tryz.ntmps138
 go_wp2_with fail
 refine (HRO.out _ Ext.go).mono ?_
 rintro e w1 ⟨rfl,hb1⟩
 obtain ⟨hcr1,hfr1,hz1⟩ := hb1.rules
 (try simp at hz1)
 have hy1_w0 : w.heap.size < w1.heap.size := (by omega)
 have hy1_w1 : w.heap.size + 1 < w1.heap.size := (by omega)
 have hy1_w2 : w.heap.size + 1 + 1 < w1.heap.size := (by omega)
 obtain ⟨q0,q1,q2,q3,q4⟩ := bc5 w (w.heap.size) (.slice A1 np c1) (.slice A2 nn c2) (.slice A3 m c3) (.slice A4 m c4) (.slice A5 nq c5) 73 ((((Ext.refl _).alloc (.cells #[.int .i64 need.A,.int .i64 need.B,.int .i64 need.C] 29)))) (by simp)
 obtain ⟨qf0,qf1,qf2,qf3,qf4⟩ := bf5 w (w.heap.size) (.slice A1 np c1) (.slice A2 nn c2) (.slice A3 m c3) (.slice A4 m c4) (.slice A5 nq c5) 73 ((((Ext.refl _).alloc (.cells #[.int .i64 need.A,.int .i64 need.B,.int .i64 need.C] 29)))) (by simp)
 obtain ⟨y0,y1,y2⟩ := bc3 (w.alloc (.cells #[.slice A1 np c1,.slice A2 nn c2,.slice A3 m c3,.slice A4 m c4,.slice A5 nq c5] 73)) (w.heap.size + 1) (.int .i64 need.A) (.int .i64 need.B) (.int .i64 need.C) 29 ((Ext.refl _)) (by simp)
 obtain ⟨yf0,yf1,yf2⟩ := bf3 (w.alloc (.cells #[.slice A1 np c1,.slice A2 nn c2,.slice A3 m c3,.slice A4 m c4,.slice A5 nq c5] 73)) (w.heap.size + 1) (.int .i64 need.A) (.int .i64 need.B) (.int .i64 need.C) 29 ((Ext.refl _)) (by simp)
 have EW := ((Ext.refl ((w.alloc (.cells #[.slice A1 np c1,.slice A2 nn c2,.slice A3 m c3,.slice A4 m c4,.slice A5 nq c5] 73)).alloc (.cells #[.int .i64 need.A,.int .i64 need.B,.int .i64 need.C] 29))).alloc (.cells #[] 3)).trans hb1
 have hWs : ((w.alloc (.cells #[.slice A1 np c1,.slice A2 nn c2,.slice A3 m c3,.slice A4 m c4,.slice A5 nq c5] 73)).alloc (.cells #[.int .i64 need.A,.int .i64 need.B,.int .i64 need.C] 29)).heap.size = w.heap.size + 1 + 1 := by simp
 have EW1 : Ext w ((w.alloc (.cells #[.slice A1 np c1,.slice A2 nn c2,.slice A3 m c3,.slice A4 m c4,.slice A5 nq c5] 73)).alloc (.cells #[.int .i64 need.A,.int .i64 need.B,.int .i64 need.C] 29)) := ((Ext.refl w).alloc _).alloc _
 have HO0 := Hh (show w1.ownsRow (w.heap.size + 1 + 1) 3 1 (.slice (some ⟨w.heap.size + 1 + 1,0,none⟩) 0 0) 0 [] from by
  have h := owns_ext (owns_empty ((w.alloc (.cells #[.slice A1 np c1,.slice A2 nn c2,.slice A3 m c3,.slice A4 m c4,.slice A5 nq c5] 73)).alloc (.cells #[.int .i64 need.A,.int .i64 need.B,.int .i64 need.C] 29)) 3 1) hb1
  simpa using h)
 clear q0 q1 q4 qf0 qf1 qf2 qf3 qf4 yf0 yf1 yf2 hcr1 hfr1 hb1 HRO
 generalize hW : ((w.alloc (.cells #[.slice A1 np c1,.slice A2 nn c2,.slice A3 m c3,.slice A4 m c4,.slice A5 nq c5] 73)).alloc (.cells #[.int .i64 need.A,.int .i64 need.B,.int .i64 need.C] 29)) = W at *
 clear hW
 have z2 := EW.cell q2
 have z3 := EW.cell q3
 go_wp2
 go_loopw [9,21] (fun l iv wr => ∃ (k a : Nat) (A6 : Option Addr) (c6 : Nat) (acc : List Int),k ≤ m ∧ iv = .int .i64 k ∧ l = .slice A6 a c6 ∧ a ≤ k ∧ Hid (a = acc.length) ∧ Hid (∀ y ∈ acc,In64 y) ∧ Hid (wr.ownsRow (w.heap.size + 1 + 1) 3 1 (.slice A6 a c6) a (acc.flatMap encInt)) ∧ Ext W wr) (fun _ iv _ => m - (intOf iv).toNat)
 case atStart => exact ⟨0,0,_,0,[],Nat.zero_le _,rfl,rfl,by omega,Hh rfl,Hh (fun y hy => by cases hy),HO0,EW⟩
 case round =>
  clear HO0 z2 z3
  obtain ⟨k,a,A6,c6,acc,hk,rfl,rfl,hak,HL,HIN,HO,hb⟩ := hrel
  have hxq : Ext w wr := EW1.trans hb
  have z2 := hb.cell q2
  have z3 := hb.cell q3
  have hzr := lt_of_cell z3
  by_cases hlt : k < m
  ·obtain ⟨bo,oo,x,cs,hD,hbw,hx,_,hc,Ap,cp,rfl,hs⟩ := (H4.out wr hxq).at_ hlt
   subst hD
   have g0 := hc 0 _ rfl
   simp only [Nat.mul_one,Nat.add_zero] at g0
   obtain ⟨bu,ou,ub,cs2,hD2,hbw2,hx2,_,hc2,rfl,_⟩ := (H3.out wr hxq).at_ hlt
   subst hD2
   have hcu := hc2 0 (.bool ub) rfl
   simp only [Nat.mul_one,Nat.add_zero] at hcu
   have HP := Hh (HPM.out x (List.mem_of_getElem? hx) Ap cp wr hs)
   clear hx hc hs hx2 hc2
   generalize x.length = xl at *
   go_wp2_with fail
   refine HP.out.mono ?_
   rintro e w4 ⟨vv,rfl,hb4⟩
   generalize overB x fr te = ok at *
   have E4 := hb.trans hb4
   have HO4 := Hh (owns_ext HO.out (hb4.alloc (.cells #[.int .i64 vv.A,.int .i64 vv.B,.int .i64 vv.C] 29)))
   have v0 := hb4.cell hcu
   have x2 := hb4.cell z2
   have x3 := hb4.cell z3
   have hx3 := lt_of_cell x3
   have y0' := E4.cell y0
   have y1' := E4.cell y1
   have y2' := E4.cell y2
   have hy0' := lt_of_cell y0'
   have hbu := lt_of_cell v0
   clear z2 z3 hcu g0 HO
   rcases ok with _ | _
   ·go_wp2
    go_roundw
    case rel => exact ⟨k + 1,a,A6,c6,acc,by omega,by go_num,rfl,by omega,HL,HIN,HO4,E4.alloc _⟩
    case measure => simp [intOf];omega
   rcases ub with _ | _
   ·go_wp2
    go_roundw
    case rel => exact ⟨k + 1,a,A6,c6,acc,by omega,by go_num,rfl,by omega,HL,HIN,HO4,E4.alloc _⟩
    case measure => simp [intOf];omega
   go_wp2_with fail
   refine (sVecFits_c need vv _).mono ?_
   rintro e w5 ⟨rfl,hb5⟩
   have E5 := E4.trans (((Ext.refl _).alloc _).trans hb5)
   have HO5 := Hh (owns_ext HO4.out hb5)
   generalize fitsB need vv = fb at *
   clear v0 x2 x3 y0' y1' y2' HO4
   have hle5 := E5.le
   rcases fb with _ | _
   ·go_wp2
    go_roundw
    case rel => exact ⟨k + 1,a,A6,c6,acc,by omega,by go_num,rfl,by omega,HL,HIN,HO5,E5⟩
    case measure => simp [intOf];omega
   ·go_wp2_with (at_builtin;go_must (refine wpList_append_r (enc := encInt) (ok := In64) (.tmp 48) (.tmp 50) _ (w.heap.size + 1 + 1) 3 i0 _ 1 8 (.slice A6 a c6) a _ (some ⟨w5.heap.size,0,none⟩) 1 1 [(k : Int)] rfl rfl Tryz.underlying23 hi hI0 hI1 hI2 rfl (by omega) rfl (owns_ext HO5.out ((Ext.refl _).alloc _)) rfl (by exact sl_one_at (enc := encInt) _ _ rfl (k : Int) 3 rfl ⟨by omega,by omega⟩) (fun _ => rfl) TInt.one (by unfold maxLen;omega) (by omega) (by simp;omega) ?_);intro A9 c9 w6 hr6;have HR6 := Hh hr6;clear hr6)
    have HX6 := Hh (ext_turned (E5.alloc _) (HR6.out.turned (lo := w.heap.size + 1 + 1) (fun q hq => (HO5.out.lt q hq).1)) (by omega))
    go_wp2
    go_roundw
    case rel => exact ⟨k + 1,a + 1,A9,c9,acc ++ [(k : Int)],by omega,by go_num,rfl,by omega,Hh (by rw [List.length_append,← HL.out];rfl),Hh (fun y hy => by rcases List.mem_append.1 hy with hy | hy;exact HIN.out y hy;(rw [List.mem_singleton.1 hy];exact ⟨by omega,by omega⟩)),Hh (by have h := HR6.out.row;rw [List.flatMap_append];simpa using h),HX6.out⟩
    case measure => simp [intOf];omega
  ·obtain rfl : k = m := by omega
   go_wp2
   exact ret_nums rfl (show SlAt RInt 1 wr A6 a acc by have h := HO.out;rw [HL.out] at h ⊢;exact owns_sl encInt_size h HIN.out) (by omega) hxq
structure HItem where
 A : Option Addr
 n : Nat
 c : Nat
def HItem.v (h : HItem) : Value := .slice h.A h.n h.c
def encH (h : HItem) : List Value := [h.v]
theorem encH_one (h : HItem) : ∀ u ∈ encH h,u.oneCell' = true := by
 intro u hu;simp [encH] at hu;subst hu;rfl
theorem rpf_items {w : World} {A : Option Addr} {n : Nat} {pl : List (List Pt)} (h : SlAt RPf 1 w A n pl) : ∃ hs : List HItem,SlAt (Flat encH (fun _ => True)) 1 w A n hs ∧ ∀ (k : Nat) (p : List Pt),pl[k]? = some p → ∃ A' c',hs[k]? = some ⟨A',p.length,c'⟩ ∧ SlAt RPt 4 w A' p.length p := by
 rcases Nat.eq_zero_or_pos n with h0 | h0
 ·subst h0
  exact ⟨[],SlAt.nil A,fun k p hk => by rw [List.eq_nil_of_length_eq_zero h.len] at hk;cases hk⟩
 obtain ⟨b,o,rfl,hb,hc⟩ := h.2 h0
 have hf : ∀ k : Nat,∃ t : HItem,∀ p,pl[k]? = some p → t.n = p.length ∧ w.cell? ⟨b,o + k * 1,none⟩ = some t.v ∧ SlAt RPt 4 w t.A t.n p := fun k => by
  cases hk : pl[k]? with
  | none => exact ⟨⟨none,0,0⟩,fun p hp => by cases hp⟩
  | some p =>
   obtain ⟨cs,h1,h2,A',c',rfl,h3⟩ := hc k p hk
   refine ⟨⟨A',p.length,c'⟩,fun q hq => ?_⟩
   injection hq with hq;subst hq
   exact ⟨rfl,by have := h2 0 _ rfl;simpa [HItem.v] using this,h3⟩
 refine ⟨(List.range n).map (fun k => (hf k).choose),⟨by simp,fun _ => ⟨b,o,rfl,hb,fun k x hx => ?_⟩⟩,fun k p hk => ?_⟩
 ·have hkn : k < n := by
   have := (List.getElem?_eq_some_iff.1 hx).1;simpa using this
  rw [List.getElem?_map,List.getElem?_range hkn] at hx
  simp only [Option.map_some,Option.some.injEq] at hx
  subst hx
  obtain ⟨p,hp⟩ : ∃ p,pl[k]? = some p := ⟨_,List.getElem?_eq_getElem (by rw [h.len];exact hkn)⟩
  obtain ⟨_,h2,_⟩ := (hf k).choose_spec p hp
  refine ⟨encH _,rfl,fun j u hu => ?_,rfl,trivial⟩
  cases j with
  | zero => simp [encH] at hu;subst hu;simpa using h2
  | succ j => simp [encH] at hu
 ·have hkn : k < n := by rw [← h.len];exact (List.getElem?_eq_some_iff.1 hk).1
  obtain ⟨h1,h2,h3⟩ := (hf k).choose_spec p hk
  refine ⟨(hf k).choose.A,(hf k).choose.c, ?_,by rw [h1] at h3;exact h3⟩
  rw [List.getElem?_map,List.getElem?_range hkn,← h1]
  rfl
theorem items_rpf {w : World} {lo : Nat} {e : TypeId} {A : Option Addr} {n c : Nat} {hs : List HItem} {pl : List (List Pt)} (h : w.ownsRow lo e 1 (.slice A n c) n (hs.flatMap encH)) (hn : hs.length = n) (hl : pl.length = n) (h2 : ∀ (k : Nat) (p : List Pt),pl[k]? = some p → ∃ A' c',hs[k]? = some ⟨A',p.length,c'⟩ ∧ SlAt RPt 4 w A' p.length p) : SlAt RPf 1 w A n pl := by
 subst hn
 have h3 := owns_sl (enc := encH) (ok := fun _ => True) (fun _ => rfl) h (fun _ _ => trivial)
 refine ⟨hl,fun h0 => ?_⟩
 obtain ⟨b,o,rfl,hb,hc⟩ := h3.2 h0
 refine ⟨b,o,rfl,hb,fun k p hp => ?_⟩
 obtain ⟨A',c',e1,hs'⟩ := h2 k p hp
 obtain ⟨cs,h4,h5,h6,_⟩ := hc k _ e1
 exact ⟨cs,h4,h5,A',c',h6,hs'⟩
theorem owns_empty_at (w : World) (b : Nat) (hb : w.heap.size = b) (e : TypeId) (sz : Nat) : (w.alloc (.cells #[] e)).ownsRow b e sz (.slice (some ⟨b,0,none⟩) 0 0) 0 [] := by
 subst hb;exact owns_empty w e sz
theorem SlAt.app {α : Type} {enc : α → List Value} {ok : α → Prop} {sz m b o : Nat} {w w' : World} {base : Nat} {e : TypeId} {size : Nat} {v : Value} {A' : Option Addr} {n' c' : Nat} {L' : List Value} {xs : List α} (h : SlAt (Flat enc ok) sz w (some ⟨b,o,none⟩) m xs) (hr : AppR w w' base e size v A' n' c' L') (hne : v.ownBlock ≠ some b) : SlAt (Flat enc ok) sz w' (some ⟨b,o,none⟩) m xs := by
 refine ⟨h.1,fun hm => ?_⟩
 obtain ⟨b',o',e1,hb,hc⟩ := h.2 hm
 injection e1 with e1;injection e1 with e1 e2;subst e1 e2
 refine ⟨b,o,rfl,Nat.lt_of_lt_of_le hb hr.size,fun k x hx => ?_⟩
 obtain ⟨cs,h1,h2,h3⟩ := hc k x hx
 exact ⟨cs,h1,fun j u hu => hr.cell (h2 j u hu) hne,h3⟩
theorem l04Times_c (ps : List Int) (ns : List Node) (up : List Bool) (pl : List (List Pt)) (lic : List Pt) (fr : Int) (v : Value) (w : World) (h : RoomAt w ps ns up (pl,lic) v) (hr : roomB ps ns up pl lic = true) (hfr : In64 fr) : Calls Tryz.prog 120 #[v,.int .i64 fr] w (RetNums w 5001) := by
 obtain ⟨i1,hi1,hJ0,hJ1,hJ2⟩ := info_parts CProf.info
 obtain ⟨hsm,hQ,_,_⟩ := roomB_sm hr
 obtain ⟨ht,hu,hl,hp,hq⟩ := roomB_parts hr
 simp only [] at hl hp hq
 obtain ⟨A1,c1,A2,c2,A3,c3,A4,c4,A5,c5,rfl,h1,h2,h3,h4,h5⟩ := h
 simp only [] at h4 h5 ⊢
 have H5 := Hh (fun (u : World) (e : Ext w u) => h5.ext (Flat.mono Pt.enc Pt.ok) e)
 obtain ⟨hs,g4,h4i⟩ := rpf_items h4
 have H4 := Hh (fun (u : World) (e : Ext w u) => g4.ext (Flat.mono encH (fun _ => True)) e)
 have HI4 := Hh (fun (u : World) (e : Ext w u) (k : Nat) (p : List Pt) (hk : pl[k]? = some p) => show ∃ A' c',hs[k]? = some (⟨A',p.length,c'⟩ : HItem) ∧ SlAt RPt 4 u A' p.length p from by
  obtain ⟨A',c',e1,e2⟩ := h4i k p hk
  exact ⟨A',c',e1,e2.ext (Flat.mono _ _) e⟩)
 have HHL := Hh g4.len
 have HPL := Hh (fun (p : List Pt) (hm : p ∈ pl ++ [lic]) => show p.length ≤ 200 from by
  rcases List.mem_append.1 hm with hm | hm
  ·exact (profB_parts (hp p hm)).2.1
  ·rw [List.mem_singleton.1 hm];exact (profB_parts hq).2.1)
 have HFR := Hh hfr
 clear h1 h2 h3 h4 h5 g4 h4i hr hsm ht hu hl hp hq hfr
 have HLM := Hh (show (pl ++ [lic]).length = pl.length + 1 by simp)
 generalize ps.length = np at *
 generalize ns.length = nn at *
 generalize up.length = nu at *
 generalize hm' : pl.length = m at *
 have HM := Hh hm'
 clear hm'
 go_enter Tryz.func120,Tryz.ntmps120
 go_upto_region 2 with fail
 obtain ⟨z0,z1,z2,z3,z4⟩ := bc5 w (w.heap.size) (.slice A1 np c1) (.slice A2 nn c2) (.slice A3 nu c3) (.slice A4 m c4) (.slice A5 lic.length c5) 73 (((Ext.refl _).alloc (.cells #[.int .i64 fr] 3))) (by simp)
 obtain ⟨zf0,zf1,zf2,zf3,zf4⟩ := bf5 w (w.heap.size) (.slice A1 np c1) (.slice A2 nn c2) (.slice A3 nu c3) (.slice A4 m c4) (.slice A5 lic.length c5) 73 (((Ext.refl _).alloc (.cells #[.int .i64 fr] 3))) (by simp)
 have HSO := Hh (show SlAt RInt 1 ((w.alloc (.cells #[.slice A1 np c1,.slice A2 nn c2,.slice A3 nu c3,.slice A4 m c4,.slice A5 lic.length c5] 73)).alloc (.cells #[.int .i64 fr] 3)) (some ⟨w.heap.size + 1,0,none⟩) 1 [fr] from sl_one_at (enc := encInt) (ok := In64) (w.alloc (.cells #[.slice A1 np c1,.slice A2 nn c2,.slice A3 nu c3,.slice A4 m c4,.slice A5 lic.length c5] 73)) (w.heap.size + 1) (by simp) fr 3 rfl HFR.out)
 have EW := Hh (show Ext w ((w.alloc (.cells #[.slice A1 np c1,.slice A2 nn c2,.slice A3 nu c3,.slice A4 m c4,.slice A5 lic.length c5] 73)).alloc (.cells #[.int .i64 fr] 3)) from ((Ext.refl w).alloc _).alloc _)
 clear z0 z1 z2 zf0 zf1 zf2 zf3 zf4
 generalize ((w.alloc (.cells #[.slice A1 np c1,.slice A2 nn c2,.slice A3 nu c3,.slice A4 m c4,.slice A5 lic.length c5] 73)).alloc (.cells #[.int .i64 fr] 3)) = W at *
 have hz4 := lt_of_cell z4
 simp only [] at hz4
 have HZ3 := Hh z3
 have HZ4 := Hh z4
 go_cut [19,20,21] from 12 to 21 (fun s19 s20 s21 wx => ∃ A7 c7,s19 = .slice A7 (m + 1) c7 ∧ s20 = .int .i64 ((m : Int) + 1) ∧ s21 = .int .i64 0 ∧ Hid (SlAt RPf 1 wx A7 (m + 1) (pl ++ [lic])) ∧ Ext W wx)
 case first =>
  go_region_law (first
   | (refine step_append_r (enc := encH) (ok := fun _ => True) (by rfl) _ _ _ (by rfl) W.heap.size 71 i1 _ 1 24 Tryz.underlying68 hi1 hJ0 hJ1 hJ2 rfl (by omega) _ 0 [] A4 m c4 hs m (by simp) (by rfl) (by rfl) (by first | exact owns_empty_at W.drew W.heap.size (by simp) 71 1 | exact owns_ext (owns_empty_at W.drew W.heap.size (by simp) 71 1) ((Ext.refl _).alloc _) | exact owns_base (owns_empty_at (W.drew.alloc (.cells #[.slice A5 lic.length c5] 71)) (W.heap.size + 1) (by simp) 71 1) (by simp)) (H4.out _ (EW.out.trans (by first | exact ((Ext.refl _).drew).alloc _ | exact (((Ext.refl _).drew).alloc _).alloc _))) (fun _ => rfl) encH_one (by unfold maxLen;omega) (by omega) (by simp;try omega) ?_;intro A8 c8 w3 hr3;have HR3 := Hh hr3;simp only [List.nil_append] at hr3;have HX3 := Hh (show Ext W w3 from ext_turned (by first | exact ((Ext.refl _).drew).alloc _ | exact (((Ext.refl _).drew).alloc _).alloc _) (hr3.turned (lo := W.heap.size) (fun q hq => by first | (cases hq;exact Nat.le_refl _) | (cases hq;simp))) (Nat.le_refl _));have y4 := HX3.out.cell HZ4.out;have hy4 := lt_of_cell y4;clear hr3)
   | (refine step_append_r (enc := encH) (ok := fun _ => True) (by rfl) _ _ _ (by rfl) W.heap.size 71 i1 _ 1 24 Tryz.underlying68 hi1 hJ0 hJ1 hJ2 rfl (by omega) _ m (hs.flatMap encH) _ 1 1 [(⟨A5,lic.length,c5⟩ : HItem)] (m + 1) rfl (by rfl) (by rfl) (by first | exact HR3.out.row | exact owns_ext HR3.out.row ((Ext.refl _).alloc _)) (by first | exact sl_one_r w3 (⟨A5,lic.length,c5⟩ : HItem) 71 rfl trivial | exact SlAt.app (enc := encH) (sl_one_at (W.drew.alloc (.cells #[] 71)) (W.heap.size + 1) (by simp) (⟨A5,lic.length,c5⟩ : HItem) 71 rfl trivial) HR3.out (by intro hh;have h2 := Option.some.inj (show some W.heap.size = some (W.heap.size + 1) from hh);omega) | exact SlAt.app (enc := encH) ((sl_one_at W.drew W.heap.size (by simp) (⟨A5,lic.length,c5⟩ : HItem) 71 rfl trivial).ext (Flat.mono _ _) ((Ext.refl _).alloc _)) HR3.out (by intro hh;have h2 := Option.some.inj (show some (W.heap.size + 1) = some W.heap.size from hh);omega)) (fun _ => rfl) encH_one (by unfold maxLen;omega) (by omega) (by have := HX3.out.le;simp;try omega) ?_;intro A7 c7 w9 hr9;have HR9 := Hh hr9.row;have HX9 := Hh (show Ext W w9 from ext_turned (by first | exact HX3.out | exact HX3.out.alloc _) (hr9.turned (lo := W.heap.size) (fun q hq => (HR3.out.row.lt q hq).1)) (Nat.le_refl _));clear hr9))
  all_goals
   have EX9 := Hh (show Ext w w9 from EW.out.trans HX9.out)
   skip
   have HS9 := Hh (show SlAt RPf 1 w9 A7 (m + 1) (pl ++ [lic]) from by
    refine items_rpf (hs := hs ++ [(⟨A5,lic.length,c5⟩ : HItem)]) (by have h := HR9.out;rw [List.flatMap_append];exact h) (by rw [List.length_append,HHL.out];rfl) HLM.out (fun k p hk => ?_)
    rcases Nat.lt_or_ge k m with hkm | hkm
    ·rw [List.getElem?_append_left (by rw [HM.out];exact hkm)] at hk
     rw [List.getElem?_append_left (by rw [HHL.out];exact hkm)]
     exact HI4.out w9 EX9.out k p hk
    ·have hk2 : k = m := by have := (List.getElem?_eq_some_iff.1 hk).1;rw [HLM.out] at this;omega
     subst hk2
     rw [List.getElem?_append_right (by rw [HM.out];exact Nat.le_refl _),HM.out] at hk
     rw [List.getElem?_append_right (by rw [HHL.out];exact Nat.le_refl _),HHL.out]
     simp only [Nat.sub_self,List.getElem?_cons_zero,Option.some.injEq] at hk ⊢
     subst hk
     exact ⟨A5,c5,rfl,H5.out w9 EX9.out⟩)
   go_wp2_with fail
   go_meet
   exact ⟨A7,c7,rfl,by first | rfl | simp,rfl,HS9,HX9.out⟩
 case rest =>
  obtain ⟨A7,c7,rfl,rfl,rfl,HS9,hx9⟩ := hcut
  have EX9 := Hh (show Ext w wc from EW.out.trans hx9)
  have HSO9 := Hh (show SlAt RInt 1 wc (some ⟨w.heap.size + 1,0,none⟩) 1 [fr] from HSO.out.ext (Flat.mono _ _) hx9)
  have HP9 := Hh (fun (u : World) (e : Ext wc u) => HS9.out.ext RPf.mono e)
  have hwl : w.heap.size < wc.heap.size := by have := EX9.out.le;have := hx9.le;omega
  clear HSO EW H4 H5 HI4 HHL HS9 z3 z4 hz4 HZ3 HZ4 hJ0 hJ1 hJ2 hi1 HLM HM
  clear i1 HFR
  go_wp2
  go_loopw [5,21] (fun l iv wr => ∃ (k a : Nat) (A6 : Option Addr) (c6 : Nat) (xs : List Int),k ≤ m + 1 ∧ iv = .int .i64 k ∧ l = .slice A6 a c6 ∧ a ≤ 1 + 200 * k ∧ Hid (SlAt RInt 1 wr A6 a xs) ∧ Ext wc wr) (fun _ iv _ => (m + 1) - (intOf iv).toNat)
  case atStart => exact ⟨0,1,_,1,[fr],Nat.zero_le _,rfl,rfl,by omega,HSO9,Ext.refl _⟩
  case round =>
   clear HSO9
   obtain ⟨k,a,A6,c6,xs,hk,rfl,rfl,hak,HS,hb⟩ := hrel
   by_cases hlt : k < m + 1
   ·obtain ⟨bo,oo,x,cs,hD,hbw,hx,_,hc,Ap,cp,rfl,hsx⟩ := (HP9.out wr hb).at_ hlt
    subst hD
    have g0 := hc 0 _ rfl
    simp only [Nat.mul_one,Nat.add_zero] at g0
    have hxl : x.length ≤ 200 := HPL.out x (List.mem_of_getElem? hx)
    have HX := Hh (fun (u : World) (e : Ext wr u) => hsx.ext (Flat.mono Pt.enc Pt.ok) e)
    clear hx hc hsx
    generalize x.length = xl at *
    obtain ⟨wo,rfl⟩ : ∃ wo,wo = wr := ⟨_,rfl⟩
    have hkd : decide (k < m + 1) = true := decide_eq_true hlt
    have hkd2 : decide ((k : Int) < ((m + 1 : Nat) : Int)) = true := by rw [decide_eq_true_iff];omega
    have hkd3 : decide ((k : Int) < (m : Int) + 1) = true := by rw [decide_eq_true_iff];omega
    go_wp2
    go_loopw [5,28] (fun l jv wq => ∃ (j a' : Nat) (A3 : Option Addr) (c3 : Nat) (ys : List Int),j ≤ xl ∧ jv = .int .i64 j ∧ l = .slice A3 a' c3 ∧ a' ≤ 1 + 200 * k + j ∧ Hid (SlAt RInt 1 wq A3 a' ys) ∧ Ext wo wq) (fun _ jv _ => xl - (intOf jv).toNat)
    case atStart => exact ⟨0,a,A6,c6,xs,Nat.zero_le _,rfl,rfl,by omega,Hh (HS.out.ext (Flat.mono _ _) ((Ext.refl _).alloc _)),(Ext.refl _).alloc _⟩
    case round =>
     clear HS hak g0
     obtain ⟨j,a',A3,c3,ys,hj,rfl,rfl,haj,HY,hbq⟩ := hrel
     by_cases hlt2 : j < xl
     ·obtain ⟨bp,op,y,cs2,hD2,hbw2,hy,_,hc2,rfl,hyok⟩ := (HX.out wr hbq).at_ hlt2
      subst hD2
      have y0 := hc2 0 _ rfl
      have y1 := hc2 1 _ rfl
      have y2 := hc2 2 _ rfl
      have y3 := hc2 3 _ rfl
      simp only [Nat.add_zero] at y0
      have HYO := Hh hyok.1
      clear hy hc2 hyok
      by_cases hg : fr < y.At
      ·have hgd : decide (fr < y.At) = true := decide_eq_true hg
       clear hg
       go_wp2_with fail
       refine (l02Has_c ys y.At A3 a' c3 _ (HY.out.ext (Flat.mono _ _) ((Ext.refl _).alloc _)) (by unfold maxLen;omega)).mono ?_
       rintro e w5 ⟨rfl,hb5⟩
       have HY5 := Hh ((HY.out.ext (Flat.mono encInt In64) ((Ext.refl _).alloc (.cells #[.int .i64 y.At,.int .i64 y.Free.A,.int .i64 y.Free.B,.int .i64 y.Free.C] 133))).ext (Flat.mono encInt In64) hb5)
       have E5 := hbq.trans (((Ext.refl _).alloc _).trans hb5)
       generalize ys.contains y.At = b at *
       rcases b with _ | _
       ·obtain ⟨q0,q1,q2,q3⟩ := bc4 wr (wr.heap.size) (.int .i64 y.At) (.int .i64 y.Free.A) (.int .i64 y.Free.B) (.int .i64 y.Free.C) 133 ((hb5)) (by simp)
        obtain ⟨qf0,qf1,qf2,qf3⟩ := bf4 wr (wr.heap.size) (.int .i64 y.At) (.int .i64 y.Free.A) (.int .i64 y.Free.B) (.int .i64 y.Free.C) 133 ((hb5)) (by simp)
        have hq0 := lt_of_cell q0
        clear hb5 HY y0 y1 y2 y3
        go_wp2_with fail
        refine (l04Rise_c ys y.At A3 a' c3 w5 HY5.out (by omega) HYO.out).mono ?_
        rintro e w6 ⟨A8,c8,rfl,ho6,hb6⟩
        have HIN := Hh (show ∀ z ∈ riseGo y.At ys false,In64 z from fun z hz => by
         rcases rise_mem _ _ _ z hz with rfl | hz
         ·exact HYO.out
         ·exact HY5.out.all z hz)
        have HSL := Hh (show SlAt RInt 1 w6 A8 (a' + 1) (riseGo y.At ys false) from by
         have h1 := rise_len y.At ys false
         rw [HY5.out.len] at h1
         have h2 := owns_sl encInt_size ho6 HIN.out
         rw [h1] at h2;exact h2)
        have HRL := Hh (show (riseGo y.At ys false).length = a' + 1 from by have h1 := rise_len y.At ys false;rw [HY5.out.len] at h1;exact h1)
        rw [HRL.out]
        clear ho6
        go_wp2
        go_roundw
        case rel => exact ⟨j + 1,a' + 1,A8,c8,riseGo y.At ys false,by omega,by go_num,rfl,by omega,HSL,E5.trans hb6⟩
        case measure => simp [intOf];omega
       ·go_wp2
        go_roundw
        case rel => exact ⟨j + 1,a',A3,c3,ys,by omega,by go_num,rfl,by omega,HY5,E5⟩
        case measure => simp [intOf];omega
      ·have hgd : decide (fr < y.At) = false := decide_eq_false hg
       clear hg
       go_wp2
       go_roundw
       case rel => exact ⟨j + 1,a',A3,c3,ys,by omega,by go_num,rfl,by omega,Hh (HY.out.ext (Flat.mono _ _) ((Ext.refl _).alloc _)),hbq.alloc _⟩
       case measure => simp [intOf];omega
     ·obtain rfl : j = xl := by omega
      go_wp2
      go_roundw
      case rel => exact ⟨k + 1,a',A3,c3,ys,by omega,by go_num,rfl,by omega,HY,hb.trans hbq⟩
      case measure => simp [intOf];omega
   ·obtain rfl : k = m + 1 := by omega
    go_wp2
    exact ret_nums rfl HS.out (by omega) (EX9.out.trans hb)
end Go.Proofs.YtfanjhcdjbnnnaaGreat
