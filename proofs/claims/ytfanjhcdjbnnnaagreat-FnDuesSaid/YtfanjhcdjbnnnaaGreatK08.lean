/- Room1, Room2, Room3. -/
import Derived.Test.YtfanjhcdjbnnnaaGreatK07
import Derived.Deep.RegionLaw
import Derived.Deep.CutRange
namespace Go.Proofs.YtfanjhcdjbnnnaaGreat
open Go.RowKit
set_option linter.unusedVariables false
set_option maxHeartbeats 16000000
set_option maxRecDepth 10000
theorem ProfTake_c (xs : List Pt) (fr tto : Int) (v : Vec) (A : Option Addr) (n c : Nat) (w : World) (h : SlAt RPt 4 w A n xs) (hl : n ≤ maxLen) : Calls Tryz.prog 49 #[.agg #[.slice A n c],.int .i64 fr,.int .i64 tto,.agg #[.int .i64 v.A,.int .i64 v.B,.int .i64 v.C]] w (RetP w (takeQ xs fr tto v)) := by
 have hM := Flat.mono Pt.enc Pt.ok
 have HPO := Hh (fun (u : World) (e : Ext w u) => ProfOk_c xs A n c u (h.ext hM e) hl)
 have HCH := Hh (fun (u : World) (e : Ext w u) (hp : profB xs = true) (hs : spanT fr tto = true) => changed_c xs fr tto (fun x => subV x v) (fitsB v) 83 #[.pointer (some ⟨w.heap.size + 1,0,none⟩)] A n c u (h.ext hM e) hp hs (fun x hx hb => byV_ok (v := v) (x := x) (by unfold byV;rw [if_pos hb])) Take1_run)
 have HSP := Hh (fun u : World => isSpan_c fr tto u)
 have HVO := Hh (fun u : World => VecOk_c v u)
 have HQ := Hh (show takeQ xs fr tto v = if (profB xs && spanB fr tto && vecB v) = true then takeP xs fr tto v else none from rfl)
 have HTP := Hh (show takeP xs fr tto v = takeG xs fr tto (byG (fun x => subV x v) (fitsB v)) from rfl)
 clear h
 generalize takeQ xs fr tto v = R at *
 rcases (Bool.eq_false_or_eq_true (profB xs)).symm with h1 | h1
 all_goals rw [h1] at HPO HQ
 ·have HN := Hh (show R = none by rw [HQ.out];rfl)
  clear HQ HTP h1 HCH
  go_enter Tryz.func49,Tryz.ntmps49
  go_wp2_with fail
  refine (HPO.out _ Ext.go).mono ?_
  rintro e w1 ⟨rfl,hb1⟩
  obtain ⟨hcr1,hfr1,hz1⟩ := hb1.rules
  (try simp at hz1)
  have hy1_w0 : w.heap.size < w1.heap.size := (by omega)
  have hy1_w1 : w.heap.size + 1 < w1.heap.size := (by omega)
  have hy1_w2 : w.heap.size + 1 + 1 < w1.heap.size := (by omega)
  have q0 := bc1 ((w.alloc (.cells #[.slice A n c] 71)).alloc (.cells #[.int .i64 v.A,.int .i64 v.B,.int .i64 v.C] 29)) (w.heap.size + 1 + 1) (.slice none 0 0) 71 ((hb1)) (by simp)
  have qf0 := bf1 ((w.alloc (.cells #[.slice A n c] 71)).alloc (.cells #[.int .i64 v.A,.int .i64 v.B,.int .i64 v.C] 29)) (w.heap.size + 1 + 1) (.slice none 0 0) 71 ((hb1)) (by simp)
  go_wp2
  exact bodyPost_ret (v := .tuple #[.agg #[.slice none 0 0],.bool false]) (by simp [results,Tryz.results49,go_sem, *]) rfl (retP_none HN.out Ext.go)
 rcases (Bool.eq_false_or_eq_true (spanB fr tto)).symm with h2 | h2
 all_goals rw [h2] at HSP HQ
 ·have HN := Hh (show R = none by rw [HQ.out];rfl)
  clear HQ HTP h1 h2 HCH
  go_enter Tryz.func49,Tryz.ntmps49
  go_wp2_with fail
  refine (HPO.out _ Ext.go).mono ?_
  rintro e w1 ⟨rfl,hb1⟩
  obtain ⟨hcr1,hfr1,hz1⟩ := hb1.rules
  (try simp at hz1)
  have hy1_w0 : w.heap.size < w1.heap.size := (by omega)
  have hy1_w1 : w.heap.size + 1 < w1.heap.size := (by omega)
  have hy1_w2 : w.heap.size + 1 + 1 < w1.heap.size := (by omega)
  go_wp2_with fail
  refine (HSP.out _).mono ?_
  rintro e w2 ⟨rfl,rfl⟩
  have q0 := bc1 ((w.alloc (.cells #[.slice A n c] 71)).alloc (.cells #[.int .i64 v.A,.int .i64 v.B,.int .i64 v.C] 29)) (w.heap.size + 1 + 1) (.slice none 0 0) 71 ((hb1)) (by simp)
  have qf0 := bf1 ((w.alloc (.cells #[.slice A n c] 71)).alloc (.cells #[.int .i64 v.A,.int .i64 v.B,.int .i64 v.C] 29)) (w.heap.size + 1 + 1) (.slice none 0 0) 71 ((hb1)) (by simp)
  go_wp2
  exact bodyPost_ret (v := .tuple #[.agg #[.slice none 0 0],.bool false]) (by simp [results,Tryz.results49,go_sem, *]) rfl (retP_none HN.out Ext.go)
 rcases (Bool.eq_false_or_eq_true (vecB v)).symm with h3 | h3
 all_goals rw [h3] at HVO HQ
 ·have HN := Hh (show R = none by rw [HQ.out];rfl)
  clear HQ HTP h1 h2 h3 HCH
  go_enter Tryz.func49,Tryz.ntmps49
  go_wp2_with fail
  refine (HPO.out _ Ext.go).mono ?_
  rintro e w1 ⟨rfl,hb1⟩
  obtain ⟨hcr1,hfr1,hz1⟩ := hb1.rules
  (try simp at hz1)
  have hy1_w0 : w.heap.size < w1.heap.size := (by omega)
  have hy1_w1 : w.heap.size + 1 < w1.heap.size := (by omega)
  have hy1_w2 : w.heap.size + 1 + 1 < w1.heap.size := (by omega)
  go_wp2_with fail
  refine (HSP.out _).mono ?_
  rintro e w2 ⟨rfl,rfl⟩
  go_wp2_with fail
  refine (HVO.out _).mono ?_
  rintro e w3 ⟨rfl,hb3⟩
  obtain ⟨hcr3,hfr3,hz3⟩ := hb3.rules
  (try simp at hz3)
  have hy3_w0 : w.heap.size < w3.heap.size := (by omega)
  have hy3_w1 : w.heap.size + 1 < w3.heap.size := (by omega)
  have hy3_w2 : w.heap.size + 1 + 1 < w3.heap.size := (by omega)
  have q0 := bc1 ((w.alloc (.cells #[.slice A n c] 71)).alloc (.cells #[.int .i64 v.A,.int .i64 v.B,.int .i64 v.C] 29)) (w.heap.size + 1 + 1) (.slice none 0 0) 71 ((hb1.trans hb3)) (by simp)
  have qf0 := bf1 ((w.alloc (.cells #[.slice A n c] 71)).alloc (.cells #[.int .i64 v.A,.int .i64 v.B,.int .i64 v.C] 29)) (w.heap.size + 1 + 1) (.slice none 0 0) 71 ((hb1.trans hb3)) (by simp)
  go_wp2
  exact bodyPost_ret (v := .tuple #[.agg #[.slice none 0 0],.bool false]) (by simp [results,Tryz.results49,go_sem, *]) rfl (retP_none HN.out Ext.go)
 ·have HN := Hh (show R = takeG xs fr tto (byG (fun x => subV x v) (fitsB v)) by rw [HQ.out,HTP.out];rfl)
  have HCG := Hh (fun (u : World) (e : Ext w u) => HCH.out u e h1 (show spanB fr tto = true from h2))
  rw [← HN.out] at HCG
  clear HQ HTP h1 h2 h3 HCH HN
  go_enter Tryz.func49,Tryz.ntmps49
  go_wp2_with fail
  refine (HPO.out _ Ext.go).mono ?_
  rintro e w1 ⟨rfl,hb1⟩
  obtain ⟨hcr1,hfr1,hz1⟩ := hb1.rules
  (try simp at hz1)
  have hy1_w0 : w.heap.size < w1.heap.size := (by omega)
  have hy1_w1 : w.heap.size + 1 < w1.heap.size := (by omega)
  have hy1_w2 : w.heap.size + 1 + 1 < w1.heap.size := (by omega)
  go_wp2_with fail
  refine (HSP.out _).mono ?_
  rintro e w2 ⟨rfl,rfl⟩
  go_wp2_with fail
  refine (HVO.out _).mono ?_
  rintro e w3 ⟨rfl,hb3⟩
  obtain ⟨hcr3,hfr3,hz3⟩ := hb3.rules
  (try simp at hz3)
  have hy3_w0 : w.heap.size < w3.heap.size := (by omega)
  have hy3_w1 : w.heap.size + 1 < w3.heap.size := (by omega)
  have hy3_w2 : w.heap.size + 1 + 1 < w3.heap.size := (by omega)
  have hx3 : Ext w w3 := Ext.go
  obtain ⟨p0,p1,p2⟩ := bc3 (w.alloc (.cells #[.slice A n c] 71)) (w.heap.size + 1) (.int .i64 v.A) (.int .i64 v.B) (.int .i64 v.C) 29 ((((Ext.refl _).alloc _).trans (hb1.trans hb3))) (by simp)
  obtain ⟨pf0,pf1,pf2⟩ := bf3 (w.alloc (.cells #[.slice A n c] 71)) (w.heap.size + 1) (.int .i64 v.A) (.int .i64 v.B) (.int .i64 v.C) 29 ((((Ext.refl _).alloc _).trans (hb1.trans hb3))) (by simp)
  have hp1 : w.heap.size + 1 < w3.heap.size := by omega
  go_wp2_with fail
  refine (HCG.out _ hx3 (fun x u hu => Take1_c x v (w.heap.size + 1) u (Nat.lt_of_lt_of_le hp1 hu.le) (hu.cell p0) (hu.cell p1) (hu.cell p2))).mono ?_
  rintro e w5 ⟨A5,c5,l,rfl,hr,ho5,hy5,hb5⟩
  have HR := Hh hr
  have HO5 := Hh ho5
  have HY5 := Hh hy5
  have hz5 := hb5.le
  have hq5 : w.heap.size + 1 + 1 < w5.heap.size := by omega
  clear hr ho5 hy5
  have q0 := bc1 ((w.alloc (.cells #[.slice A n c] 71)).alloc (.cells #[.int .i64 v.A,.int .i64 v.B,.int .i64 v.C] 29)) (w.heap.size + 1 + 1) (.slice none 0 0) 71 ((hb1.trans (hb3.trans hb5))) (by simp)
  have qf0 := bf1 ((w.alloc (.cells #[.slice A n c] 71)).alloc (.cells #[.int .i64 v.A,.int .i64 v.B,.int .i64 v.C] 29)) (w.heap.size + 1 + 1) (.slice none 0 0) 71 ((hb1.trans (hb3.trans hb5))) (by simp)
  go_wp2
  exact bodyPost_ret (v := .tuple #[.agg #[.slice A5 l.length c5],.bool R.isSome]) (by simp [results,Tryz.results49,go_sem, *]) rfl ⟨A5,c5,l,rfl,HR.out,owns_base (own_set HO5.out (by omega)) (by omega),HY5.out,Ext.go⟩
theorem ProfNew_c (v : Vec) (w : World) : Calls Tryz.prog 76 #[.agg #[.int .i64 v.A,.int .i64 v.B,.int .i64 v.C]] w (RetP w (if vecB v = true then some [⟨0,v⟩] else none)) := by
 have HVO := Hh (fun u : World => VecOk_c v u)
 have HOK := Hh (fun (h : vecB v = true) => show Pt.ok ⟨0,v⟩ from pt_ok (t := 0) rfl h)
 rcases (Bool.eq_false_or_eq_true (vecB v)).symm with h1 | h1
 all_goals rw [h1] at HVO ⊢
 ·clear h1 HOK
  go_enter Tryz.func76,Tryz.ntmps76
  go_wp2_with fail
  refine (HVO.out _).mono ?_
  rintro e w1 ⟨rfl,hb1⟩
  obtain ⟨hcr1,hfr1,hz1⟩ := hb1.rules
  (try simp at hz1)
  have hy1_w0 : w.heap.size < w1.heap.size := (by omega)
  have hy1_w1 : w.heap.size + 1 < w1.heap.size := (by omega)
  have q0 := bc1 (w.alloc (.cells #[.int .i64 v.A,.int .i64 v.B,.int .i64 v.C] 29)) (w.heap.size + 1) (.slice none 0 0) 71 ((hb1)) (by simp)
  have qf0 := bf1 (w.alloc (.cells #[.int .i64 v.A,.int .i64 v.B,.int .i64 v.C] 29)) (w.heap.size + 1) (.slice none 0 0) 71 ((hb1)) (by simp)
  go_wp2
  exact bodyPost_ret (v := .tuple #[.agg #[.slice none 0 0],.bool false]) (by simp [results,Tryz.results76,go_sem, *]) rfl (retP_none rfl Ext.go)
 ·have HK := Hh (HOK.out h1)
  clear h1 HOK
  go_enter Tryz.func76,Tryz.ntmps76
  go_wp2_with fail
  refine (HVO.out _).mono ?_
  rintro e w1 ⟨rfl,hb1⟩
  obtain ⟨hcr1,hfr1,hz1⟩ := hb1.rules
  (try simp at hz1)
  have hy1_w0 : w.heap.size < w1.heap.size := (by omega)
  have hy1_w1 : w.heap.size + 1 < w1.heap.size := (by omega)
  have q0 := bc1 (w.alloc (.cells #[.int .i64 v.A,.int .i64 v.B,.int .i64 v.C] 29)) (w.heap.size + 1) (.slice none 0 0) 71 ((hb1)) (by simp)
  have qf0 := bf1 (w.alloc (.cells #[.int .i64 v.A,.int .i64 v.B,.int .i64 v.C] 29)) (w.heap.size + 1) (.slice none 0 0) 71 ((hb1)) (by simp)
  go_wp2
  exact bodyPost_ret (v := .tuple #[.agg #[.slice (some ⟨w1.heap.size,0,none⟩) 1 1],.bool true]) (by simp [results,Tryz.results76,go_sem, *]) rfl ⟨_,_,[⟨0,v⟩],rfl,.inl rfl,box_after w1 _ _ (Pt.enc ⟨0,v⟩) 133 4 rfl (by omega),fun y hy => by rw [List.mem_singleton.1 hy];exact HK.out,Ext.go⟩
theorem CInt.info : (Tryz.prog.info? 3).map (fun i => (i.zero,i.size,i.bytes)) = some (some (.int .i64 0),1,8) := by kernel_rfl
theorem CNode.info : (Tryz.prog.info? 85).map (fun i => (i.zero,i.size,i.bytes)) = some (some (.agg #[.int .i64 0,.int .i64 0,.int .i64 0,.int .i64 0]),4,32) := by kernel_rfl
theorem CPt.info : (Tryz.prog.info? 133).map (fun i => (i.zero,i.size,i.bytes)) = some (some (.agg #[.int .i64 0,.int .i64 0,.int .i64 0,.int .i64 0]),4,32) := by kernel_rfl
theorem CBool.info : (Tryz.prog.info? 4).map (fun i => (i.zero,i.size,i.bytes)) = some (some (.bool false),1,1) := by kernel_rfl
theorem CProf.info : (Tryz.prog.info? 71).map (fun i => (i.zero,i.size,i.bytes)) = some (some (.agg #[.slice none 0 0]),1,24) := by kernel_rfl
theorem node_one (y : Node) : ∀ u ∈ y.enc,u.oneCell' = true := by
 intro u hu;simp [Node.enc] at hu;rcases hu with rfl | rfl | rfl | rfl <;> rfl
def RetInts (w : World) (xs : List Int) : Ending → World → Prop := fun e w' => ∃ A c,e = .returned (.slice A xs.length c) ∧ w'.ownsRow w.heap.size 3 1 (.slice A xs.length c) xs.length (xs.flatMap encInt) ∧ Ext w w'
def RetProf (w : World) (xs : List Pt) : Ending → World → Prop := fun e w' => ∃ A c,e = .returned (.agg #[.slice A xs.length c]) ∧ w'.ownsRow w.heap.size 133 4 (.slice A xs.length c) xs.length (xs.flatMap Pt.enc) ∧ Ext w w'
def RetTopo (w : World) (ps : List Int) (ns : List Node) : Ending → World → Prop := fun e w' => ∃ A c B d,e = .returned (.agg #[.slice A ps.length c,.slice B ns.length d]) ∧ w'.ownsRow w.heap.size 3 1 (.slice A ps.length c) ps.length (ps.flatMap encInt) ∧ w'.ownsRow w.heap.size 85 4 (.slice B ns.length d) ns.length (ns.flatMap Node.enc) ∧ Ext w w'
theorem copyInts_r (xs : List Int) (A : Option Addr) (n c : Nat) (w : World) (h : SlAt RInt 1 w A n xs) (hl : n ≤ 1048576) : Calls Tryz.prog 100 #[.slice A n c] w (RetInts w xs) := by
 obtain ⟨i0,hi,hI0,hI1,hI2⟩ := info_parts CInt.info
 obtain rfl := h.len
 go_enter Tryz.func100,Tryz.ntmps100
 go_wp2_with (at_builtin;go_must (refine wpList_append_r (.const (.slice none 0 0)) (.tmp 3) _ w.heap.size 3 i0 _ 1 8 (.slice none 0 0) 0 [] A xs.length c xs rfl rfl Tryz.underlying23 hi hI0 hI1 hI2 rfl (by omega) rfl (World.ownsRow_nil _ _ _ _) rfl h (fun _ => rfl) cInt_one (by unfold maxLen;omega) (by omega) (Nat.le_refl _) ?_);intro A1 c1 w1 hr1)
 have hb1 := hr1.ext_nil
 have HO := Hh hr1.row
 simp only [Nat.zero_add,List.nil_append] at HO
 clear hr1
 go_wp2
 exact bodyPost_ret (results_tmp rfl _ _ _) rfl ⟨A1,c1,by simp,HO.out,hb1⟩
theorem copyProf_c (xs : List Pt) (A : Option Addr) (n c : Nat) (w : World) (h : SlAt RPt 4 w A n xs) (hl : n ≤ 1048576) : Calls Tryz.prog 101 #[.agg #[.slice A n c]] w (RetProf w xs) := by
 obtain ⟨i0,hi,hI0,hI1,hI2⟩ := info_parts CPt.info
 obtain rfl := h.len
 have HS := Hh (fun (u : World) (e : Ext w u) => h.ext (Flat.mono Pt.enc Pt.ok) e)
 clear h
 go_enter Tryz.func101,Tryz.ntmps101
 go_wp2_with (at_builtin;go_must (refine wpList_append_r (enc := Pt.enc) (ok := Pt.ok) (.const (.slice none 0 0)) (.tmp 4) _ (w.heap.size + 1 + 1) 133 i0 _ 4 32 (.slice none 0 0) 0 [] A xs.length c xs rfl rfl Tryz.underlying69 hi hI0 hI1 hI2 rfl (by omega) rfl (World.ownsRow_nil _ _ _ _) rfl (HS.out _ Ext.go) Pt.size pt_one (by unfold maxLen;omega) (by omega) (by simp) ?_);intro A1 c1 w1 hr1;have hb1 := hr1.ext_nil;have HO := Hh hr1.row;have hz1 := hb1.le;simp at hz1;clear hr1;have q0 := hb1.cell (cell_box_at (w.alloc (.cells #[.slice A xs.length c] 71)) (w.heap.size + 1) (by simp) [.slice none 0 0] 71 0 _ rfl);have qf0 := (hb1.frozenEq (a := ⟨w.heap.size + 1,0,none⟩) (by simp)).trans (frozen_box_at (w.alloc (.cells #[.slice A xs.length c] 71)) (w.heap.size + 1) (by simp) #[.slice none 0 0] 71 0);have hq := lt_of_cell q0)
 simp only [Nat.zero_add,List.nil_append] at HO ⊢
 go_wp2
 exact bodyPost_ret (v := .agg #[.slice A1 xs.length c1]) (by simp [results,Tryz.results101,go_sem, *]) rfl ⟨A1,c1,rfl,owns_base (own_set HO.out (by omega)) (by omega),Ext.go⟩
theorem copyTopo_c (ps : List Int) (ns : List Node) (A : Option Addr) (n c : Nat) (B : Option Addr) (m d : Nat) (w : World) (h : SlAt RInt 1 w A n ps) (hl : n ≤ 1048576) (h2 : SlAt RNode 4 w B m ns) (hl2 : m ≤ 1048576) : Calls Tryz.prog 75 #[.agg #[.slice A n c,.slice B m d]] w (RetTopo w ps ns) := by
 obtain ⟨i0,hi,hI0,hI1,hI2⟩ := info_parts CNode.info
 obtain rfl := h.len
 obtain rfl := h2.len
 have HS := Hh (fun (u : World) (e : Ext w u) => h2.ext (Flat.mono Node.enc Node.ok) e)
 have HC := Hh (fun (u : World) (e : Ext w u) => copyInts_r ps A ps.length c u (h.ext (Flat.mono _ _) e) hl)
 clear h h2
 go_enter Tryz.func75,Tryz.ntmps75
 go_wp2
 go_region_law (first | (go_simp;go_at_call 100;(with_reducible refine (HC.out _ Ext.go).mono ?_);rintro e w2 ⟨A2,c2,rfl,ho2,hb2⟩;have HO2 := Hh (owns_base ho2 (show w.heap.size + 1 + 1 ≤ _ from (by first | omega | (simp;omega) | simp)));have hz2 := hb2.le;(try simp at hz2);have HZ2 := Hh (show Ext ((w.alloc (.cells #[.slice A ps.length c,.slice B ns.length d] 26)).alloc (.cells #[.slice none 0 0,.slice none 0 0] 26)) w2 from (by first | exact ((Ext.refl _).drew).trans hb2 | exact HZ3.out.trans hb2));have HX2 := Hh (((Ext.refl (w.alloc (.cells #[.slice A ps.length c,.slice B ns.length d] 26))).alloc _).trans HZ2.out);have y20 := HX2.out.cell (cell_box_at w w.heap.size rfl [.slice A ps.length c,.slice B ns.length d] 26 0 _ rfl);have y21 := HX2.out.cell (cell_box_at w w.heap.size rfl [.slice A ps.length c,.slice B ns.length d] 26 1 _ rfl);have q20 := HZ2.out.cell (cell_box_at (w.alloc (.cells #[.slice A ps.length c,.slice B ns.length d] 26)) (w.heap.size + 1) (by simp) [.slice none 0 0,.slice none 0 0] 26 0 _ rfl);have q21 := HZ2.out.cell (cell_box_at (w.alloc (.cells #[.slice A ps.length c,.slice B ns.length d] 26)) (w.heap.size + 1) (by simp) [.slice none 0 0,.slice none 0 0] 26 1 _ rfl);have qf20 := (HZ2.out.frozenEq (a := ⟨w.heap.size + 1,0,none⟩) (by simp)).trans (frozen_box_at (w.alloc (.cells #[.slice A ps.length c,.slice B ns.length d] 26)) (w.heap.size + 1) (by simp) #[.slice none 0 0,.slice none 0 0] 26 0);have qf21 := (HZ2.out.frozenEq (a := ⟨w.heap.size + 1,1,none⟩) (by simp)).trans (frozen_box_at (w.alloc (.cells #[.slice A ps.length c,.slice B ns.length d] 26)) (w.heap.size + 1) (by simp) #[.slice none 0 0,.slice none 0 0] 26 1);have hq2 := lt_of_cell q20;have hy2 := lt_of_cell y20;have e2 : Ext w w2 := ((Ext.refl w).alloc _).trans HX2.out;clear ho2) | (refine step_append_r (enc := Node.enc) (ok := Node.ok) (by rfl) _ _ _ (by rfl) (w.heap.size + 1 + 1) 85 i0 _ 4 32 Tryz.underlying24 hi hI0 hI1 hI2 rfl (by omega) (.slice none 0 0) 0 [] B ns.length d ns ns.length (by simp) (by rfl) (by rfl) (World.ownsRow_nil _ _ _ _) (HS.out _ Ext.go) Node.size node_one (by unfold maxLen;omega) (by omega) (by first | omega | (simp;omega)) ?_;intro A3 c3 w3 hr3;have hb3 := hr3.ext_nil;have HO3 := Hh hr3.row;have hz3 := hb3.le;(try simp at hz3);have HZ3 := Hh (show Ext ((w.alloc (.cells #[.slice A ps.length c,.slice B ns.length d] 26)).alloc (.cells #[.slice none 0 0,.slice none 0 0] 26)) w3 from (by first | exact ((Ext.refl _).drew).trans hb3 | exact HZ2.out.trans hb3));have HX3 := Hh (((Ext.refl (w.alloc (.cells #[.slice A ps.length c,.slice B ns.length d] 26))).alloc _).trans HZ3.out);have y30 := HX3.out.cell (cell_box_at w w.heap.size rfl [.slice A ps.length c,.slice B ns.length d] 26 0 _ rfl);have y31 := HX3.out.cell (cell_box_at w w.heap.size rfl [.slice A ps.length c,.slice B ns.length d] 26 1 _ rfl);have q30 := HZ3.out.cell (cell_box_at (w.alloc (.cells #[.slice A ps.length c,.slice B ns.length d] 26)) (w.heap.size + 1) (by simp) [.slice none 0 0,.slice none 0 0] 26 0 _ rfl);have q31 := HZ3.out.cell (cell_box_at (w.alloc (.cells #[.slice A ps.length c,.slice B ns.length d] 26)) (w.heap.size + 1) (by simp) [.slice none 0 0,.slice none 0 0] 26 1 _ rfl);have qf30 := (HZ3.out.frozenEq (a := ⟨w.heap.size + 1,0,none⟩) (by simp)).trans (frozen_box_at (w.alloc (.cells #[.slice A ps.length c,.slice B ns.length d] 26)) (w.heap.size + 1) (by simp) #[.slice none 0 0,.slice none 0 0] 26 0);have qf31 := (HZ3.out.frozenEq (a := ⟨w.heap.size + 1,1,none⟩) (by simp)).trans (frozen_box_at (w.alloc (.cells #[.slice A ps.length c,.slice B ns.length d] 26)) (w.heap.size + 1) (by simp) #[.slice none 0 0,.slice none 0 0] 26 1);have hq3 := lt_of_cell q30;have hy3 := lt_of_cell y30;have e3 : Ext w w3 := ((Ext.refl w).alloc _).trans HX3.out;clear hr3))
 all_goals
  simp only [List.nil_append] at HO3
  go_wp2
  exact bodyPost_ret (v := .agg #[.slice A2 ps.length c2,.slice A3 ns.length c3]) (by simp [results,Tryz.results75,go_sem, *]) rfl ⟨A2,c2,A3,c3,rfl,owns_base (own_set (own_set (by first | exact HO2.out | exact owns_ext HO2.out hb3) (by omega)) (by omega)) (by omega),owns_base (own_set (own_set (by first | exact HO3.out | exact owns_ext HO3.out hb2) (by omega)) (by omega)) (by omega),Ext.go⟩
section
variable {w w' : World} {lo lo' g p : Nat} {u : Value} {ps : List Int} {ns : List Node} {up : List Bool} {pl : List (List Pt)} {lic : List Pt} {A1 : Option Addr} {c1 : Nat} {A2 : Option Addr} {c2 : Nat} {A3 : Option Addr} {c3 : Nat} {A4 : Option Addr} {c4 : Nat} {A5 : Option Addr} {c5 : Nat}
theorem PO.far {A : Option Addr} {n c : Nat} {qs : List (List Pt)} {e : TypeId} {sz : Nat} {L0 : List Value} (h : PO w lo A n c qs) (hbox : w.ownsRow lo' e sz (.slice (some ⟨g,0,none⟩) 1 1) 1 L0) (h1 : 71 ≠ e) (h2 : 133 ≠ e) : PO (w.setCell ⟨g,p,none⟩ u) lo A n c qs := by
 obtain ⟨hl,L,ho,hi⟩ := h
 refine ⟨hl,L,g_far ho (fun e => g_apart ho hbox h1 _ e rfl),fun k q hk => ?_⟩
 obtain ⟨A',c',e',ho',hy⟩ := hi k q hk
 exact ⟨A',c',e',g_far ho' (fun e => g_apart ho' hbox h2 _ e rfl),hy⟩
theorem RoomO.far {r : List (List Pt) × List Pt} {L0 : List Value} (h : RoomO w lo ps ns up r A1 c1 A2 c2 A3 c3 A4 c4 A5 c5) (hbox : w.ownsRow lo' 73 5 (.slice (some ⟨g,0,none⟩) 1 1) 1 L0) : RoomO (w.setCell ⟨g,p,none⟩ u) lo ps ns up r A1 c1 A2 c2 A3 c3 A4 c4 A5 c5 :=
 ⟨g_far h.par (fun e => g_apart h.par hbox (by decide) _ e rfl),g_far h.nod (fun e => g_apart h.nod hbox (by decide) _ e rfl),g_far h.ups (fun e => g_apart h.ups hbox (by decide) _ e rfl),h.pro.far hbox (by decide) (by decide),g_far h.lic (fun e => g_apart h.lic hbox (by decide) _ e rfl),h.ok1,h.ok2,h.ok3⟩
theorem RoomO.push {A' : Option Addr} {c' m : Nat} {q : List Pt} {B1 : Option Addr} {d1 : Nat} {L L' : List Value} (h : RoomO w lo ps ns up (pl,lic) A1 c1 A2 c2 A3 c3 A4 c4 A5 c5) (hm : pl.length = m) (h2 : w.ownsRow lo 71 1 (.slice A4 m c4) m L) (h3 : ∀ (k : Nat) (p : List Pt),pl[k]? = some p → ∃ A' c',L[k]? = some (.slice A' p.length c') ∧ w.ownsRow lo 133 4 (.slice A' p.length c') p.length (p.flatMap Pt.enc) ∧ ∀ y ∈ p,y.ok)
  (hr : AppR w w' lo 71 1 (.slice A4 m c4) A' (m + 1) c' L') (e : L' = L ++ [.slice B1 q.length d1]) (ho : w.ownsRow lo 133 4 (.slice B1 q.length d1) q.length (q.flatMap Pt.enc)) (hy : ∀ y ∈ q,y.ok) : RoomO w' lo ps ns up (pl ++ [q],lic) A1 c1 A2 c2 A3 c3 A' c' A5 c5 :=
 ⟨hr.other h.par (g_apart h.par h2 (by decide)),hr.other h.nod (g_apart h.nod h2 (by decide)),hr.other h.ups (g_apart h.ups h2 (by decide)),by have := PO.grow hm h2 h3 hr e ho hy;show PO w' lo A' (pl ++ [q]).length c' (pl ++ [q]);rw [List.length_append,hm];exact this,hr.other h.lic (g_apart h.lic h2 (by decide)),h.ok1,h.ok2,h.ok3⟩
end
theorem gcells5 {w : World} {base b : Nat} {e : TypeId} {u0 u1 u2 u3 u4 : Value} (h : w.ownsRow base e 5 (.slice (some ⟨b,0,none⟩) 1 1) 1 [u0,u1,u2,u3,u4]) : w.cell? ⟨b,0,none⟩ = some u0 ∧ w.cell? ⟨b,1,none⟩ = some u1 ∧ w.cell? ⟨b,2,none⟩ = some u2 ∧ w.cell? ⟨b,3,none⟩ = some u3 ∧ w.cell? ⟨b,4,none⟩ = some u4 ∧ w.frozen? ⟨b,0,none⟩ = false ∧ w.frozen? ⟨b,1,none⟩ = false ∧ w.frozen? ⟨b,2,none⟩ = false ∧ w.frozen? ⟨b,3,none⟩ = false ∧ w.frozen? ⟨b,4,none⟩ = false ∧ b < w.heap.size :=
 ⟨gcell h 0 _ rfl,gcell h 1 _ rfl,gcell h 2 _ rfl,gcell h 3 _ rfl,gcell h 4 _ rfl,h.frozenAt 0,h.frozenAt 1,h.frozenAt 2,h.frozenAt 3,h.frozenAt 4,(h.lt b rfl).2⟩
theorem room_fill {w : World} {lo lo' g : Nat} {ps : List Int} {ns : List Node} {up : List Bool} {r : List (List Pt) × List Pt} {A1 : Option Addr} {c1 : Nat} {A2 : Option Addr} {c2 : Nat} {A3 : Option Addr} {c3 : Nat} {A4 : Option Addr} {c4 : Nat} {A5 : Option Addr} {c5 : Nat} {u0 u1 u2 u3 u4 : Value} (h : RoomO w lo ps ns up r A1 c1 A2 c2 A3 c3 A4 c4 A5 c5) (hbox : w.ownsRow lo' 73 5 (.slice (some ⟨g,0,none⟩) 1 1) 1 [u0,u1,u2,u3,u4]) (a0 a1 a2 a3 a4 : Value) :
  RoomO (((((w.setCell ⟨g,0,none⟩ a0).setCell ⟨g,1,none⟩ a1).setCell ⟨g,2,none⟩ a2).setCell ⟨g,3,none⟩ a3).setCell ⟨g,4,none⟩ a4) lo ps ns up r A1 c1 A2 c2 A3 c3 A4 c4 A5 c5 ∧ (((((w.setCell ⟨g,0,none⟩ a0).setCell ⟨g,1,none⟩ a1).setCell ⟨g,2,none⟩ a2).setCell ⟨g,3,none⟩ a3).setCell ⟨g,4,none⟩ a4).ownsRow lo' 73 5 (.slice (some ⟨g,0,none⟩) 1 1) 1 [a0,a1,a2,a3,a4] := by
 have b1 := (hbox.stored 0 a0).1
 have b2 := (b1.stored 1 a1).1
 have b3 := (b2.stored 2 a2).1
 have b4 := (b3.stored 3 a3).1
 have b5 := (b4.stored 4 a4).1
 exact ⟨((((h.far hbox).far b1).far b2).far b3).far b4,b5⟩
theorem RoomOk_c (ps : List Int) (ns : List Node) (up : List Bool) (r : List (List Pt) × List Pt) (v : Value) (w : World) (h : RoomAt w ps ns up r v) (ht : topoB ps ns = true) (hu : up.length = ns.length) (hr : roomOkM ns.length r) : Calls Tryz.prog 77 #[v] w (Ret w (.bool true)) := by
 obtain ⟨A1,c1,A2,c2,A3,c3,A4,c4,A5,c5,rfl,h1,h2,h3,h4,h5⟩ := h
 obtain ⟨hr1,hr2,hr3⟩ := hr
 obtain ⟨⟨_,hp1⟩,hn1,_⟩ := topo_parts ht
 have hl5 := (profB_parts hr3).2.1
 have HT := Hh (fun (u : World) (e : Ext w u) => TopoOk_c ps ns A1 ps.length c1 A2 ns.length c2 u (h1.ext (Flat.mono _ _) e) (by unfold maxLen;omega) (h2.ext (Flat.mono _ _) e) (by unfold maxLen;omega))
 rw [ht] at HT
 have HL := Hh (fun (u : World) (e : Ext w u) => ProfOk_c r.2 A5 r.2.length c5 u (h5.ext (Flat.mono _ _) e) (by unfold maxLen;omega))
 rw [hr3] at HL
 have HP := Hh (fun (p : List Pt) (hp : p ∈ r.1) (A : Option Addr) (c : Nat) (u : World) (hs : SlAt RPt 4 u A p.length p) => show Calls Tryz.prog 80 #[.agg #[.slice A p.length c]] u (Ret u (.bool true)) from by
  have := ProfOk_c p A p.length c u hs (by have := (profB_parts (hr2 p hp)).2.1;unfold maxLen;omega)
  rw [hr2 p hp] at this;exact this)
 have H4 := Hh (fun (u : World) (e : Ext w u) => h4.ext RPf.mono e)
 clear h1 h2 h3 h4 h5 ht hr2 hr3
 rw [hr1] at H4
 rw [hu,hr1]
 clear hu hr1
 generalize ns.length = m at *
 generalize ps.length = n at *
 generalize r.2.length = q at *
 go_enter Tryz.func77,Tryz.ntmps77
 go_wp2_with fail
 refine (HT.out _ Ext.go).mono ?_
 rintro e w1 ⟨rfl,hb1⟩
 obtain ⟨hcr1,hfr1,hz1⟩ := hb1.rules
 (try simp at hz1)
 have hy1_w0 : w.heap.size < w1.heap.size := (by omega)
 obtain ⟨b0,b1,b2,b3,b4⟩ := bc5 w (w.heap.size) (.slice A1 n c1) (.slice A2 m c2) (.slice A3 m c3) (.slice A4 m c4) (.slice A5 q c5) 73 ((hb1)) (by simp)
 obtain ⟨bf0,bf1,bf2,bf3,bf4⟩ := bf5 w (w.heap.size) (.slice A1 n c1) (.slice A2 m c2) (.slice A3 m c3) (.slice A4 m c4) (.slice A5 q c5) 73 ((hb1)) (by simp)
 go_wp2
 go_loopw [32] (fun i wr => ∃ k : Nat,k ≤ m ∧ i = .int .i64 k ∧ Ext (w.alloc (.cells #[.slice A1 n c1,.slice A2 m c2,.slice A3 m c3,.slice A4 m c4,.slice A5 q c5] 73)) wr) (fun i _ => m - (intOf i).toNat)
 case atStart => exact ⟨0,Nat.zero_le _,rfl,hb1⟩
 case round =>
  obtain ⟨k,hk,rfl,hb⟩ := hrel
  clear b0 b1 b2 b3 b4 bf0 bf1 bf2 bf3 bf4 hcr1 hfr1
  by_cases hlt : k < m
  ·obtain ⟨b,o,x,cs,rfl,hbw,hx,_,hc,A',c',rfl,hs⟩ := (H4.out wr (((Ext.refl w).alloc _).trans hb)).at_ hlt
   have g0 := hc 0 _ rfl
   simp only [Nat.mul_one,Nat.add_zero] at g0
   have HX := Hh (List.mem_of_getElem? hx)
   have HS := Hh (fun (u : World) (e : Ext wr u) => HP.out x HX.out A' c' u (hs.ext (Flat.mono _ _) e))
   clear hx hc hs
   generalize x.length = xl at *
   go_wp2_with fail
   refine (HS.out _ ((Ext.refl _).alloc _)).mono ?_
   rintro e w4 ⟨rfl,hb4⟩
   go_wp2
   go_roundw
   case rel => exact ⟨k + 1,by omega,by go_num,hb.trans (((Ext.refl _).alloc _).trans hb4)⟩
   case measure => simp [intOf];omega
  ·obtain rfl : k = m := by omega
   obtain ⟨b0,b1,b2,b3,b4⟩ := bc5 w (w.heap.size) (.slice A1 n c1) (.slice A2 k c2) (.slice A3 k c3) (.slice A4 k c4) (.slice A5 q c5) 73 ((hb)) (by simp)
   obtain ⟨bf0,bf1,bf2,bf3,bf4⟩ := bf5 w (w.heap.size) (.slice A1 n c1) (.slice A2 k c2) (.slice A3 k c3) (.slice A4 k c4) (.slice A5 q c5) 73 ((hb)) (by simp)
   have hb0 := lt_of_cell b0
   go_wp2_with fail
   refine (HL.out _ (((Ext.refl w).alloc _).trans hb)).mono ?_
   rintro e w4 ⟨rfl,hb4⟩
   go_wp2
   exact ret_bool rfl rfl rfl rfl ((((Ext.refl w).alloc _).trans hb).trans hb4)
def encS (t : Option Addr × Nat × Nat) : List Value := [.slice t.1 t.2.1 t.2.2]
theorem encS_one (t : Option Addr × Nat × Nat) : ∀ u ∈ encS t,u.oneCell' = true := by
 intro u hu;simp [encS] at hu;subst hu;rfl
def RetRoom (w : World) (ps : List Int) (ns : List Node) (up : List Bool) (r : List (List Pt) × List Pt) : Ending → World → Prop := fun e w' => ∃ A1 c1 A2 c2 A3 c3 A4 c4 A5 c5,e = .returned (.agg #[.slice A1 ps.length c1,.slice A2 ns.length c2,.slice A3 up.length c3,.slice A4 r.1.length c4,.slice A5 r.2.length c5]) ∧ RoomO w' w.heap.size ps ns up r A1 c1 A2 c2 A3 c3 A4 c4 A5 c5 ∧ Ext w w'
def gTopo (lo : Nat) (ps : List Int) (ns : List Node) : GSp := ⟨fun v => ∃ A c B d,v = .agg #[.slice A ps.length c,.slice B ns.length d],fun v w => ∀ A c B d,v = .agg #[.slice A ps.length c,.slice B ns.length d] → w.ownsRow lo 3 1 (.slice A ps.length c) ps.length (ps.flatMap encInt) ∧ w.ownsRow lo 85 4 (.slice B ns.length d) ns.length (ns.flatMap Node.enc)⟩
def gUp (lo : Nat) (up : List Bool) : GSp := ⟨fun v => ∃ A c,v = .slice A up.length c,fun v w => ∀ A c,v = .slice A up.length c → w.ownsRow lo 4 1 (.slice A up.length c) up.length (up.flatMap encB)⟩
def gProf (lo : Nat) (l : List Pt) : GSp := ⟨fun v => ∃ A c,v = .agg #[.slice A l.length c],fun v w => ∀ A c,v = .agg #[.slice A l.length c] → w.ownsRow lo 133 4 (.slice A l.length c) l.length (l.flatMap Pt.enc)⟩
def gBox (lo : Nat) (e : TypeId) (sz : Nat) (cs : List Value) : GSp := ⟨fun v => ∃ b,lo ≤ b ∧ v = .pointer (some ⟨b,0,none⟩),fun v w => ∀ b,v = .pointer (some ⟨b,0,none⟩) → w.ownsRow lo e sz (.slice (some ⟨b,0,none⟩) 1 1) 1 cs⟩
theorem gTopo_ok (lo : Nat) (ps : List Int) (ns : List Node) : (∀ v,FMono ((gTopo lo ps ns).F v)) ∧ ∃ v,(gTopo lo ps ns).V v := ⟨fun v w w' hb h A c B d e => ⟨owns_ext (h A c B d e).1 hb,owns_ext (h A c B d e).2 hb⟩,_,none,0,none,0,rfl⟩
theorem gUp_ok (lo : Nat) (up : List Bool) : (∀ v,FMono ((gUp lo up).F v)) ∧ ∃ v,(gUp lo up).V v := ⟨fun v w w' hb h A c e => owns_ext (h A c e) hb,_,none,0,rfl⟩
theorem gProf_ok (lo : Nat) (l : List Pt) : (∀ v,FMono ((gProf lo l).F v)) ∧ ∃ v,(gProf lo l).V v := ⟨fun v w w' hb h A c e => owns_ext (h A c e) hb,_,none,0,rfl⟩
theorem gBox_ok (lo : Nat) (e : TypeId) (sz : Nat) (cs : List Value) : (∀ v,FMono ((gBox lo e sz cs).F v)) ∧ ∃ v,(gBox lo e sz cs).V v := ⟨fun v w w' hb h b e => owns_ext (h b e) hb,_,lo,Nat.le_refl _,rfl⟩
theorem copyRoom_c (ps : List Int) (ns : List Node) (up : List Bool) (pl : List (List Pt)) (lic : List Pt) (v : Value) (w : World) (h : RoomAt w ps ns up (pl,lic) v) (hps : ps.length ≤ 24) (hns : ns.length ≤ 24) (hup : up.length ≤ 24) (hpl : pl.length ≤ 24) (hpi : ∀ p ∈ pl,p.length ≤ 200) (hli : lic.length ≤ 200) : Calls Tryz.prog 79 #[v] w (RetRoom w ps ns up (pl,lic)) := by
 obtain ⟨A1,c1,A2,c2,A3,c3,A4,c4,A5,c5,rfl,h1,h2,h3,h4,h5⟩ := h
 simp only [] at h4 h5 ⊢
 obtain ⟨i0,hi,hI0,hI1,hI2⟩ := info_parts CBool.info
 obtain ⟨i1,hi1,hJ0,hJ1,hJ2⟩ := info_parts CProf.info
 have HT := Hh (fun (u : World) (e : Ext w u) => copyTopo_c ps ns A1 ps.length c1 A2 ns.length c2 u (h1.ext (Flat.mono _ _) e) (by omega) (h2.ext (Flat.mono _ _) e) (by omega))
 have HU := Hh (fun (u : World) (e : Ext w u) => h3.ext (Flat.mono encB (fun _ => True)) e)
 have HL := Hh (fun (u : World) (e : Ext w u) => copyProf_c lic A5 lic.length c5 u (h5.ext (Flat.mono _ _) e) (by omega))
 have H4 := Hh (fun (u : World) (e : Ext w u) => h4.ext RPf.mono e)
 have HK := Hh (show (∀ x ∈ ps,In64 x) ∧ (∀ x ∈ ns,x.ok) ∧ ∀ x ∈ lic,x.ok from ⟨h1.all,h2.all,h5.all⟩)
 have HPI := Hh hpi
 clear h1 h2 h3 h4 h5 hpi
 generalize hpm : pl.length = pm at *
 have HPM := Hh hpm
 clear hpm
 go_enter Tryz.func79,Tryz.ntmps79
 go_upto_region 1 with fail
 refine wp_region_grow_tab 11 [(2,gTopo (w.heap.size + 1 + 1) ps ns),(5,gUp (w.heap.size + 1 + 1) up),(8,gProf (w.heap.size + 1 + 1) lic),(10,gBox (w.heap.size + 1 + 1) 73 5 [.slice none 0 0,.slice none 0 0,.slice none 0 0,.slice none 0 0,.slice none 0 0])] (by kernel_rfl) (by kernel_rfl) (by simp only [List.forall_mem_cons];exact ⟨gTopo_ok _ _ _,gUp_ok _ _,gProf_ok _ _,gBox_ok _ _ _ _,fun p hp => by cases hp⟩) ?_
 simp only [List.take,List.drop]
 have HLO := Hh (fun (u : World) (hu : Ext ((w.alloc (.cells #[.slice A1 ps.length c1,.slice A2 ns.length c2,.slice A3 up.length c3,.slice A4 pm c4,.slice A5 lic.length c5] 73)).alloc (.cells #[.slice none 0 0,.slice none 0 0,.slice none 0 0,.slice none 0 0,.slice none 0 0] 73)) u) => show (w.heap.size + 1 + 1) ≤ u.heap.size from by have := hu.le;simpa using this)
 refine grow_constE (by rfl) (by rfl) ?_
 apply Exists.intro
 refine ⟨fun u hu => ?_, ?_⟩
 ·(obtain ⟨hcu,hfu,hzu⟩ := hu.rules;go_simp;exact ⟨rfl,rfl⟩)
 intro Φ0 hΦ0
 simp only [Act.put,List.setIfInBounds_toArray,List.set_cons_succ,List.set_cons_zero]
 refine grow_constE (by rfl) (by rfl) ?_
 apply Exists.intro
 refine ⟨fun u hu => ?_, ?_⟩
 ·(obtain ⟨hcu,hfu,hzu⟩ := hu.rules;go_simp;exact ⟨rfl,rfl⟩)
 intro Φ1 hΦ1
 simp only [Act.put,List.setIfInBounds_toArray,List.set_cons_succ,List.set_cons_zero]
 refine grow_make _ _ (by rfl) (by rfl) (fun u hu => ?_) ?_
 ·go_simp
  refine ⟨Ext.refl _,(HT.out u ((((Ext.refl w).alloc _).alloc _).trans hu)).mono ?_⟩
  rintro e w2 ⟨A6,c6,A7,c7,rfl,ho2,ho2',hb2⟩
  exact ⟨_,rfl,hb2,⟨A6,c6,A7,c7,rfl⟩,fun A c B d e => by cases e;exact ⟨owns_base ho2 (HLO.out u hu),owns_base ho2' (HLO.out u hu)⟩⟩
 rintro v2 ⟨A6,c6,A7,c7,rfl⟩ Φ2 hΦ2
 simp only [Act.put,List.setIfInBounds_toArray,List.set_cons_succ,List.set_cons_zero]
 refine grow_constE (by rfl) (by rfl) ?_
 apply Exists.intro
 refine ⟨fun u hu => ?_, ?_⟩
 ·(obtain ⟨hcu,hfu,hzu⟩ := hu.rules;go_simp;exact ⟨rfl,rfl⟩)
 intro Φ3 hΦ3
 simp only [Act.put,List.setIfInBounds_toArray,List.set_cons_succ,List.set_cons_zero]
 refine grow_constE (by rfl) (by rfl) ?_
 apply Exists.intro
 refine ⟨fun u hu => ?_, ?_⟩
 ·(obtain ⟨hcu,hfu,hzu⟩ := hu.rules;go_simp;exact ⟨rfl,rfl⟩)
 intro Φ4 hΦ4
 simp only [Act.put,List.setIfInBounds_toArray,List.set_cons_succ,List.set_cons_zero]
 refine grow_make _ _ (by rfl) (by rfl) (fun u hu => ?_) ?_
 ·refine grow_append (enc := encB) (ok := fun _ => True) _ _ _ (by rfl) (w.heap.size + 1 + 1) 4 i0 _ 1 1 Tryz.underlying27 hi hI0 hI1 hI2 rfl (by omega) (.slice none 0 0) 0 [] A3 up.length c3 up up.length (by simp) (by rfl) (by rfl) (World.ownsRow_nil _ _ _ _) (HU.out u ((((Ext.refl w).alloc _).alloc _).trans hu)) (fun _ => rfl) encB_one (by unfold maxLen;omega) (by omega) (HLO.out u hu) ?_
  intro A' c' w' hr
  exact ⟨hr.nil_ext,⟨A',c',rfl⟩,fun A c e => by cases e;exact hr.row⟩
 rintro v5 ⟨A8,c8,rfl⟩ Φ5 hΦ5
 simp only [Act.put,List.setIfInBounds_toArray,List.set_cons_succ,List.set_cons_zero]
 refine grow_constE (by rfl) (by rfl) ?_
 apply Exists.intro
 refine ⟨fun u hu => ?_, ?_⟩
 ·(obtain ⟨hcu,hfu,hzu⟩ := hu.rules;go_simp;exact ⟨rfl,rfl⟩)
 intro Φ6 hΦ6
 simp only [Act.put,List.setIfInBounds_toArray,List.set_cons_succ,List.set_cons_zero]
 refine grow_constE (by rfl) (by rfl) ?_
 apply Exists.intro
 refine ⟨fun u hu => ?_, ?_⟩
 ·(obtain ⟨hcu,hfu,hzu⟩ := hu.rules;go_simp;exact ⟨rfl,rfl⟩)
 intro Φ7 hΦ7
 simp only [Act.put,List.setIfInBounds_toArray,List.set_cons_succ,List.set_cons_zero]
 refine grow_make _ _ (by rfl) (by rfl) (fun u hu => ?_) ?_
 ·go_simp
  refine ⟨Ext.refl _,(HL.out u ((((Ext.refl w).alloc _).alloc _).trans hu)).mono ?_⟩
  rintro e w2 ⟨A9,c9,rfl,ho2,hb2⟩
  exact ⟨_,rfl,hb2,⟨A9,c9,rfl⟩,fun A c e => by cases e;exact owns_base ho2 (HLO.out u hu)⟩
 rintro v8 ⟨A9,c9,rfl⟩ Φ8 hΦ8
 simp only [Act.put,List.setIfInBounds_toArray,List.set_cons_succ,List.set_cons_zero]
 refine grow_constE (by rfl) (by rfl) ?_
 apply Exists.intro
 refine ⟨fun u hu => ?_, ?_⟩
 ·(obtain ⟨hcu,hfu,hzu⟩ := hu.rules;go_simp;exact ⟨rfl,rfl⟩)
 intro Φ9 hΦ9
 simp only [Act.put,List.setIfInBounds_toArray,List.set_cons_succ,List.set_cons_zero]
 refine grow_make _ _ (by rfl) (by rfl) (fun u hu => ?_) ?_
 ·go_simp
  exact ⟨(Ext.refl u).alloc _,⟨u.heap.size,HLO.out u hu,rfl⟩,fun b e => by cases e;exact owns_base (gbox u [.slice none 0 0,.slice none 0 0,.slice none 0 0,.slice none 0 0,.slice none 0 0] 73 5 rfl) (HLO.out u hu)⟩
 rintro v10 ⟨b,hb,rfl⟩ Φ10 hΦ10
 simp only [Act.put,List.setIfInBounds_toArray,List.set_cons_succ,List.set_cons_zero]
 refine grow_nil ?_
 intro wx hx hΦ
 have p10 := hΦ10 wx hΦ
 have p9 := hΦ9 wx p10.1
 have p8 := hΦ8 wx p9
 have p7 := hΦ7 wx p8.1
 have p6 := hΦ6 wx p7
 have p5 := hΦ5 wx p6
 have p4 := hΦ4 wx p5.1
 have p3 := hΦ3 wx p4
 have p2 := hΦ2 wx p3
 have HBX := Hh (p10.2 b rfl)
 have HF := Hh (room_fill (w := wx) (lo := (w.heap.size + 1 + 1)) (r := ([],lic)) (A4 := none) (c4 := 0) ⟨(p2.2 A6 c6 A7 c7 rfl).1,(p2.2 A6 c6 A7 c7 rfl).2,p5.2 A8 c8 rfl,PO.nil _ _,p8.2 A9 c9 rfl,HK.out.1,HK.out.2.1,HK.out.2.2⟩ HBX.out (.slice A6 ps.length c6) (.slice A7 ns.length c7) (.slice A8 up.length c8) (.slice none 0 0) (.slice A9 lic.length c9))
 clear hΦ p10 p9 p8 p7 p6 p5 p4 p3 p2 hΦ0 hΦ1 hΦ2 hΦ3 hΦ4 hΦ5 hΦ6 hΦ7 hΦ8 hΦ9 hΦ10 Φ0 Φ1 Φ2 Φ3 Φ4 Φ5 Φ6 Φ7 Φ8 Φ9 Φ10
 obtain ⟨t0,t1,t2,t3,t4,tf0,tf1,tf2,tf3,tf4,tl⟩ := gcells5 HBX.out
 have hbb := (HBX.out.lt b rfl).1
 obtain ⟨y0,y1,y2,y3,y4⟩ := bc5 w (w.heap.size) (.slice A1 ps.length c1) (.slice A2 ns.length c2) (.slice A3 up.length c3) (.slice A4 pm c4) (.slice A5 lic.length c5) 73 ((((Ext.refl _).alloc _).trans hx)) (by simp)
 obtain ⟨yf0,yf1,yf2,yf3,yf4⟩ := bf5 w (w.heap.size) (.slice A1 ps.length c1) (.slice A2 ns.length c2) (.slice A3 up.length c3) (.slice A4 pm c4) (.slice A5 lic.length c5) 73 ((((Ext.refl _).alloc _).trans hx)) (by simp)
 have hyl := lt_of_cell y0
 have hyb : w.heap.size ≠ b := by omega
 go_wp2
 go_loopw [19] (fun iv wr => ∃ (k : Nat) (A10 : Option Addr) (c10 : Nat),k ≤ pm ∧ iv = .int .i64 k ∧ Hid (RoomO wr (w.heap.size + 1 + 1) ps ns up (pl.take k,lic) A6 c6 A7 c7 A8 c8 A10 c10 A9 c9) ∧ Hid (wr.ownsRow (w.heap.size + 1 + 1) 73 5 (.slice (some ⟨b,0,none⟩) 1 1) 1 [.slice A6 ps.length c6,.slice A7 ns.length c7,.slice A8 up.length c8,.slice A10 k c10,.slice A9 lic.length c9]) ∧ Ext ((w.alloc (.cells #[.slice A1 ps.length c1,.slice A2 ns.length c2,.slice A3 up.length c3,.slice A4 pm c4,.slice A5 lic.length c5] 73)).alloc (.cells #[.slice none 0 0,.slice none 0 0,.slice none 0 0,.slice none 0 0,.slice none 0 0] 73)) wr) (fun iv _ => pm - (intOf iv).toNat)
 case atStart => exact ⟨0,none,0,Nat.zero_le _,rfl,Hh HF.out.1,Hh HF.out.2,Ext.go⟩
 case round =>
  clear t0 t1 t2 t3 t4 tf0 tf1 tf2 tf3 tf4 tl HBX HF y0 y1 y2 y3 y4 yf0 yf1 yf2 yf3 yf4 hyl
  obtain ⟨k,A10,c10,hk,rfl,HRO,HBX,hb⟩ := hrel
  by_cases hlt : k < pm
  ·obtain ⟨bq,oq,x,cs,rfl,hbw,hx2,_,hc,Aq,cq,rfl,hs⟩ := (H4.out wr ((((Ext.refl w).alloc _).alloc _).trans hb)).at_ hlt
   have g0 := hc 0 _ rfl
   simp only [Nat.mul_one,Nat.add_zero] at g0
   have HX := Hh hx2
   have HXL := Hh (HPI.out x (List.mem_of_getElem? hx2))
   have hxl := HXL.out
   have HXK := Hh hs.all
   have HCP := Hh (fun (u : World) (e : Ext wr u) => copyProf_c x Aq x.length cq u (hs.ext (Flat.mono _ _) e) (by omega))
   obtain ⟨hpl1,L,hL,hLi⟩ := HRO.out.pro
   have HTK := Hh (show (pl.take k).length = k by rw [List.length_take,HPM.out];omega)
   have HLL := Hh (show wr.ownsRow (w.heap.size + 1 + 1) 71 1 (.slice A10 k c10) k L by rw [← HTK.out];exact hL)
   have HLI := Hh hLi
   have t3 := (gcells5 HBX.out).2.2.2.1
   have tl := (HBX.out.lt b rfl).2
   have hbb2 := (HBX.out.lt b rfl).1
   clear hx2 hc hs hpl1 hL hLi
   go_wp2
   go_region_law (first | (go_simp;go_at_call 101;(with_reducible refine (HCP.out _ (by repeat (first | exact Ext.refl _ | apply Ext.alloc | apply Ext.drew))).mono ?_);rintro e w4 ⟨A11,c11,rfl,ho4,hb4⟩;have HE4 := Hh (show Ext wr w4 from Ext.trans (by repeat (first | exact Ext.refl _ | apply Ext.alloc | apply Ext.drew)) hb4);have HO4 := Hh (owns_base ho4 (show (w.heap.size + 1 + 1) ≤ _ from (by simp;omega)));have x4 := HE4.out.cell t3;have hl4 := Nat.lt_of_lt_of_le tl HE4.out.le;clear ho4 hb4) | (refine step_append_r (enc := encS) (ok := fun _ => True) (by rfl) _ _ _ (by rfl) (w.heap.size + 1 + 1) 71 i1 _ 1 24 Tryz.underlying68 hi1 hJ0 hJ1 hJ2 rfl (by omega) (.slice A10 k c10) k L _ 1 1 [(A11,x.length,c11)] (k + 1) rfl (by rfl) (by rfl) (owns_ext HLL.out (HE4.out.alloc _)) (by exact sl_one_r (enc := encS) w4 (A11,x.length,c11) 71 rfl trivial) (fun _ => rfl) encS_one (by unfold maxLen;omega) (by omega) (by simp;omega) ?_;intro A12 c12 w5 hr5;have HB5 := Hh (hr5.other (owns_ext HBX.out (HE4.out.alloc (.cells (encS (A11,x.length,c11)).toArray 71))) (g_apart HBX.out HLL.out (by decide)));have x5 := (gcells5 HB5.out).2.2.2.1;have xf5 := HB5.out.frozenAt 3;have hl5 := (HB5.out.lt b rfl).2))
   all_goals
    have HR5 := Hh hr5
    have HRN := Hh ((HRO.out.ext (HE4.out.alloc (.cells (encS (A11,x.length,c11)).toArray 71))).push HTK.out (owns_ext HLL.out (HE4.out.alloc _)) (fun j p hj => by obtain ⟨Ap,cp,e1,e2,e3⟩ := HLI.out j p hj;exact ⟨Ap,cp,e1,owns_ext e2 (HE4.out.alloc _),e3⟩) HR5.out (by simp [encS]) (owns_ext HO4.out ((Ext.refl w4).alloc _)) HXK.out)
    have HXT := Hh (ext_turned (hb.trans (HE4.out.alloc (.cells (encS (A11,x.length,c11)).toArray 71))) (HR5.out.turned (lo := (w.heap.size + 1 + 1)) (fun q hq => (HLL.out.lt q hq).1)) (by simp))
    clear hr5 x4 t3 tl
    go_wp2
    go_roundw
    case rel => exact ⟨k + 1,A12,c12,by omega,by go_num,Hh (by rw [take_succ HX.out];exact HRN.out.far HB5.out),Hh (HB5.out.stored 3 _).1,HXT.out.setCell (by simp;omega) _⟩
    case measure => simp [intOf];omega
  ·obtain rfl : k = pm := by omega
   have HPT := Hh (show pl.take k = pl by rw [List.take_of_length_le (by have := HPM.out;omega)])
   rw [HPT.out] at HRO
   obtain ⟨t0,t1,t2,t3,t4,tf0,tf1,tf2,tf3,tf4,tl⟩ := gcells5 HBX.out
   obtain ⟨q0,q1,q2,q3,q4⟩ := bc5 (w.alloc (.cells #[.slice A1 ps.length c1,.slice A2 ns.length c2,.slice A3 up.length c3,.slice A4 k c4,.slice A5 lic.length c5] 73)) (w.heap.size + 1) (.slice none 0 0) (.slice none 0 0) (.slice none 0 0) (.slice none 0 0) (.slice none 0 0) 73 ((hb)) (by simp)
   obtain ⟨qf0,qf1,qf2,qf3,qf4⟩ := bf5 (w.alloc (.cells #[.slice A1 ps.length c1,.slice A2 ns.length c2,.slice A3 up.length c3,.slice A4 k c4,.slice A5 lic.length c5] 73)) (w.heap.size + 1) (.slice none 0 0) (.slice none 0 0) (.slice none 0 0) (.slice none 0 0) (.slice none 0 0) 73 ((hb)) (by simp)
   have hql := lt_of_cell q0
   have hqb : w.heap.size + 1 ≠ b := by omega
   have HRB := Hh (((((HRO.out.low (b := w.heap.size + 1) (p := 0) (u := .slice A6 ps.length c6) (by omega)).low (b := w.heap.size + 1) (p := 1) (u := .slice A7 ns.length c7) (by omega)).low (b := w.heap.size + 1) (p := 2) (u := .slice A8 up.length c8) (by omega)).low (b := w.heap.size + 1) (p := 3) (u := .slice A10 k c10) (by omega)).low (b := w.heap.size + 1) (p := 4) (u := .slice A9 lic.length c9) (by omega))
   have hxx : Ext w wr := (((Ext.refl w).alloc _).alloc _).trans hb
   clear HRO hb
   go_wp2
   exact bodyPost_ret (v := .agg #[.slice A6 ps.length c6,.slice A7 ns.length c7,.slice A8 up.length c8,.slice A10 k c10,.slice A9 lic.length c9]) (by simp [results,Tryz.results79,go_sem, *]) rfl ⟨A6,c6,A7,c7,A8,c8,A10,c10,A9,c9,by rw [HPM.out],HRB.out.base (by omega),Ext.go⟩
end Go.Proofs.YtfanjhcdjbnnnaaGreat
