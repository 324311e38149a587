/- SDiff, LCan, Earl. -/
import Derived.Test.YtfanjhcdjbnnnaaGreatK15
import Derived.Test.YtfanjhcdjbnnnaaGreatK09
import Derived.Test.YtfanjhcdjbnnnaaGreatK19
import Derived.Deep.RegionHeld3
namespace Go.Proofs.YtfanjhcdjbnnnaaGreat
open Go.RowKit
set_option linter.unusedVariables false
set_option maxHeartbeats 8000000
set_option maxRecDepth 10000
theorem l04Diff_c (ps : List Int) (ns : List Node) (up : List Bool) (pl : List (List Pt)) (lic : List Pt) (j : Job) (xs : List Int) (D : Option Addr) (q f : Nat) (v : Value) (w : World) (h : RoomAt w ps ns up (pl,lic) v) (ht : topoB ps ns = true) (hu : up.length = ns.length) (hr : roomOkM ns.length (pl,lic)) (h3 : SlAt RInt 1 w D q xs) (hl3 : q ≤ maxLen) (hcap : q ≤ f) : Calls Tryz.prog 59 #[v,.agg #[.int .i64 j.Id,.int .i64 j.Prio,.int .i64 j.Nodes,.int .i64 j.Need.A,.int .i64 j.Need.B,.int .i64 j.Need.C,.int .i64 j.Lic.A,.int .i64 j.Lic.B,.int .i64 j.Lic.C,.int .i64 j.Wall,.int .i64 j.Level],.slice D q f] w (Ret w (.bool (jobB j && jobNodesB ns.length j xs))) := by
 have hl3' := hl3
 unfold maxLen at hl3
 obtain ⟨⟨_,hp1⟩,hn1,_⟩ := topo_parts ht
 have hM := Flat.mono encInt In64
 have HRO := Hh (fun (u : World) (e : Ext w u) => sRoomOk_c ps ns up (pl,lic) v u (h.ext e) ht hu hr)
 have HJO := Hh (fun (u : World) => sJobOk_c j u)
 obtain ⟨A1,c1,A2,c2,A3,c3,A4,c4,A5,c5,rfl,h1,h2,_,_,_⟩ := h
 have HNO := Hh (fun (u : World) (e : Ext w u) => l02Nodes_c ps ns xs A1 ps.length c1 A2 ns.length c2 D q f u (h1.ext hM e) (by unfold maxLen;omega) (h2.ext (Flat.mono _ _) e) (by unfold maxLen;omega) (h3.ext hM e) hl3')
 rw [ht,Bool.and_true] at HNO
 have HC := Hh (fun (u : World) (e : Ext w u) (k : Nat) (x : Int) (hk : k ≤ q) => l02Has_c (xs.take k) x D k f u ((h3.ext hM e).cutk hk) (by omega))
 have H3 := Hh (fun (u : World) (e : Ext w u) => h3.ext hM e)
 have HJ := Hh (show (jobB j && jobNodesB ns.length j xs) = (jobB j && (distGo [] xs && (nodesB ns.length xs && decide (((q : Nat) : Int) = j.Nodes)))) by unfold jobNodesB;rw [Bool.and_assoc (distGo [] xs),h3.len];rfl)
 have HN := Hh h3.len
 clear h1 h2 h3 ht hp1 hn1 hr hu
 generalize (jobB j && jobNodesB ns.length j xs) = R at *
 generalize hd0 : distGo [] xs = dg at *
 generalize nodesB ns.length xs = nb at *
 simp only [] at HRO ⊢
 rcases (Bool.eq_false_or_eq_true (jobB j)).symm with q1 | q1
 all_goals rw [q1] at HJO HJ
 ·have HF := Hh (show R = false by rw [HJ.out];rfl)
  clear q1
  go_enter Tryz.func59,Tryz.ntmps59
  go_wp2_with fail
  refine (HRO.out _ Ext.go).mono ?_
  rintro e w1 ⟨rfl,hb1⟩
  obtain ⟨hcr1,hfr1,hz1⟩ := hb1.rules
  (try simp at hz1)
  have hy1_w0 : w.heap.size < w1.heap.size := (by omega)
  have hy1_w1 : w.heap.size + 1 < w1.heap.size := (by omega)
  go_wp2_with fail
  refine (HJO.out _).mono ?_
  rintro e w2 ⟨rfl,hb2⟩
  obtain ⟨hcr2,hfr2,hz2⟩ := hb2.rules
  (try simp at hz2)
  have hy2_w0 : w.heap.size < w2.heap.size := (by omega)
  have hy2_w1 : w.heap.size + 1 < w2.heap.size := (by omega)
  go_wp2
  exact ret_bool rfl rfl rfl (by rw [HF.out]) ((((Ext.refl w).alloc _).alloc _).trans (hb1.trans hb2))
 by_cases hlen : ((q : Nat) : Int) = j.Nodes
 rotate_left
 ·have HF := Hh (show R = false by rw [HJ.out,decide_eq_false hlen];simp)
  clear q1
  go_enter Tryz.func59,Tryz.ntmps59
  go_wp2_with fail
  refine (HRO.out _ Ext.go).mono ?_
  rintro e w1 ⟨rfl,hb1⟩
  obtain ⟨hcr1,hfr1,hz1⟩ := hb1.rules
  (try simp at hz1)
  have hy1_w0 : w.heap.size < w1.heap.size := (by omega)
  have hy1_w1 : w.heap.size + 1 < w1.heap.size := (by omega)
  go_wp2_with fail
  refine (HJO.out _).mono ?_
  rintro e w2 ⟨rfl,hb2⟩
  obtain ⟨hcr2,hfr2,hz2⟩ := hb2.rules
  (try simp at hz2)
  have hy2_w0 : w.heap.size < w2.heap.size := (by omega)
  have hy2_w1 : w.heap.size + 1 < w2.heap.size := (by omega)
  have j2 := (hb1.trans hb2).cell (cell_box_at (w.alloc (.cells #[.slice A1 ps.length c1,.slice A2 ns.length c2,.slice A3 up.length c3,.slice A4 pl.length c4,.slice A5 lic.length c5] 73)) (w.heap.size + 1) (by simp) [.int .i64 j.Id,.int .i64 j.Prio,.int .i64 j.Nodes,.int .i64 j.Need.A,.int .i64 j.Need.B,.int .i64 j.Need.C,.int .i64 j.Lic.A,.int .i64 j.Lic.B,.int .i64 j.Lic.C,.int .i64 j.Wall,.int .i64 j.Level] 52 2 _ rfl)
  go_wp2
  exact ret_bool rfl rfl rfl (by rw [HF.out]) ((((Ext.refl w).alloc _).alloc _).trans (hb1.trans hb2))
 ·rw [decide_eq_true hlen] at HJ
  obtain ⟨jid,jpr,jnd,jne,jli,jwa,jle⟩ := j
  dsimp only at hlen HJO HJ q1 ⊢
  subst hlen
  rcases nb with _ | _
  ·have HF := Hh (show R = false by rw [HJ.out];simp)
   clear q1
   go_enter Tryz.func59,Tryz.ntmps59
   go_wp2_with fail
   refine (HRO.out _ Ext.go).mono ?_
   rintro e w1 ⟨rfl,hb1⟩
   obtain ⟨hcr1,hfr1,hz1⟩ := hb1.rules
   (try simp at hz1)
   have hy1_w0 : w.heap.size < w1.heap.size := (by omega)
   have hy1_w1 : w.heap.size + 1 < w1.heap.size := (by omega)
   go_wp2_with fail
   refine (HJO.out _).mono ?_
   rintro e w2 ⟨rfl,hb2⟩
   obtain ⟨hcr2,hfr2,hz2⟩ := hb2.rules
   (try simp at hz2)
   have hy2_w0 : w.heap.size < w2.heap.size := (by omega)
   have hy2_w1 : w.heap.size + 1 < w2.heap.size := (by omega)
   go_wp2_with fail
   refine (HNO.out _ (((((Ext.refl w).alloc _).alloc _).trans hb1).trans hb2)).mono ?_
   rintro e w3 ⟨rfl,hb3⟩
   obtain ⟨hcr3,hfr3,hz3⟩ := hb3.rules
   (try simp at hz3)
   have hy3_w0 : w.heap.size < w3.heap.size := (by omega)
   have hy3_w1 : w.heap.size + 1 < w3.heap.size := (by omega)
   go_wp2
   exact ret_bool rfl rfl rfl (by rw [HF.out]) ((((Ext.refl w).alloc _).alloc _).trans (hb1.trans (hb2.trans hb3)))
  ·have HRD := Hh (show R = dg by rw [HJ.out];simp)
   clear q1
   go_enter Tryz.func59,Tryz.ntmps59
   go_wp2_with fail
   refine (HRO.out _ Ext.go).mono ?_
   rintro e w1 ⟨rfl,hb1⟩
   obtain ⟨hcr1,hfr1,hz1⟩ := hb1.rules
   (try simp at hz1)
   have hy1_w0 : w.heap.size < w1.heap.size := (by omega)
   have hy1_w1 : w.heap.size + 1 < w1.heap.size := (by omega)
   go_wp2_with fail
   refine (HJO.out _).mono ?_
   rintro e w2 ⟨rfl,hb2⟩
   obtain ⟨hcr2,hfr2,hz2⟩ := hb2.rules
   (try simp at hz2)
   have hy2_w0 : w.heap.size < w2.heap.size := (by omega)
   have hy2_w1 : w.heap.size + 1 < w2.heap.size := (by omega)
   go_wp2_with fail
   refine (HNO.out _ (((((Ext.refl w).alloc _).alloc _).trans hb1).trans hb2)).mono ?_
   rintro e w3 ⟨rfl,hb3⟩
   obtain ⟨hcr3,hfr3,hz3⟩ := hb3.rules
   (try simp at hz3)
   have hy3_w0 : w.heap.size < w3.heap.size := (by omega)
   have hy3_w1 : w.heap.size + 1 < w3.heap.size := (by omega)
   have HX3 := Hh ((((Ext.refl w).alloc _).alloc _).trans (hb1.trans (hb2.trans hb3)))
   clear hcr1 hfr1 hcr2 hfr2 hcr3 hfr3 hb1 hb2 hb3
   go_wp2
   go_loopw [33] (fun iv wr => ∃ k : Nat,k ≤ q ∧ iv = .int .i64 k ∧ Hid (dg = distGo (xs.take k) (xs.drop k)) ∧ Ext w wr) (fun iv _ => q - (intOf iv).toNat)
   case atStart => exact ⟨0,Nat.zero_le _,rfl,Hh hd0.symm,HX3.out⟩
   case round =>
    clear hd0 HX3
    obtain ⟨k,hk,rfl,HE,hb⟩ := hrel
    by_cases hlt : k < q
    ·obtain ⟨b,o,x,cs,rfl,hbw,hx,_,hc,rfl,hok⟩ := (H3.out wr hb).at_ hlt
     have g0 := hc 0 _ rfl
     simp only [Nat.mul_one,Nat.add_zero] at g0
     have HS := Hh (dist_step hx)
     have hkf : k ≤ f := by omega
     clear hx hc hok
     go_wp2_with fail
     refine (HC.out _ hb k x (by omega)).mono ?_
     rintro e w4 ⟨rfl,hb4⟩
     generalize (xs.take k).contains x = ct at *
     rcases ct with _ | _
     ·go_wp2
      go_roundw
      case rel => exact ⟨k + 1,by omega,by go_num,Hh (by rw [HE.out,HS.out];rfl),hb.trans hb4⟩
      case measure => simp [intOf];omega
     ·go_wp2
      refine ret_bool rfl rfl rfl ?_ (hb.trans hb4)
      rw [HRD.out,HE.out,HS.out];rfl
    ·have HZ := Hh (show dg = true by rw [HE.out,List.drop_eq_nil_of_le (by have := HN.out;omega)];rfl)
     go_wp2
     exact ret_bool rfl rfl rfl (by rw [HRD.out,HZ.out]) hb
theorem retPick_none {w w' : World} (hb : Ext w w') : RetPick w (.returned (.tuple #[.slice none 0 0,.bool false])) w' := ⟨false,none,0,0,[],rfl,RowI.nil _ _,by omega,by omega,hb⟩
theorem l04Can_c (ps : List Int) (ns : List Node) (up : List Bool) (pl : List (List Pt)) (lic : List Pt) (j : Job) (t : Int) (v : Value) (w : World) (h : RoomAt w ps ns up (pl,lic) v) (hr : roomB ps ns up pl lic = true) : Calls Tryz.prog 121 #[v,.agg #[.int .i64 j.Id,.int .i64 j.Prio,.int .i64 j.Nodes,.int .i64 j.Need.A,.int .i64 j.Need.B,.int .i64 j.Need.C,.int .i64 j.Lic.A,.int .i64 j.Lic.B,.int .i64 j.Lic.C,.int .i64 j.Wall,.int .i64 j.Level],.int .i64 t] w (RetPick w) := by
 obtain ⟨hsm,hQ,hps,hns⟩ := roomB_sm hr
 have HEL := Hh (fun (te : Int) (u : World) (e : Ext w u) => Eligible_c ps ns up pl lic j.Need t te v u (h.ext e) hr)
 obtain ⟨A1,c1,A2,c2,A3,c3,A4,c4,A5,c5,rfl,h1,h2,h3,h4,h5⟩ := h
 simp only [] at h4 h5 HEL ⊢
 have HPM := Hh (fun (te : Int) (u : World) (e : Ext w u) => sProfMin_c lic t te A5 lic.length c5 u (h5.ext (Flat.mono _ _) e) (by have := (roomB_parts hr).2.2.2.2;have h9 := (profB_parts this).2.1;simp only [] at h9;unfold maxLen;omega))
 have HCH := Hh (fun (xs : List Int) (D : Option Addr) (m f : Nat) (u : World) (e : Ext w u) (h6 : SlAt RInt 1 u D m xs) (hm : m ≤ 1000) => Choose_c ps ns xs j.Nodes j.Level A1 ps.length c1 A2 ns.length c2 D m f u (h1.ext (Flat.mono _ _) e) (h2.ext (Flat.mono _ _) e) h6 hm (by omega) (by omega))
 clear h1 h2 h3 h4 h5 hr hsm
 generalize ps.length = np at *
 generalize ns.length = nn at *
 generalize up.length = nu at *
 generalize pl.length = m at *
 generalize lic.length = nl at *
 go_enter Tryz.func121,Tryz.ntmps121
 obtain ⟨W,hW⟩ : ∃ u,u = ((w.alloc (.cells #[.slice A1 np c1,.slice A2 nn c2,.slice A3 nu c3,.slice A4 m c4,.slice A5 nl c5] 73)).alloc (.cells #[.int .i64 j.Id,.int .i64 j.Prio,.int .i64 j.Nodes,.int .i64 j.Need.A,.int .i64 j.Need.B,.int .i64 j.Need.C,.int .i64 j.Lic.A,.int .i64 j.Lic.B,.int .i64 j.Lic.C,.int .i64 j.Wall,.int .i64 j.Level] 52)) := ⟨_,rfl⟩
 obtain ⟨q0,q1,q2,q3,q4⟩ := bc5 w (w.heap.size) (.slice A1 np c1) (.slice A2 nn c2) (.slice A3 nu c3) (.slice A4 m c4) (.slice A5 nl c5) 73 (((Ext.refl _).alloc (.cells #[.int .i64 j.Id,.int .i64 j.Prio,.int .i64 j.Nodes,.int .i64 j.Need.A,.int .i64 j.Need.B,.int .i64 j.Need.C,.int .i64 j.Lic.A,.int .i64 j.Lic.B,.int .i64 j.Lic.C,.int .i64 j.Wall,.int .i64 j.Level] 52))) (by simp)
 obtain ⟨qf0,qf1,qf2,qf3,qf4⟩ := bf5 w (w.heap.size) (.slice A1 np c1) (.slice A2 nn c2) (.slice A3 nu c3) (.slice A4 m c4) (.slice A5 nl c5) 73 (((Ext.refl _).alloc (.cells #[.int .i64 j.Id,.int .i64 j.Prio,.int .i64 j.Nodes,.int .i64 j.Need.A,.int .i64 j.Need.B,.int .i64 j.Need.C,.int .i64 j.Lic.A,.int .i64 j.Lic.B,.int .i64 j.Lic.C,.int .i64 j.Wall,.int .i64 j.Level] 52))) (by simp)
 obtain ⟨j0,j1,j2,j3,j4,j5,j6,j7,j8,j9,j10⟩ := bc11 (w.alloc (.cells #[.slice A1 np c1,.slice A2 nn c2,.slice A3 nu c3,.slice A4 m c4,.slice A5 nl c5] 73)) (w.heap.size + 1) (.int .i64 j.Id) (.int .i64 j.Prio) (.int .i64 j.Nodes) (.int .i64 j.Need.A) (.int .i64 j.Need.B) (.int .i64 j.Need.C) (.int .i64 j.Lic.A) (.int .i64 j.Lic.B) (.int .i64 j.Lic.C) (.int .i64 j.Wall) (.int .i64 j.Level) 52 ((Ext.refl _)) (by simp)
 obtain ⟨jf0,jf1,jf2,jf3,jf4,jf5,jf6,jf7,jf8,jf9,jf10⟩ := bf11 (w.alloc (.cells #[.slice A1 np c1,.slice A2 nn c2,.slice A3 nu c3,.slice A4 m c4,.slice A5 nl c5] 73)) (w.heap.size + 1) (.int .i64 j.Id) (.int .i64 j.Prio) (.int .i64 j.Nodes) (.int .i64 j.Need.A) (.int .i64 j.Need.B) (.int .i64 j.Need.C) (.int .i64 j.Lic.A) (.int .i64 j.Lic.B) (.int .i64 j.Lic.C) (.int .i64 j.Wall) (.int .i64 j.Level) 52 ((Ext.refl _)) (by simp)
 have EW : Ext w ((w.alloc (.cells #[.slice A1 np c1,.slice A2 nn c2,.slice A3 nu c3,.slice A4 m c4,.slice A5 nl c5] 73)).alloc (.cells #[.int .i64 j.Id,.int .i64 j.Prio,.int .i64 j.Nodes,.int .i64 j.Need.A,.int .i64 j.Need.B,.int .i64 j.Need.C,.int .i64 j.Lic.A,.int .i64 j.Lic.B,.int .i64 j.Lic.C,.int .i64 j.Wall,.int .i64 j.Level] 52)) := ((Ext.refl w).alloc _).alloc _
 go_upto_region 1 with fail
 rw [← hW] at q0 q1 q2 q3 q4 j0 j1 j2 j3 j4 j5 j6 j7 j8 j9 j10 EW ⊢
 clear qf0 qf1 qf2 qf3 qf4 jf0 jf1 jf2 jf3 jf4 jf5 jf6 jf7 jf8 jf9 jf10 hW
 have HKS := Hh (fun (u : World) (e : Ext W u) => show Ext W u ∧ (u.cell? ⟨w.heap.size,0,none⟩ = some (.slice A1 np c1) ∧ u.cell? ⟨w.heap.size,1,none⟩ = some (.slice A2 nn c2) ∧ u.cell? ⟨w.heap.size,2,none⟩ = some (.slice A3 nu c3) ∧ u.cell? ⟨w.heap.size,3,none⟩ = some (.slice A4 m c4) ∧ u.cell? ⟨w.heap.size,4,none⟩ = some (.slice A5 nl c5)) ∧ u.cell? ⟨w.heap.size + 1,2,none⟩ = some (.int .i64 j.Nodes) ∧ u.cell? ⟨w.heap.size + 1,3,none⟩ = some (.int .i64 j.Need.A) ∧ u.cell? ⟨w.heap.size + 1,4,none⟩ = some (.int .i64 j.Need.B) ∧ u.cell? ⟨w.heap.size + 1,5,none⟩ = some (.int .i64 j.Need.C) ∧ u.cell? ⟨w.heap.size + 1,6,none⟩ = some (.int .i64 j.Lic.A) ∧ u.cell? ⟨w.heap.size + 1,7,none⟩ = some (.int .i64 j.Lic.B) ∧ u.cell? ⟨w.heap.size + 1,8,none⟩ = some (.int .i64 j.Lic.C) ∧ u.cell? ⟨w.heap.size + 1,9,none⟩ = some (.int .i64 j.Wall) ∧ u.cell? ⟨w.heap.size + 1,10,none⟩ = some (.int .i64 j.Level) from ⟨e,⟨e.cell q0,e.cell q1,e.cell q2,e.cell q3,e.cell q4⟩,e.cell j2,e.cell j3,e.cell j4,e.cell j5,e.cell j6,e.cell j7,e.cell j8,e.cell j9,e.cell j10⟩)
 go_wp2_with fail
 refine (HPM.out _ _ EW).mono ?_
 rintro e w1 ⟨vv,rfl,hb1⟩
 generalize overB lic t _ = ok at *
 have HB1 := Hh hb1
 obtain ⟨_,_,_,_,_,_,y6,y7,y8,_,_⟩ := HKS.out w1 hb1
 have hy6 := lt_of_cell y6
 clear q0 q1 q2 q3 q4 j0 j1 j2 j3 j4 j5 j6 j7 j8 j9 j10
 rcases ok with _ | _
 ·go_wp2
  exact bodyPost_ret (by simp [results,Tryz.results121,go_sem, *]) rfl (retPick_none ((EW.trans hb1).alloc _))
 go_wp2_with fail
 refine (sVecFits_c j.Lic vv _).mono ?_
 rintro e w2 ⟨rfl,hb2⟩
 generalize fitsB j.Lic vv = fb at *
 have E2 := hb1.trans (((Ext.refl _).alloc _).trans hb2)
 rcases fb with _ | _
 ·go_wp2
  exact bodyPost_ret (by simp [results,Tryz.results121,go_sem, *]) rfl (retPick_none (EW.trans E2))
 have HE2 := Hh E2
 have EWH := Hh EW
 clear y6 y7 y8 hy6 hb1 hb2 HB1 E2 EW
 go_upto_region 4 with fail
 have HK2 := Hh (fun (u : World) (e : Ext w2 u) => HKS.out u (HE2.out.trans e))
 go_region_held3 (fun u => Ext W u ∧ (u.cell? ⟨w.heap.size,0,none⟩ = some (.slice A1 np c1) ∧ u.cell? ⟨w.heap.size,1,none⟩ = some (.slice A2 nn c2) ∧ u.cell? ⟨w.heap.size,2,none⟩ = some (.slice A3 nu c3) ∧ u.cell? ⟨w.heap.size,3,none⟩ = some (.slice A4 m c4) ∧ u.cell? ⟨w.heap.size,4,none⟩ = some (.slice A5 nl c5)) ∧ u.cell? ⟨w.heap.size + 1,2,none⟩ = some (.int .i64 j.Nodes) ∧ u.cell? ⟨w.heap.size + 1,3,none⟩ = some (.int .i64 j.Need.A) ∧ u.cell? ⟨w.heap.size + 1,4,none⟩ = some (.int .i64 j.Need.B) ∧ u.cell? ⟨w.heap.size + 1,5,none⟩ = some (.int .i64 j.Need.C) ∧ u.cell? ⟨w.heap.size + 1,6,none⟩ = some (.int .i64 j.Lic.A) ∧ u.cell? ⟨w.heap.size + 1,7,none⟩ = some (.int .i64 j.Lic.B) ∧ u.cell? ⟨w.heap.size + 1,8,none⟩ = some (.int .i64 j.Lic.C) ∧ u.cell? ⟨w.heap.size + 1,9,none⟩ = some (.int .i64 j.Wall) ∧ u.cell? ⟨w.heap.size + 1,10,none⟩ = some (.int .i64 j.Level)) ((refine HK2.out _ ?_;first | exact (Ext.refl _).drew | exact HX3.out | exact HX4.out)) (first
  | (go_at_call 138;(with_reducible refine (HEL.out _ _ ((EWH.out.trans HE2.out).trans ((Ext.refl _).drew))).mono ?_);rintro e w3 ⟨A6,n6,c6,xs6,rfl,hs6,hn6,hb6⟩;have HX3 := Hh (Ext.trans ((Ext.refl w2).drew) hb6);have HS6 := Hh hs6;clear hs6 hb6)
  | (go_at_call 137;(with_reducible refine (HCH.out xs6 A6 n6 c6 _ ((EWH.out.trans HE2.out).trans HX3.out) HS6.out (by omega)).mono ?_);rintro e w4 ⟨ok4,A7,n7,c7,xs7,rfl,hs7,hn7,hc7,hb7⟩;have HX4 := Hh (HX3.out.trans hb7);have HS7 := Hh (hs7.base (lo' := w.heap.size) ((EWH.out.trans HE2.out).trans HX3.out).le);clear hs7 hb7))
 all_goals
  go_wp2
  exact bodyPost_ret (by simp [results,Tryz.results121,go_sem, *]) rfl ⟨ok4,A7,n7,c7,xs7,rfl,HS7.out,hn7,hc7,(EWH.out.trans HE2.out).trans HX4.out⟩
def RetEarl (w : World) (rb : Bool) : Ending → World → Prop := fun e w' => ∃ (ok : Bool) (t : Int) (A : Option Addr) (n c : Nat) (xs : List Int),e = .returned (.tuple #[.int .i64 t,.slice A n c,.bool ok]) ∧ In64 t ∧ RowI w' w.heap.size A n c xs ∧ n ≤ 1048576 ∧ n ≤ c ∧ (ok = true → rb = true) ∧ Ext w w'
theorem retEarl_none {w w' : World} {rb : Bool} (hb : Ext w w') : RetEarl w rb (.returned (.tuple #[.int .i64 0,.slice none 0 0,.bool false])) w' := ⟨false,0,none,0,0,[],rfl,⟨by omega,by omega⟩,RowI.nil _ _,by omega,by omega,(fun h => by cases h),hb⟩
theorem Earliest_c (ps : List Int) (ns : List Node) (up : List Bool) (pl : List (List Pt)) (lic : List Pt) (j : Job) (t : Int) (v : Value) (w : World) (h : RoomAt w ps ns up (pl,lic) v) (hsm : roomSm ps ns up pl lic) (ht : In64 t) : Calls Tryz.prog 111 #[v,.agg #[.int .i64 j.Id,.int .i64 j.Prio,.int .i64 j.Nodes,.int .i64 j.Need.A,.int .i64 j.Need.B,.int .i64 j.Need.C,.int .i64 j.Lic.A,.int .i64 j.Lic.B,.int .i64 j.Lic.C,.int .i64 j.Wall,.int .i64 j.Level],.int .i64 t] w (RetEarl w (roomB ps ns up pl lic)) := by
 have HRO := Hh (fun (u : World) (e : Ext w u) => sRoomOkG_c ps ns up pl lic v u (h.ext e) hsm)
 have HJO := Hh (fun (u : World) => sJobOk_c j u)
 have HTI := Hh (fun u : World => sTime_c t u)
 have HTM := Hh (fun (hr : roomB ps ns up pl lic = true) (u : World) (e : Ext w u) => l04Times_c ps ns up pl lic t v u (h.ext e) hr ht)
 have HCN := Hh (fun (hr : roomB ps ns up pl lic = true) (t : Int) (u : World) (e : Ext w u) => l04Can_c ps ns up pl lic j t v u (h.ext e) hr)
 obtain ⟨A1,c1,A2,c2,A3,c3,A4,c4,A5,c5,rfl,h1,h2,h3,h4,h5⟩ := h
 simp only [] at HRO HTM HCN ⊢
 clear h1 h2 h3 h4 h5 hsm ht
 generalize roomB ps ns up pl lic = rb at *
 generalize ps.length = np at *
 generalize ns.length = nn at *
 generalize up.length = nu at *
 generalize pl.length = m at *
 generalize lic.length = nl at *
 rcases rb with _ | _
 ·clear HTM HCN
  go_enter Tryz.func111,Tryz.ntmps111
  go_wp2_with fail
  refine (HRO.out _ Ext.go).mono ?_
  rintro e w1 ⟨rfl,hb1⟩
  obtain ⟨hcr1,hfr1,hz1⟩ := hb1.rules
  (try simp at hz1)
  have hy1_w0 : w.heap.size < w1.heap.size := (by omega)
  have hy1_w1 : w.heap.size + 1 < w1.heap.size := (by omega)
  go_wp2
  exact bodyPost_ret (by simp [results,Tryz.results111,go_sem, *]) rfl (retEarl_none ((((Ext.refl w).alloc _).alloc _).trans hb1))
 rcases (Bool.eq_false_or_eq_true (jobB j)).symm with hj | hj
 all_goals rw [hj] at HJO
 ·clear HTM HCN hj
  go_enter Tryz.func111,Tryz.ntmps111
  go_wp2_with fail
  refine (HRO.out _ Ext.go).mono ?_
  rintro e w1 ⟨rfl,hb1⟩
  obtain ⟨hcr1,hfr1,hz1⟩ := hb1.rules
  (try simp at hz1)
  have hy1_w0 : w.heap.size < w1.heap.size := (by omega)
  have hy1_w1 : w.heap.size + 1 < w1.heap.size := (by omega)
  go_wp2_with fail
  refine (HJO.out _).mono ?_
  rintro e w2 ⟨rfl,hb2⟩
  obtain ⟨hcr2,hfr2,hz2⟩ := hb2.rules
  (try simp at hz2)
  have hy2_w0 : w.heap.size < w2.heap.size := (by omega)
  have hy2_w1 : w.heap.size + 1 < w2.heap.size := (by omega)
  go_wp2
  exact bodyPost_ret (by simp [results,Tryz.results111,go_sem, *]) rfl (retEarl_none ((((Ext.refl w).alloc _).alloc _).trans (hb1.trans hb2)))
 rcases (Bool.eq_false_or_eq_true (timeB t)).symm with hn | hn
 all_goals rw [hn] at HTI
 ·clear HTM HCN hj hn
  go_enter Tryz.func111,Tryz.ntmps111
  go_wp2_with fail
  refine (HRO.out _ Ext.go).mono ?_
  rintro e w1 ⟨rfl,hb1⟩
  obtain ⟨hcr1,hfr1,hz1⟩ := hb1.rules
  (try simp at hz1)
  have hy1_w0 : w.heap.size < w1.heap.size := (by omega)
  have hy1_w1 : w.heap.size + 1 < w1.heap.size := (by omega)
  go_wp2_with fail
  refine (HJO.out _).mono ?_
  rintro e w2 ⟨rfl,hb2⟩
  obtain ⟨hcr2,hfr2,hz2⟩ := hb2.rules
  (try simp at hz2)
  have hy2_w0 : w.heap.size < w2.heap.size := (by omega)
  have hy2_w1 : w.heap.size + 1 < w2.heap.size := (by omega)
  go_wp2_with fail
  refine (HTI.out _).mono ?_
  rintro e w3 ⟨rfl,rfl⟩
  go_wp2
  exact bodyPost_ret (by simp [results,Tryz.results111,go_sem, *]) rfl (retEarl_none ((((Ext.refl w).alloc _).alloc _).trans (hb1.trans hb2)))
 clear hj hn
 go_enter Tryz.func111,Tryz.ntmps111
 go_wp2_with fail
 refine (HRO.out _ Ext.go).mono ?_
 rintro e w1 ⟨rfl,hb1⟩
 obtain ⟨hcr1,hfr1,hz1⟩ := hb1.rules
 (try simp at hz1)
 have hy1_w0 : w.heap.size < w1.heap.size := (by omega)
 have hy1_w1 : w.heap.size + 1 < w1.heap.size := (by omega)
 go_wp2_with fail
 refine (HJO.out _).mono ?_
 rintro e w2 ⟨rfl,hb2⟩
 obtain ⟨hcr2,hfr2,hz2⟩ := hb2.rules
 (try simp at hz2)
 have hy2_w0 : w.heap.size < w2.heap.size := (by omega)
 have hy2_w1 : w.heap.size + 1 < w2.heap.size := (by omega)
 go_wp2_with fail
 refine (HTI.out _).mono ?_
 rintro e w3 ⟨rfl,rfl⟩
 have EW : Ext ((w.alloc (.cells #[.slice A1 np c1,.slice A2 nn c2,.slice A3 nu c3,.slice A4 m c4,.slice A5 nl c5] 73)).alloc (.cells #[.int .i64 j.Id,.int .i64 j.Prio,.int .i64 j.Nodes,.int .i64 j.Need.A,.int .i64 j.Need.B,.int .i64 j.Need.C,.int .i64 j.Lic.A,.int .i64 j.Lic.B,.int .i64 j.Lic.C,.int .i64 j.Wall,.int .i64 j.Level] 52)) w2 := hb1.trans hb2
 obtain ⟨q0,q1,q2,q3,q4⟩ := bc5 w (w.heap.size) (.slice A1 np c1) (.slice A2 nn c2) (.slice A3 nu c3) (.slice A4 m c4) (.slice A5 nl c5) 73 ((((Ext.refl _).alloc _).trans EW)) (by simp)
 obtain ⟨qf0,qf1,qf2,qf3,qf4⟩ := bf5 w (w.heap.size) (.slice A1 np c1) (.slice A2 nn c2) (.slice A3 nu c3) (.slice A4 m c4) (.slice A5 nl c5) 73 ((((Ext.refl _).alloc _).trans EW)) (by simp)
 obtain ⟨j0,j1,j2,j3,j4,j5,j6,j7,j8,j9,j10⟩ := bc11 (w.alloc (.cells #[.slice A1 np c1,.slice A2 nn c2,.slice A3 nu c3,.slice A4 m c4,.slice A5 nl c5] 73)) (w.heap.size + 1) (.int .i64 j.Id) (.int .i64 j.Prio) (.int .i64 j.Nodes) (.int .i64 j.Need.A) (.int .i64 j.Need.B) (.int .i64 j.Need.C) (.int .i64 j.Lic.A) (.int .i64 j.Lic.B) (.int .i64 j.Lic.C) (.int .i64 j.Wall) (.int .i64 j.Level) 52 ((EW)) (by simp)
 obtain ⟨jf0,jf1,jf2,jf3,jf4,jf5,jf6,jf7,jf8,jf9,jf10⟩ := bf11 (w.alloc (.cells #[.slice A1 np c1,.slice A2 nn c2,.slice A3 nu c3,.slice A4 m c4,.slice A5 nl c5] 73)) (w.heap.size + 1) (.int .i64 j.Id) (.int .i64 j.Prio) (.int .i64 j.Nodes) (.int .i64 j.Need.A) (.int .i64 j.Need.B) (.int .i64 j.Need.C) (.int .i64 j.Lic.A) (.int .i64 j.Lic.B) (.int .i64 j.Lic.C) (.int .i64 j.Wall) (.int .i64 j.Level) 52 ((EW)) (by simp)
 have hz0 := lt_of_cell j0
 simp only [] at hz0
 have EWW : Ext w w2 := (((Ext.refl w).alloc _).alloc _).trans EW
 clear qf0 qf1 qf2 qf3 qf4 jf0 jf1 jf2 jf3 jf4 jf5 jf6 jf7 jf8 jf9 jf10 hb1 hb2 hcr1 hfr1 hcr2 hfr2 EW
 go_wp2_with fail
 refine (HTM.out trivial _ EWW).mono ?_
 rintro e w4 ⟨A6,n6,c6,xs6,rfl,hs6,hn6,hb6⟩
 have HS6 := Hh (fun (u : World) (e : Ext w4 u) => hs6.ext (Flat.mono encInt In64) e)
 have HI6 := Hh hs6.all
 have EW4 := EWW.trans hb6
 have HQ := Hh (fun (u : World) (e : Ext w4 u) => show (u.cell? ⟨w.heap.size,0,none⟩ = some (.slice A1 np c1) ∧ u.cell? ⟨w.heap.size,1,none⟩ = some (.slice A2 nn c2) ∧ u.cell? ⟨w.heap.size,2,none⟩ = some (.slice A3 nu c3) ∧ u.cell? ⟨w.heap.size,3,none⟩ = some (.slice A4 m c4) ∧ u.cell? ⟨w.heap.size,4,none⟩ = some (.slice A5 nl c5)) ∧ u.cell? ⟨w.heap.size + 1,0,none⟩ = some (.int .i64 j.Id) ∧ u.cell? ⟨w.heap.size + 1,1,none⟩ = some (.int .i64 j.Prio) ∧ u.cell? ⟨w.heap.size + 1,2,none⟩ = some (.int .i64 j.Nodes) ∧ u.cell? ⟨w.heap.size + 1,3,none⟩ = some (.int .i64 j.Need.A) ∧ u.cell? ⟨w.heap.size + 1,4,none⟩ = some (.int .i64 j.Need.B) ∧ u.cell? ⟨w.heap.size + 1,5,none⟩ = some (.int .i64 j.Need.C) ∧ u.cell? ⟨w.heap.size + 1,6,none⟩ = some (.int .i64 j.Lic.A) ∧ u.cell? ⟨w.heap.size + 1,7,none⟩ = some (.int .i64 j.Lic.B) ∧ u.cell? ⟨w.heap.size + 1,8,none⟩ = some (.int .i64 j.Lic.C) ∧ u.cell? ⟨w.heap.size + 1,9,none⟩ = some (.int .i64 j.Wall) ∧ u.cell? ⟨w.heap.size + 1,10,none⟩ = some (.int .i64 j.Level) from ⟨⟨e.cell (hb6.cell q0),e.cell (hb6.cell q1),e.cell (hb6.cell q2),e.cell (hb6.cell q3),e.cell (hb6.cell q4)⟩,e.cell (hb6.cell j0),e.cell (hb6.cell j1),e.cell (hb6.cell j2),e.cell (hb6.cell j3),e.cell (hb6.cell j4),e.cell (hb6.cell j5),e.cell (hb6.cell j6),e.cell (hb6.cell j7),e.cell (hb6.cell j8),e.cell (hb6.cell j9),e.cell (hb6.cell j10)⟩)
 clear q0 q1 q2 q3 q4 j0 j1 j2 j3 j4 j5 j6 j7 j8 j9 j10 hs6 hb6 EWW HRO HJO HTI HTM
 go_wp2
 go_loopw [30] (fun iv wr => ∃ k : Nat,k ≤ n6 ∧ iv = .int .i64 k ∧ Ext w4 wr) (fun iv _ => n6 - (intOf iv).toNat)
 case atStart => exact ⟨0,Nat.zero_le _,rfl,Ext.refl _⟩
 case round =>
  obtain ⟨k,hk,rfl,hb⟩ := hrel
  by_cases hlt : k < n6
  ·obtain ⟨bo,oo,x,cs,hD,hbw,hx,_,hc,rfl,_⟩ := (HS6.out wr hb).at_ hlt
   subst hD
   have g0 := hc 0 _ rfl
   simp only [Nat.mul_one,Nat.add_zero] at g0
   have hxi := HI6.out x (List.mem_of_getElem? hx)
   clear hc hx
   obtain ⟨⟨q0,q1,q2,q3,q4⟩,j0,j1,j2,j3,j4,j5,j6,j7,j8,j9,j10⟩ := HQ.out wr hb
   have hz := lt_of_cell j0
   simp only [] at hz
   go_wp2_with fail
   refine (HCN.out trivial x _ (EW4.trans hb)).mono ?_
   rintro e w5 ⟨ok5,A7,n7,c7,xs7,rfl,hs7,hn7,hc7,hb7⟩
   have HS7 := Hh (hs7.base (lo' := w.heap.size) (EW4.trans hb).le)
   clear hs7 q0 q1 q2 q3 q4 j0 j1 j2 j3 j4 j5 j6 j7 j8 j9 j10
   rcases ok5 with _ | _
   ·go_wp2
    go_roundw
    case rel => exact ⟨k + 1,by omega,by go_num,hb.trans hb7⟩
    case measure => simp [intOf];omega
   ·go_wp2
    exact bodyPost_ret (by simp [results,Tryz.results111,go_sem, *]) rfl ⟨true,x,A7,n7,c7,xs7,rfl,hxi,HS7.out,hn7,hc7,(fun _ => rfl),(EW4.trans hb).trans hb7⟩
  ·obtain rfl : k = n6 := by omega
   go_wp2
   exact bodyPost_ret (by simp [results,Tryz.results111,go_sem, *]) rfl (retEarl_none (EW4.trans hb))
end Go.Proofs.YtfanjhcdjbnnnaaGreat
