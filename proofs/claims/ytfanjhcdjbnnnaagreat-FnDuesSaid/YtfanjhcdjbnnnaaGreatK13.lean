/- ChooseS, ChooseS2, ChooseC. -/
import Derived.Test.YtfanjhcdjbnnnaaGreatK12
import Derived.Deep.RegionHeld3
import Derived.Test.YtfanjhcdjbnnnaaGreatK09
namespace Go.Proofs.YtfanjhcdjbnnnaaGreat
open Go.RowKit
set_option linter.unusedVariables false
set_option maxHeartbeats 16000000
set_option maxRecDepth 10000
theorem l04Of_c (ps : List Int) (ns : List Node) (nodes : List Int) (s : Int) (A : Option Addr) (n c : Nat) (B : Option Addr) (q d : Nat) (D : Option Addr) (m f : Nat) (w : World) (h : SlAt RInt 1 w A n ps) (h2 : SlAt RNode 4 w B q ns) (h3 : SlAt RInt 1 w D m nodes) (hm : m ≤ 1000) (ht : topoB ps ns = true) (hv : ∀ x ∈ nodes,0 ≤ x ∧ x < (ns.length : Int)) : Calls Tryz.prog 147 #[.agg #[.slice A n c,.slice B q d],.slice D m f,.int .i64 s] w (RetOwn RInt 3 1 w (ofL ps ns nodes s)) := by
 obtain ⟨i0,hi,hI0,hI1,hI2⟩ := info_parts TInt.info
 have htp := topo_parts ht
 have hn : n ≤ 24 := by have := htp.1.2;rw [h.len] at this;exact this
 have hq : q ≤ 24 := by have := htp.2.1;rw [h2.len] at this;exact this
 have HAB := Hh (fun (s : Nat) (hs : s < n) (u : World) (e : Ext w u) => RetOwn.sl (l02Up_c ps ns s A n c B q d u (h.ext (Flat.mono _ _) e) hn hs htp.2.2.1))
 have H2 := Hh (fun (u : World) (e : Ext w u) => h2.ext (Flat.mono Node.enc Node.ok) e)
 have H3 := Hh (fun (u : World) (e : Ext w u) => h3.ext (Flat.mono encInt In64) e)
 have HND := Hh (fun (x : Node) (hx : x ∈ ns) => show 0 ≤ x.Leaf ∧ x.Leaf < (n : Int) from by
  have h5 := htp.2.2.2.2.1 x hx
  unfold nodeB withinB at h5
  simp only [Bool.and_eq_true,decide_eq_true_iff] at h5
  have := h5.1
  have h6 := h.len
  omega)
 have HVN := Hh (fun (x : Int) (hx : x ∈ nodes) => show 0 ≤ x ∧ x < (q : Int) from by have := hv x hx;rw [h2.len] at this;exact this)
 have HNL := Hh h3.len
 have hlu := Hh (fun s => upL_len ps s)
 have HF := Hh (show ofL ps ns nodes s = [] ++ (nodes.drop 0).filter (overOne ps ns s) from rfl)
 clear h h2 h3 ht hv htp
 generalize ofL ps ns nodes s = R at *
 go_enter Tryz.func147,Tryz.ntmps147
 go_wp2
 obtain ⟨W1,hW1⟩ : ∃ u,u = w.alloc (.cells #[.slice A n c,.slice B q d] 26) := ⟨_,rfl⟩
 have E1 : Ext w W1 := by rw [hW1];exact (Ext.refl w).alloc _
 have q0 : W1.cell? ⟨w.heap.size,0,none⟩ = some (.slice A n c) := by rw [hW1];exact law_box w [.slice A n c,.slice B q d] _ 0 _ rfl
 have q1 : W1.cell? ⟨w.heap.size,1,none⟩ = some (.slice B q d) := by rw [hW1];exact law_box w [.slice A n c,.slice B q d] _ 1 _ rfl
 have hsz : W1.heap.size = w.heap.size + 1 := by rw [hW1];simp
 have HO0 := Hh (show (W1.alloc (.cells #[] 3)).ownsRow (w.heap.size + 1) 3 1 (.slice (some ⟨w.heap.size + 1,0,none⟩) 0 0) 0 [] by rw [← hsz];exact owns_empty W1 3 1)
 rw [← hW1]
 clear hW1
 go_loopw [7,13] (fun l iv wr => ∃ (k a : Nat) (A1 : Option Addr) (c1 : Nat) (acc : List Int),k ≤ m ∧ iv = .int .i64 k ∧ l = .slice A1 a c1 ∧ a ≤ k ∧ Hid (a = acc.length) ∧ Hid (R = acc ++ (nodes.drop k).filter (overOne ps ns s)) ∧ Hid (∀ y ∈ acc,In64 y) ∧ Hid (wr.ownsRow (w.heap.size + 1) 3 1 (.slice A1 a c1) a (acc.flatMap encInt)) ∧ Ext W1 wr) (fun _ iv _ => m - (intOf iv).toNat)
 case atStart => exact ⟨0,0,_,0,[],by omega,rfl,rfl,by omega,Hh rfl,HF,Hh (fun y hy => by cases hy),HO0,(Ext.refl _).alloc _⟩
 case round =>
  clear HO0 HF
  obtain ⟨k,a,A1,c1,acc,hk,rfl,rfl,hak,HL,HR,HIN,HO,hb⟩ := hrel
  have hxq : Ext w wr := E1.trans hb
  by_cases hlt : k < m
  ·obtain ⟨bo,oo,x,cs,hD,hbw,hx,_,hc,rfl,_⟩ := (H3.out wr hxq).at_ hlt
   subst hD
   have g0 := hc 0 _ rfl
   simp only [Nat.mul_one,Nat.add_zero] at g0
   have HD := Hh (drop_cons hx)
   obtain ⟨hxa,hxb⟩ := HVN.out x (List.mem_of_getElem? hx)
   obtain ⟨i,rfl⟩ := Int.eq_ofNat_of_zero_le hxa
   have hi' : i < q := by omega
   obtain ⟨bn,on,y,cs2,hB,hbw2,hy,_,hc2,rfl,_⟩ := (H2.out wr hxq).at_ hi'
   subst hB
   have y0 := hc2 0 _ rfl
   have y1 := hc2 1 _ rfl
   have y2 := hc2 2 _ rfl
   have y3 := hc2 3 _ rfl
   simp only [Nat.add_zero] at y0
   have hyl := HND.out y (List.mem_of_getElem? hy)
   have HOV := Hh (show overOne ps ns s (i : Int) = (upL ps y.Leaf.toNat).contains s by unfold overOne;rw [show ((i : Int)).toNat = i by omega,List.getD_eq_getElem?_getD,hy];rfl)
   obtain ⟨lf,hlf⟩ : ∃ lf : Nat,y.Leaf = lf := ⟨y.Leaf.toNat,by omega⟩
   rw [hlf] at y0 HOV hyl
   rw [show ((lf : Int)).toNat = lf by omega] at HOV
   have HAB2 := Hh (fun (u : World) (e : Ext wr u) => HAB.out lf (by omega) u (hxq.trans e))
   have z0 := hb.cell q0
   have z1 := hb.cell q1
   have hz0 := lt_of_cell z0
   have hul := hlu.out lf
   clear hx hc hy hc2 y1 y2 y3 hxa hlf
   obtain ⟨ct,hct⟩ : ∃ ct,(upL ps lf).contains s = ct := ⟨_,rfl⟩
   have HCT := Hh hct
   clear hct
   have HKS := Hh (fun (u : World) (e : Ext wr u) => show Ext wr u ∧ u.cell? ⟨w.heap.size,0,none⟩ = some (.slice A n c) ∧ u.cell? ⟨w.heap.size,1,none⟩ = some (.slice (some ⟨bn,on,none⟩) q d) ∧ u.cell? ⟨bn,on + i * 4,none⟩ = some (.int .i64 lf) from ⟨e,e.cell z0,e.cell z1,e.cell y0⟩)
   rcases ct with _ | _
   ·have HT := Hh (show R = acc ++ (nodes.drop (k + 1)).filter (overOne ps ns s) by rw [HR.out,HD.out,List.filter_cons,HOV.out,HCT.out];rfl)
    go_wp2
    go_region_held3 (fun u => Ext wr u ∧ u.cell? ⟨w.heap.size,0,none⟩ = some (.slice A n c) ∧ u.cell? ⟨w.heap.size,1,none⟩ = some (.slice (some ⟨bn,on,none⟩) q d) ∧ u.cell? ⟨bn,on + i * 4,none⟩ = some (.int .i64 lf)) ((refine HKS.out _ ?_;first | exact (Ext.refl _).drew | assumption | exact HE6.out | exact HE5.out)) (first | (go_at_call 65;(with_reducible refine (HAB2.out _ (by repeat (first | exact Ext.refl _ | apply Ext.drew))).mono ?_);rintro e w5 ⟨A5,c5,rfl,hs5,hb5⟩;have HE5 := Hh (show Ext wr w5 from Ext.trans (by repeat (first | exact Ext.refl _ | apply Ext.drew)) hb5);have HS5 := Hh hs5;clear hs5) | (go_at_call 64;(have hcc := l02Has_c (upL ps lf) s A5 (upL ps lf).length c5 _ HS5.out (by unfold maxLen;omega));rw [HCT.out] at hcc;(with_reducible refine hcc.mono ?_);rintro e w6 ⟨rfl,hb6⟩;have HE6 := Hh (HE5.out.trans hb6)))
    all_goals
     go_wp2
     go_roundw
     case rel => exact ⟨k + 1,a,A1,c1,acc,by omega,by go_num,rfl,by omega,HL,HT,HIN,Hh (owns_ext HO.out HE6.out),hb.trans HE6.out⟩
     case measure => simp [intOf];omega
   ·have HT := Hh (show R = (acc ++ [(i : Int)]) ++ (nodes.drop (k + 1)).filter (overOne ps ns s) by rw [HR.out,HD.out,List.filter_cons,HOV.out,HCT.out];simp)
    go_wp2
    go_region_held3 (fun u => Ext wr u ∧ u.cell? ⟨w.heap.size,0,none⟩ = some (.slice A n c) ∧ u.cell? ⟨w.heap.size,1,none⟩ = some (.slice (some ⟨bn,on,none⟩) q d) ∧ u.cell? ⟨bn,on + i * 4,none⟩ = some (.int .i64 lf)) ((refine HKS.out _ ?_;first | exact (Ext.refl _).drew | assumption | exact HE6.out | exact HE5.out)) (first | (go_at_call 65;(with_reducible refine (HAB2.out _ (by repeat (first | exact Ext.refl _ | apply Ext.drew))).mono ?_);rintro e w5 ⟨A5,c5,rfl,hs5,hb5⟩;have HE5 := Hh (show Ext wr w5 from Ext.trans (by repeat (first | exact Ext.refl _ | apply Ext.drew)) hb5);have HS5 := Hh hs5;clear hs5) | (go_at_call 64;(have hcc := l02Has_c (upL ps lf) s A5 (upL ps lf).length c5 _ HS5.out (by unfold maxLen;omega));rw [HCT.out] at hcc;(with_reducible refine hcc.mono ?_);rintro e w6 ⟨rfl,hb6⟩;have HE6 := Hh (HE5.out.trans hb6)))
    all_goals
     have hb6 := hb.trans HE6.out
     have HO6 := Hh (owns_ext HO.out HE6.out)
     have hle6 := hb6.le
     clear z0 z1 hz0 y0
     go_wp2_with (at_builtin;go_must (refine wpList_append_r (enc := encInt) (ok := In64) (.tmp 27) (.tmp 29) _ (w.heap.size + 1) 3 i0 _ 1 8 (.slice A1 a c1) a _ (some ⟨w6.heap.size,0,none⟩) 1 1 [(i : Int)] rfl rfl Tryz.underlying23 hi hI0 hI1 hI2 rfl (by omega) rfl (owns_ext HO6.out ((Ext.refl _).alloc _)) rfl (by exact sl_one_at (enc := encInt) _ _ rfl (i : Int) 3 rfl ⟨by omega,by omega⟩) (fun _ => rfl) TInt.one (by unfold maxLen;omega) (by omega) (by simp;omega) ?_);intro A9 c9 w7 hr7;have HR7 := Hh hr7;clear hr7)
     have HX7 := Hh (ext_turned (hb6.alloc _) (HR7.out.turned (lo := w.heap.size + 1) (fun q hq => (HO6.out.lt q hq).1)) (by omega))
     go_wp2
     go_roundw
     case rel => exact ⟨k + 1,a + 1,A9,c9,acc ++ [(i : Int)],by omega,by go_num,rfl,by omega,Hh (by rw [List.length_append,← HL.out];rfl),HT,Hh (fun y hy => by rcases List.mem_append.1 hy with hy | hy;exact HIN.out y hy;(rw [List.mem_singleton.1 hy];exact ⟨by omega,by omega⟩)),Hh (by have h := HR7.out.row;rw [List.flatMap_append];simpa using h),HX7.out⟩
     case measure => simp [intOf];omega
  ·have HT := Hh (show R = acc by rw [HR.out,List.drop_eq_nil_of_le (by have := HNL.out;omega)];simp)
   have HLT := Hh (show R.length = a by rw [HT.out,← HL.out])
   have HOT := Hh (show wr.ownsRow (w.heap.size + 1) 3 1 (.slice A1 a c1) a (R.flatMap encInt) by rw [HT.out];exact HO.out)
   have HIT := Hh (show ∀ y ∈ R,In64 y by rw [HT.out];exact HIN.out)
   go_wp2
   exact ret_own2 rfl (owns_base HOT.out (by omega)) HLT.out encInt_size HIT.out hxq
def RetIdx (w : World) (p : Int → Prop) : Ending → World → Prop := fun e w' => ∃ r : Int,e = .returned (.int .i64 r) ∧ p r ∧ Ext w w'
theorem ret_idx {w w0 : World} {P : Program} {fn : Func} {a : Act} {r : Int} {t : Tmp} {p : Int → Prop} (hr : fn.results = #[.tmp t]) (h : p r) (hb : Ext w0 w) (hv : a.tmps.getD t undef = .int .i64 r := by rfl) (hd : a.defers = [] := by rfl) : bodyPost P fn (RetIdx w0 p) .ret a w :=
 bodyPost_ret (results_tmp hr _ _ _) hd (by rw [hv];exact ⟨r,rfl,h,hb⟩)
theorem l04Switch_c (ps : List Int) (ns : List Node) (nodes : List Int) (nn level : Int) (A : Option Addr) (n c : Nat) (B : Option Addr) (q d : Nat) (D : Option Addr) (m f : Nat) (w : World) (h : SlAt RInt 1 w A n ps) (h2 : SlAt RNode 4 w B q ns) (h3 : SlAt RInt 1 w D m nodes) (hm : m ≤ 1000) (ht : topoB ps ns = true) (hv : ∀ x ∈ nodes,0 ≤ x ∧ x < (ns.length : Int)) : Calls Tryz.prog 146 #[.agg #[.slice A n c,.slice B q d],.slice D m f,.int .i64 nn,.int .i64 level] w (RetIdx w (fun r => r = -1 ∨ ∃ t : Nat,r = t ∧ t < n ∧ nn ≤ ((ofL ps ns nodes t).length : Int))) := by
 have htp := topo_parts ht
 have hn : n ≤ 24 := by have := htp.1.2;rw [h.len] at this;exact this
 have HOF := Hh (fun (s : Int) (u : World) (e : Ext w u) => RetOwn.sl (l04Of_c ps ns nodes s A n c B q d D m f u (h.ext (Flat.mono _ _) e) (h2.ext (Flat.mono _ _) e) (h3.ext (Flat.mono _ _) e) hm ht hv))
 have HLV := Hh (fun (s : Nat) (hs : s < n) (u : World) (e : Ext w u) => show Calls Tryz.prog 36 #[.agg #[.slice A n c,.slice B q d],.int .i64 s] u (Ret u (.int .i64 (levT ps s))) from by
  have h1 := l02Level_c ps A n c B q d hn h.len htp.2.2.1 24 s u hs (by omega) (h.ext (Flat.mono _ _) e) (Nat.le_refl _)
  rw [lev_eq ht (by rw [h.len];exact hs) (by rw [h.len];omega)] at h1
  exact h1)
 clear h h2 h3 ht hv htp
 go_enter Tryz.func146,Tryz.ntmps146
 go_wp2
 obtain ⟨W1,hW1⟩ : ∃ u,u = w.alloc (.cells #[.slice A n c,.slice B q d] 26) := ⟨_,rfl⟩
 have E1 : Ext w W1 := by rw [hW1];exact (Ext.refl w).alloc _
 have q0 : W1.cell? ⟨w.heap.size,0,none⟩ = some (.slice A n c) := by rw [hW1];exact law_box w [.slice A n c,.slice B q d] _ 0 _ rfl
 have q1 : W1.cell? ⟨w.heap.size,1,none⟩ = some (.slice B q d) := by rw [hW1];exact law_box w [.slice A n c,.slice B q d] _ 1 _ rfl
 rw [← hW1]
 clear hW1
 go_loopw [9,16] (fun bv iv wr => ∃ (k : Nat) (bst : Int),k ≤ n ∧ iv = .int .i64 k ∧ bv = .int .i64 bst ∧ Hid (bst = -1 ∨ ∃ t : Nat,bst = t ∧ t < n ∧ nn ≤ ((ofL ps ns nodes t).length : Int)) ∧ Ext W1 wr) (fun _ iv _ => n - (intOf iv).toNat)
 case atStart => exact ⟨0,-1,Nat.zero_le _,rfl,rfl,Hh (.inl rfl),Ext.refl _⟩
 case round =>
  obtain ⟨k,bst,hk,rfl,rfl,HB,hb⟩ := hrel
  by_cases hlt : k < n
  ·have z0 := hb.cell q0
   have z1 := hb.cell q1
   have hz0 := lt_of_cell z0
   have HO1 := Hh (HOF.out (k : Int) wr (E1.trans hb))
   have HGK := Hh (fun (hg : nn ≤ ((ofL ps ns nodes (k : Int)).length : Int)) => show (k : Int) = -1 ∨ ∃ t : Nat,(k : Int) = t ∧ t < n ∧ nn ≤ ((ofL ps ns nodes t).length : Int) from .inr ⟨k,rfl,hlt,hg⟩)
   generalize (ofL ps ns nodes (k : Int)) = L1 at HO1 HGK
   have HLK := Hh (HLV.out k hlt)
   generalize levT ps k = l1 at *
   go_wp2_with fail
   refine HO1.out.mono ?_
   rintro e w5 ⟨A5,c5,rfl,hs5,hb5⟩
   generalize L1.length = K1 at *
   clear hs5 HO1
   have hb5 := hb.trans hb5
   have z0 := hb5.cell q0
   have z1 := hb5.cell q1
   have hz0 := lt_of_cell z0
   go_wp2_with fail
   refine (HLK.out w5 (E1.trans hb5)).mono ?_
   rintro e w6 ⟨rfl,hb6⟩
   have hb6 := hb5.trans hb6
   have z0 := hb6.cell q0
   have z1 := hb6.cell q1
   have hz0 := lt_of_cell z0
   by_cases hc1 : (K1 : Int) < nn
   ·have hd1 : decide ((K1 : Int) < nn) = true := decide_eq_true hc1
    go_wp2
    go_roundw
    case rel => exact ⟨k + 1,bst,by omega,by go_num,rfl,HB,hb6⟩
    case measure => simp [intOf];omega
   have hd1 : decide ((K1 : Int) < nn) = false := decide_eq_false hc1
   have HGK2 := Hh (HGK.out (by omega))
   clear hc1 HGK
   by_cases hc2 : level < l1
   ·have hd2 : decide (level < l1) = true := decide_eq_true hc2
    go_wp2
    go_roundw
    case rel => exact ⟨k + 1,bst,by omega,by go_num,rfl,HB,hb6⟩
    case measure => simp [intOf];omega
   have hd2 : decide (level < l1) = false := decide_eq_false hc2
   clear hc2
   rcases HB.out with rfl | ⟨t,rfl,ht,htn⟩
   ·go_wp2
    go_roundw
    case rel => exact ⟨k + 1,k,by omega,by go_num,rfl,HGK2,hb6⟩
    case measure => simp [intOf];omega
   have hdb : decide ((t : Int) < 0) = false := by rw [decide_eq_false_iff_not];omega
   have HLT := Hh (HLV.out t ht)
   have HO2 := Hh (HOF.out (t : Int))
   clear htn
   generalize levT ps t = l2 at *
   go_wp2_with fail
   refine (HLT.out w6 (E1.trans hb6)).mono ?_
   rintro e w7 ⟨rfl,hb7⟩
   have hb7 := hb6.trans hb7
   have z0 := hb7.cell q0
   have z1 := hb7.cell q1
   have hz0 := lt_of_cell z0
   by_cases hc3 : l1 < l2
   ·have hd3 : decide (l1 < l2) = true := decide_eq_true hc3
    go_wp2
    go_roundw
    case rel => exact ⟨k + 1,k,by omega,by go_num,rfl,HGK2,hb7⟩
    case measure => simp [intOf];omega
   have hd3 : decide (l1 < l2) = false := decide_eq_false hc3
   clear hc3
   go_wp2_with fail
   refine (HLT.out w7 (E1.trans hb7)).mono ?_
   rintro e w8 ⟨rfl,hb8⟩
   have hb8 := hb7.trans hb8
   have z0 := hb8.cell q0
   have z1 := hb8.cell q1
   have hz0 := lt_of_cell z0
   rcases hc4 : l1 == l2 with _ | _
   ·go_wp2
    go_roundw
    case rel => exact ⟨k + 1,t,by omega,by go_num,rfl,HB,hb8⟩
    case measure => simp [intOf];omega
   go_wp2_with fail
   refine (HO2.out w8 (E1.trans hb8)).mono ?_
   rintro e w9 ⟨A9,c9,rfl,hs9,hb9⟩
   have hb9 := hb8.trans hb9
   clear hs9
   generalize (ofL ps ns nodes (t : Int)).length = K2
   by_cases hc5 : K1 < K2
   ·have hd5 : decide (K1 < K2) = true := decide_eq_true hc5
    have hd6 : decide ((K1 : Int) < (K2 : Int)) = true := by rw [decide_eq_true_iff];omega
    go_wp2
    go_roundw
    case rel => exact ⟨k + 1,k,by omega,by go_num,rfl,HGK2,hb9⟩
    case measure => simp [intOf];omega
   ·have hd5 : decide (K1 < K2) = false := decide_eq_false hc5
    have hd6 : decide ((K1 : Int) < (K2 : Int)) = false := by rw [decide_eq_false_iff_not];omega
    go_wp2
    go_roundw
    case rel => exact ⟨k + 1,t,by omega,by go_num,rfl,HB,hb9⟩
    case measure => simp [intOf];omega
  ·go_wp2
   exact ret_idx rfl HB.out (E1.trans hb)
theorem l04Leaf_c (ps : List Int) (ns : List Node) (nodes taken : List Int) (A : Option Addr) (n c : Nat) (B : Option Addr) (q d : Nat) (D : Option Addr) (m f : Nat) (T : Option Addr) (tn tc : Nat) (w : World) (h : SlAt RInt 1 w A n ps) (h2 : SlAt RNode 4 w B q ns) (h3 : SlAt RInt 1 w D m nodes) (hm : m ≤ 1000) (h4 : SlAt RInt 1 w T tn taken) (htn : tn ≤ maxLen) (ht : topoB ps ns = true) (hv : ∀ x ∈ nodes,0 ≤ x ∧ x < (ns.length : Int)) : Calls Tryz.prog 148 #[.agg #[.slice A n c,.slice B q d],.slice D m f,.slice T tn tc] w (RetIdx w (fun r => (r = -1 ∧ ∀ s : Nat,s < n → candB ps ns nodes taken s = false) ∨ ∃ t : Nat,r = t ∧ t < n ∧ candB ps ns nodes taken t = true)) := by
 have htp := topo_parts ht
 have hn : n ≤ 24 := by have := htp.1.2;rw [h.len] at this;exact this
 have HOF := Hh (fun (s : Int) (u : World) (e : Ext w u) => RetOwn.sl (l04Of_c ps ns nodes s A n c B q d D m f u (h.ext (Flat.mono _ _) e) (h2.ext (Flat.mono _ _) e) (h3.ext (Flat.mono _ _) e) hm ht hv))
 have HKI := Hh (fun (s : Int) (u : World) (e : Ext w u) => RetOwn.sl (l02Kids_c ps s A n c B q d u (h.ext (Flat.mono _ _) e) (by omega)))
 have HHA := Hh (fun (s : Int) (u : World) (e : Ext w u) => l02Has_c taken s T tn tc u (h4.ext (Flat.mono _ _) e) htn)
 clear h h2 h3 h4 ht hv htp
 go_enter Tryz.func148,Tryz.ntmps148
 go_wp2
 obtain ⟨W1,hW1⟩ : ∃ u,u = w.alloc (.cells #[.slice A n c,.slice B q d] 26) := ⟨_,rfl⟩
 have E1 : Ext w W1 := by rw [hW1];exact (Ext.refl w).alloc _
 have q0 : W1.cell? ⟨w.heap.size,0,none⟩ = some (.slice A n c) := by rw [hW1];exact law_box w [.slice A n c,.slice B q d] _ 0 _ rfl
 have q1 : W1.cell? ⟨w.heap.size,1,none⟩ = some (.slice B q d) := by rw [hW1];exact law_box w [.slice A n c,.slice B q d] _ 1 _ rfl
 rw [← hW1]
 clear hW1
 go_loopw [7,13] (fun bv iv wr => ∃ (k : Nat) (bst : Int),k ≤ n ∧ iv = .int .i64 k ∧ bv = .int .i64 bst ∧ Hid ((bst = -1 ∧ ∀ s : Nat,s < k → candB ps ns nodes taken s = false) ∨ ∃ t : Nat,bst = t ∧ t < n ∧ candB ps ns nodes taken t = true) ∧ Ext W1 wr) (fun _ iv _ => n - (intOf iv).toNat)
 case atStart => exact ⟨0,-1,Nat.zero_le _,rfl,rfl,Hh (.inl ⟨rfl,fun s hs => by omega⟩),Ext.refl _⟩
 case round =>
  obtain ⟨k,bst,hk,rfl,rfl,HB,hb⟩ := hrel
  by_cases hlt : k < n
  ·have z0 := hb.cell q0
   have z1 := hb.cell q1
   have hz0 := lt_of_cell z0
   have HO1 := Hh (HOF.out (k : Int) wr (E1.trans hb))
   have HK1 := Hh (HKI.out (k : Int))
   have HH1 := Hh (HHA.out (k : Int))
   have HCD := Hh (show candB ps ns nodes taken k = (!(ofL ps ns nodes (k : Int)).isEmpty && ((kidsL ps k).isEmpty && !taken.contains (k : Int))) from rfl)
   have HNO := Hh (fun (hg : candB ps ns nodes taken k = false) => show (bst = -1 ∧ ∀ s : Nat,s < k + 1 → candB ps ns nodes taken s = false) ∨ ∃ t : Nat,bst = t ∧ t < n ∧ candB ps ns nodes taken t = true from by
    rcases HB.out with ⟨h1,h2⟩ | h1
    ·exact .inl ⟨h1,fun s hs => by
      rcases Nat.lt_or_ge s k with h3 | h3
      ·exact h2 s h3
      ·obtain rfl : s = k := by omega
       exact hg⟩
    ·exact .inr h1)
   have HYE := Hh (fun (hg : candB ps ns nodes taken k = true) => show ((k : Int) = -1 ∧ ∀ s : Nat,s < k + 1 → candB ps ns nodes taken s = false) ∨ ∃ t : Nat,(k : Int) = t ∧ t < n ∧ candB ps ns nodes taken t = true from .inr ⟨k,rfl,hlt,hg⟩)
   have HBK := Hh (fun (t : Nat) (hbt : bst = t) => show (bst = -1 ∧ ∀ s : Nat,s < k + 1 → candB ps ns nodes taken s = false) ∨ ∃ t : Nat,bst = t ∧ t < n ∧ candB ps ns nodes taken t = true from by
    rcases HB.out with ⟨h1,_⟩ | h1
    ·omega
    ·exact .inr h1)
   generalize (ofL ps ns nodes (k : Int)) = L1 at HO1 HCD
   generalize hcd : candB ps ns nodes taken k = cd at HCD HNO HYE
   clear hcd
   go_wp2_with fail
   refine HO1.out.mono ?_
   rintro e w5 ⟨A5,c5,rfl,hs5,hb5⟩
   have hb5 := hb.trans hb5
   have z0 := hb5.cell q0
   have z1 := hb5.cell q1
   have hz0 := lt_of_cell z0
   clear hs5 HO1
   rcases L1 with _ | ⟨a0,L1⟩
   ·have HN2 := Hh (HNO.out (by rw [HCD.out];rfl))
    rw [show ([] : List Int).length = 0 from rfl]
    go_wp2
    go_roundw
    case rel => exact ⟨k + 1,bst,by omega,by go_num,rfl,HN2,hb5⟩
    case measure => simp [intOf];omega
   have hkz : (((a0 :: L1).length : Int) == 0) = false := by rw [beq_eq_false_iff_ne,List.length_cons];omega
   have hCD := HCD.out
   rw [show (!(a0 :: L1).isEmpty) = true from rfl,Bool.true_and] at hCD
   have HCD := Hh hCD
   clear hCD
   generalize (a0 :: L1).length = K1 at *
   go_wp2_with fail
   refine (HK1.out w5 (E1.trans hb5)).mono ?_
   rintro e w6 ⟨A6,c6,rfl,hs6,hb6⟩
   have hb6 := hb5.trans hb6
   have z0 := hb6.cell q0
   have z1 := hb6.cell q1
   have hz0 := lt_of_cell z0
   clear hs6 HK1
   generalize kidsL ps k = L2 at *
   rcases L2 with _ | ⟨a1,L2⟩
   rotate_left
   ·have HN2 := Hh (HNO.out (by rw [HCD.out];rfl))
    have hkp : decide (0 < (a1 :: L2).length) = true := by simp
    have hkq : decide ((0 : Int) < ((a1 :: L2).length : Int)) = true := by rw [decide_eq_true_iff,List.length_cons];omega
    generalize (a1 :: L2).length = K2 at *
    go_wp2
    go_roundw
    case rel => exact ⟨k + 1,bst,by omega,by go_num,rfl,HN2,hb6⟩
    case measure => simp [intOf];omega
   have hCD := HCD.out
   rw [show (([] : List Int).isEmpty) = true from rfl,Bool.true_and] at hCD
   have HCD := Hh hCD
   clear hCD
   rw [show ([] : List Int).length = 0 from rfl]
   generalize taken.contains (k : Int) = tk at *
   go_wp2_with fail
   refine (HH1.out w6 (E1.trans hb6)).mono ?_
   rintro e w7 ⟨rfl,hb7⟩
   have hb7 := hb6.trans hb7
   have z0 := hb7.cell q0
   have z1 := hb7.cell q1
   have hz0 := lt_of_cell z0
   rcases tk with _ | _
   rotate_left
   ·have HN2 := Hh (HNO.out (by rw [HCD.out];rfl))
    go_wp2
    go_roundw
    case rel => exact ⟨k + 1,bst,by omega,by go_num,rfl,HN2,hb7⟩
    case measure => simp [intOf];omega
   have HY2 := Hh (HYE.out (by rw [HCD.out];rfl))
   rcases HB.out with ⟨rfl,_⟩ | ⟨t,rfl,ht,htc⟩
   ·go_wp2
    go_roundw
    case rel => exact ⟨k + 1,k,by omega,by go_num,rfl,HY2,hb7⟩
    case measure => simp [intOf];omega
   have hdb : decide ((t : Int) < 0) = false := by rw [decide_eq_false_iff_not];omega
   have HN2 := Hh (HBK.out t rfl)
   have HO2 := Hh (HOF.out (t : Int))
   clear htc
   go_wp2_with fail
   refine (HO2.out w7 (E1.trans hb7)).mono ?_
   rintro e w9 ⟨A9,c9,rfl,hs9,hb9⟩
   have hb9 := hb7.trans hb9
   clear hs9
   generalize (ofL ps ns nodes (t : Int)).length = K2
   by_cases hc5 : K2 < K1
   ·have hd5 : decide (K2 < K1) = true := decide_eq_true hc5
    have hd6 : decide ((K2 : Int) < (K1 : Int)) = true := by rw [decide_eq_true_iff];omega
    go_wp2
    go_roundw
    case rel => exact ⟨k + 1,k,by omega,by go_num,rfl,HY2,hb9⟩
    case measure => simp [intOf];omega
   ·have hd5 : decide (K2 < K1) = false := decide_eq_false hc5
    have hd6 : decide ((K2 : Int) < (K1 : Int)) = false := by rw [decide_eq_false_iff_not];omega
    go_wp2
    go_roundw
    case rel => exact ⟨k + 1,t,by omega,by go_num,rfl,HN2,hb9⟩
    case measure => simp [intOf];omega
  ·obtain rfl : k = n := by omega
   go_wp2
   exact ret_idx rfl HB.out (E1.trans hb)
def RowI (w : World) (lo : Nat) (A : Option Addr) (n c : Nat) (xs : List Int) : Prop := SlAt RInt 1 w A n xs ∧ w.ownsRow lo 3 1 (.slice A n c) n (xs.flatMap encInt)
theorem RowI.base {w : World} {lo lo' n c : Nat} {A : Option Addr} {xs : List Int} (h : RowI w lo A n c xs) (hb : lo' ≤ lo) : RowI w lo' A n c xs := ⟨h.1,owns_base h.2 hb⟩
theorem RowI.ext {w w' : World} {lo n c : Nat} {A : Option Addr} {xs : List Int} (h : RowI w lo A n c xs) (hb : Ext w w') : RowI w' lo A n c xs := ⟨h.1.ext (Flat.mono _ _) hb,owns_ext h.2 hb⟩
theorem RowI.nil (w : World) (lo : Nat) : RowI w lo none 0 0 [] := ⟨SlAt.nil none,World.ownsRow_nil _ _ _ _⟩
def RetPick (w : World) : Ending → World → Prop := fun e w' => ∃ (ok : Bool) (A : Option Addr) (n c : Nat) (xs : List Int),e = .returned (.tuple #[.slice A n c,.bool ok]) ∧ RowI w' w.heap.size A n c xs ∧ n ≤ 1048576 ∧ n ≤ c ∧ Ext w w'
theorem ret_pick {w w0 : World} {P : Program} {fn : Func} {a : Act} {t1 t2 : Tmp} {ok : Bool} {A : Option Addr} {n c : Nat} {xs : List Int} (hr : fn.results = #[.tmp t1,.tmp t2]) (h : RowI w w0.heap.size A n c xs) (hn : n ≤ 1048576) (hc : n ≤ c) (hb : Ext w0 w) (hv : a.tmps.getD t1 undef = .slice A n c := by rfl) (hv2 : a.tmps.getD t2 undef = .bool ok := by rfl) (hd : a.defers = [] := by rfl) : bodyPost P fn (RetPick w0) .ret a w :=
 bodyPost_ret (results_tmp2 hr _ _ _) hd (by rw [hv,hv2];exact ⟨ok,A,n,c,xs,rfl,h,hn,hc,hb⟩)
theorem owns_cap {w : World} {base : Nat} {e : TypeId} {sz n c : Nat} {A : Option Addr} {L : List Value} (h : w.ownsRow base e sz (.slice A n c) n L) : n ≤ c := by
 obtain ⟨_,⟨hv,h0,_⟩ | ⟨g,cap,cur,hv,_,hh,hc,_⟩⟩ := h
 ·injection hv with h1 h2 h3;omega
 ·injection hv with h1 h2 h3;omega
def lenOf : Value → Nat
 | .slice _ n _ => n
 | _ => 0
theorem Choose_c (ps : List Int) (ns : List Node) (nodes : List Int) (nn level : Int) (A : Option Addr) (n c : Nat) (B : Option Addr) (q d : Nat) (D : Option Addr) (m f : Nat) (w : World) (h : SlAt RInt 1 w A n ps) (h2 : SlAt RNode 4 w B q ns) (h3 : SlAt RInt 1 w D m nodes) (hm : m ≤ 1000) (hn1 : n ≤ 1000) (hq1 : q ≤ 1000) : Calls Tryz.prog 137 #[.agg #[.slice A n c,.slice B q d],.slice D m f,.int .i64 nn,.int .i64 level] w (RetPick w) := by
 obtain ⟨i0,hi,hI0,hI1,hI2⟩ := info_parts TInt.info
 have HAN := Hh (fun (u : World) (e : Ext w u) => l02Nodes_c ps ns nodes A n c B q d D m f u (h.ext (Flat.mono _ _) e) (by unfold maxLen;omega) (h2.ext (Flat.mono _ _) e) (by unfold maxLen;omega) (h3.ext (Flat.mono _ _) e) (by unfold maxLen;omega))
 have H3 := Hh (fun (u : World) (e : Ext w u) => h3.ext (Flat.mono encInt In64) e)
 have HNE := Hh (fun (u : World) => RowI.nil u w.heap.size)
 rcases hb0 : (nodesB ns.length nodes && topoB ps ns) with _ | _
 ·rw [hb0] at HAN
  clear hb0 h h2 h3
  go_enter Tryz.func137,Tryz.ntmps137
  go_wp2_with fail
  refine (HAN.out _ Ext.go).mono ?_
  rintro e w1 ⟨rfl,hb1⟩
  obtain ⟨hcr1,hfr1,hz1⟩ := hb1.rules
  (try simp at hz1)
  have hy1_w0 : w.heap.size < w1.heap.size := (by omega)
  go_wp2
  exact ret_pick rfl (HNE.out _) (by omega) (by omega) (((Ext.refl w).alloc _).trans hb1)
 rw [hb0] at HAN
 rw [Bool.and_eq_true] at hb0
 obtain ⟨hnb,ht⟩ := hb0
 have hv : ∀ x ∈ nodes,0 ≤ x ∧ x < (ns.length : Int) := fun x hx => by
  unfold nodesB at hnb
  rw [List.all_eq_true] at hnb
  have := hnb x hx
  unfold withinB at this
  simp at this
  omega
 by_cases hnn : nn < 1
 ·have hd1 : decide (nn < 1) = true := decide_eq_true hnn
  clear h h2 h3 ht hv hnb
  go_enter Tryz.func137,Tryz.ntmps137
  go_wp2_with fail
  refine (HAN.out _ Ext.go).mono ?_
  rintro e w1 ⟨rfl,hb1⟩
  obtain ⟨hcr1,hfr1,hz1⟩ := hb1.rules
  (try simp at hz1)
  have hy1_w0 : w.heap.size < w1.heap.size := (by omega)
  go_wp2
  exact ret_pick rfl (HNE.out _) (by omega) (by omega) (((Ext.refl w).alloc _).trans hb1)
 have hd1 : decide (nn < 1) = false := decide_eq_false hnn
 obtain ⟨N,rfl⟩ := Int.eq_ofNat_of_zero_le (show 0 ≤ nn by omega)
 have HSW := Hh (fun (u : World) (e : Ext w u) => l04Switch_c ps ns nodes N level A n c B q d D m f u (h.ext (Flat.mono _ _) e) (h2.ext (Flat.mono _ _) e) (h3.ext (Flat.mono _ _) e) hm ht hv)
 have HOF := Hh (fun (s : Int) (u : World) (e : Ext w u) => RetOwn.sl (l04Of_c ps ns nodes s A n c B q d D m f u (h.ext (Flat.mono _ _) e) (h2.ext (Flat.mono _ _) e) (h3.ext (Flat.mono _ _) e) hm ht hv))
 have HLF := Hh (fun (mine : List Int) (hmi : ∀ x ∈ mine,x ∈ nodes) (M : Option Addr) (mn mc : Nat) (hmn : mn ≤ 1000) (taken : List Int) (T : Option Addr) (tn tc : Nat) (htn : tn ≤ maxLen) (u : World) (e : Ext w u) (h5 : SlAt RInt 1 u M mn mine) (h6 : SlAt RInt 1 u T tn taken) => l04Leaf_c ps ns mine taken A n c B q d M mn mc T tn tc u (h.ext (Flat.mono _ _) e) (h2.ext (Flat.mono _ _) e) h5 hmn h6 htn ht (fun x hx => hv x (hmi x hx)))
 have HO2 := Hh (fun (mine : List Int) (hmi : ∀ x ∈ mine,x ∈ nodes) (M : Option Addr) (mn mc : Nat) (hmn : mn ≤ 1000) (s : Int) (u : World) (e : Ext w u) (h5 : SlAt RInt 1 u M mn mine) => RetOwn.sl (l04Of_c ps ns mine s A n c B q d M mn mc u (h.ext (Flat.mono _ _) e) (h2.ext (Flat.mono _ _) e) h5 hmn ht (fun x hx => hv x (hmi x hx))))
 have HCS := Hh (fun (mine taken : List Int) (hmi : ∀ x ∈ mine,x ∈ nodes) (s : Int) (hc : candB ps ns mine taken s = true) => cnt_step ht (fun x hx => hv x (hmi x hx)) hc)
 have HCE := Hh (fun (mine taken : List Int) (hmi : ∀ x ∈ mine,x ∈ nodes) (hc : cntL ns mine taken < mine.length) => show ∃ k : Nat,k < n ∧ candB ps ns mine taken k = true from by
  have := cand_exists ht (fun x hx => hv x (hmi x hx)) hc
  rw [h.len] at this;exact this)
 have HNL := Hh h3.len
 clear h h2 h3 ht hv hnb
 go_enter Tryz.func137,Tryz.ntmps137
 go_wp2_with fail
 refine (HAN.out _ Ext.go).mono ?_
 rintro e w1 ⟨rfl,hb1⟩
 obtain ⟨hcr1,hfr1,hz1⟩ := hb1.rules
 (try simp at hz1)
 have hy1_w0 : w.heap.size < w1.heap.size := (by omega)
 have q0 := hb1.cell (law_box w [.slice A n c,.slice B q d] 26 0 _ rfl)
 have q1 := hb1.cell (law_box w [.slice A n c,.slice B q d] 26 1 _ rfl)
 have E1 : Ext w w1 := ((Ext.refl w).alloc _).trans hb1
 have hz0 := lt_of_cell q0
 clear hb1 HAN
 go_wp2
 go_loopw [28] (fun iv wr => ∃ k : Nat,k ≤ m ∧ iv = .int .i64 k ∧ Ext w1 wr) (fun iv _ => m - (intOf iv).toNat)
 case atStart => exact ⟨0,Nat.zero_le _,rfl,Ext.refl _⟩
 case round =>
  obtain ⟨k,hk,rfl,hb⟩ := hrel
  by_cases hlt : k < m
  ·obtain ⟨bo,oo,x,cs,hD,hbw,hx,_,hc,rfl,_⟩ := (H3.out wr (E1.trans hb)).at_ hlt
   subst hD
   have g0 := hc 0 _ rfl
   simp only [Nat.mul_one,Nat.add_zero] at g0
   clear hc hx
   have z0 := hb.cell q0
   have z1 := hb.cell q1
   by_cases hk0 : 0 < k
   ·obtain ⟨bo2,oo2,y,cs2,hD2,hbw2,hy,_,hc2,rfl,_⟩ := (H3.out wr (E1.trans hb)).at_ (show k - 1 < m by omega)
    injection hD2 with hD2;injection hD2 with hD2 hD3;subst hD2;subst hD3
    have y0 := hc2 0 _ rfl
    simp only [Nat.mul_one,Nat.add_zero] at y0
    clear hc2 hy
    have hkd : decide (0 < k) = true := decide_eq_true hk0
    have hkd2 : decide ((0 : Int) < (k : Int)) = true := by rw [decide_eq_true_iff];omega
    have hkw : IntKind.i64.wrap ((k : Int) - 1) = ((k - 1 : Nat) : Int) := by rw [show (k : Int) - 1 = ((k - 1 : Nat) : Int) by omega];exact IntWalk.i64_in _ ⟨by omega,by omega⟩
    rcases hcy : decide (x ≤ y) with _ | _
    ·go_wp2
     go_quiet (fail)
     go_wp2
     go_roundw
     case rel => exact ⟨k + 1,by omega,by go_num,Ext.trans hb ((Ext.refl _).drewN _)⟩
     case measure => simp [intOf];omega
    ·go_wp2
     go_quiet (fail)
     go_wp2
     exact ret_pick rfl (HNE.out _) (by omega) (by omega) (E1.trans (Ext.trans hb ((Ext.refl _).drewN _)))
   ·obtain rfl : k = 0 := by omega
    go_wp2
    go_quiet (fail)
    go_wp2
    go_roundw
    case rel => exact ⟨1,by omega,by go_num,Ext.trans hb ((Ext.refl _).drewN _)⟩
    case measure => simp [intOf];omega
  ·skip
   have z0 := hb.cell q0
   have z1 := hb.cell q1
   have hzr := lt_of_cell z0
   go_wp2_with fail
   refine (HSW.out wr (E1.trans hb)).mono ?_
   rintro e w2 ⟨r,rfl,hr,hb2⟩
   have hb2 := hb.trans hb2
   rcases hr with rfl | ⟨t,rfl,htn,hrn⟩
   ·go_wp2
    exact ret_pick rfl (HNE.out _) (by omega) (by omega) (E1.trans hb2)
   have hdt : decide ((t : Int) < 0) = false := by rw [decide_eq_false_iff_not];omega
   have z0 := hb2.cell q0
   have z1 := hb2.cell q1
   have hzr := lt_of_cell z0
   have HOT := Hh (HOF.out (t : Int) w2 (E1.trans hb2))
   have HMI := Hh (fun (x : Int) (hx : x ∈ ofL ps ns nodes t) => ofL_sub hx)
   have HML := Hh (ofL_len ps ns nodes t)
   generalize ofL ps ns nodes (t : Int) = mine at *
   go_wp2_with fail
   refine HOT.out.mono ?_
   rintro e w3 ⟨M,mc,rfl,hs3,hb3⟩
   have hb3 := hb2.trans hb3
   have HM := Hh (fun (u : World) (e : Ext w3 u) => hs3.ext (Flat.mono encInt In64) e)
   have hmn : mine.length ≤ 1000 := by have := HML.out;have := HNL.out;omega
   clear hs3 HOT HOF HSW
   have z0 := hb3.cell q0
   have z1 := hb3.cell q1
   have hzr := lt_of_cell z0
   have hle3 := hb3.le
   generalize hmm : mine.length = mn at *
   have HMM := Hh hmm
   clear hmm
   have hNm : N ≤ mn := by omega
   have HA0 := Hh (show ((w3.alloc (.cells #[] 3)).alloc (.cells #[] 3)).ownsRow w3.heap.size 3 1 (.slice (some ⟨w3.heap.size,0,none⟩) 0 0) 0 [] ∧ ((w3.alloc (.cells #[] 3)).alloc (.cells #[] 3)).ownsRow w3.heap.size 3 1 (.slice (some ⟨w3.heap.size + 1,0,none⟩) 0 0) 0 [] from
    ⟨owns_ext (owns_empty w3 3 1) ((Ext.refl _).alloc _),by
     have h := owns_empty (w3.alloc (.cells #[] 3)) 3 1
     rw [show (w3.alloc (.cells #[] 3)).heap.size = w3.heap.size + 1 by simp] at h
     exact owns_base h (by omega)⟩)
   have HCN := Hh (show cntL ns mine [] = 0 by unfold cntL;simp)
   have HIM := Hh ((HM.out w3 (Ext.refl _)).all)
   go_wp2
   go_loopw [13,14] (fun ov tv wr => ∃ (a b : Nat) (A1 : Option Addr) (c1 : Nat) (A2 : Option Addr) (c2 : Nat) (out taken : List Int),ov = .slice A1 a c1 ∧ tv = .slice A2 b c2 ∧ b ≤ a ∧ a ≤ N ∧ Hid (a = out.length) ∧ Hid (wr.ownsRow w3.heap.size 3 1 (.slice A1 a c1) a (out.flatMap encInt)) ∧ Hid (∀ y ∈ out,In64 y) ∧ Hid (b = taken.length) ∧ Hid (wr.ownsRow w3.heap.size 3 1 (.slice A2 b c2) b (taken.flatMap encInt)) ∧ Hid (∀ y ∈ taken,In64 y) ∧ Hid (rowsApart (Value.slice A1 a c1).ownBlock (Value.slice A2 b c2).ownBlock) ∧ Hid (a < N → cntL ns mine taken = a) ∧ Ext w3 wr) (fun ov _ _ => N - lenOf ov)
   case atStart => exact ⟨0,0,_,0,_,0,[],[],rfl,rfl,by omega,by omega,Hh rfl,Hh HA0.out.1,Hh (fun y hy => by cases hy),Hh rfl,Hh HA0.out.2,Hh (fun y hy => by cases hy),Hh (fun q h1 h2 => by simp [Value.ownBlock] at h1 h2;omega),Hh (fun _ => HCN.out),((Ext.refl _).alloc _).alloc _⟩
   case round =>
    clear HA0 HCN
    obtain ⟨a,b,A1,c1,A2,c2,out,taken,rfl,rfl,hba,haN,HLA,HOA,HIA,HLB,HOB,HIB,HAP,HCT,hbr⟩ := hrel
    by_cases hlt2 : a < N
    ·have hd2 : decide (a < N) = true := decide_eq_true hlt2
     have hd3 : decide ((a : Int) < (N : Int)) = true := by rw [decide_eq_true_iff];omega
     have E4 := hb3.trans hbr
     have z0 := E4.cell q0
     have z1 := E4.cell q1
     have hzr := lt_of_cell z0
     have hler := hbr.le
     obtain ⟨k0,hk0n,hk0c⟩ := HCE.out mine taken HMI.out (by rw [HCT.out hlt2,HMM.out];omega)
     have HK0 := Hh hk0c
     clear hk0c
     go_wp2_with fail
     refine (HLF.out mine HMI.out M mn mc hmn taken A2 b c2 (by unfold maxLen;omega) wr (E1.trans E4) (HM.out wr hbr) (by have h := HOB.out;rw [HLB.out] at h ⊢;exact owns_sl encInt_size h HIB.out)).mono ?_
     rintro e w4 ⟨r,rfl,hr,hb4⟩
     rcases hr with ⟨_,hno⟩ | ⟨t2,rfl,ht2,hcd⟩
     ·have h1 := hno k0 hk0n
      rw [HK0.out] at h1;cases h1
     have HST := Hh (HCS.out mine taken HMI.out _ hcd)
     clear hcd HK0
     have hbr4 := hbr.trans hb4
     have HOA4 := Hh (owns_ext HOA.out hb4)
     have HOB4 := Hh (owns_ext HOB.out hb4)
     have hle4 := hbr4.le
     clear z0 z1 hzr
     go_wp2_with (at_builtin;go_must (refine wpList_append_r (enc := encInt) (ok := In64) (.tmp 67) (.tmp 69) _ w3.heap.size 3 i0 _ 1 8 (.slice A2 b c2) b _ (some ⟨w4.heap.size,0,none⟩) 1 1 [(t2 : Int)] rfl rfl Tryz.underlying23 hi hI0 hI1 hI2 rfl (by omega) rfl (owns_ext HOB4.out ((Ext.refl _).alloc _)) rfl (by exact sl_one_at (enc := encInt) _ _ rfl (t2 : Int) 3 rfl ⟨by omega,by omega⟩) (fun _ => rfl) TInt.one (by unfold maxLen;omega) (by omega) (by simp;omega) ?_);intro A9 c9 w5 hr5;(have HR5 := Hh hr5);(have z0 := (((hb3.trans hbr4).alloc (.cells #[.int .i64 t2] 3)).cell q0));(have z1 := (((hb3.trans hbr4).alloc (.cells #[.int .i64 t2] 3)).cell q1));(have z0 := hr5.cell z0 (fun hh => by have := (HOB4.out.lt _ hh).1;omega));(have z1 := hr5.cell z1 (fun hh => by have := (HOB4.out.lt _ hh).1;omega));(have hz5 := lt_of_cell z0);clear hr5)
     have hbr4a := hbr4.alloc (.cells #[.int .i64 t2] 3)
     have HOA4a := Hh (owns_ext HOA4.out ((Ext.refl _).alloc (.cells #[.int .i64 t2] 3)))
     have HX5 := Hh (ext_turned hbr4a (HR5.out.turned (lo := w3.heap.size) (fun q hq => (HOB4.out.lt q hq).1)) (Nat.le_refl _))
     have HOA5 := Hh (HR5.out.other HOA4a.out HAP.out)
     have HAP5 := Hh (HR5.out.apart HOA4a.out HAP.out)
     have HOB5 := Hh (show w5.ownsRow w3.heap.size 3 1 (.slice A9 (b + 1) c9) (b + 1) ((taken ++ [(t2 : Int)]).flatMap encInt) by have h := HR5.out.row;rw [List.flatMap_append];simpa using h)
     have HIB5 := Hh (show ∀ y ∈ taken ++ [(t2 : Int)],In64 y from fun y hy => by rcases List.mem_append.1 hy with hy | hy;exact HIB.out y hy;(rw [List.mem_singleton.1 hy];exact ⟨by omega,by omega⟩))
     have HLB5 := Hh (show b + 1 = (taken ++ [(t2 : Int)]).length by rw [List.length_append,← HLB.out];rfl)
     have HO6 := Hh (HO2.out mine HMI.out M mn mc hmn (t2 : Int) w5 (E1.trans (hb3.trans HX5.out)) (HM.out w5 HX5.out))
     clear HR5 HOA4 HOB4 HOA4a hbr4a HOA HOB HAP
     have hKL : (ofL ps ns mine (t2 : Int)).length ≤ 1000 := by have := ofL_len ps ns mine (t2 : Int);have := HMM.out;omega
     generalize ofL ps ns mine (t2 : Int) = L at *
     have hLm := HST.out.2
     have HC5 := Hh HST.out.1
     clear HST
     go_wp2_with fail
     refine HO6.out.mono ?_
     rintro e w6 ⟨A6,c6,rfl,hs6,hb6⟩
     have HX6 := Hh (HX5.out.trans hb6)
     have HOA6 := Hh (owns_ext HOA5.out hb6)
     have HOB6 := Hh (owns_ext HOB5.out hb6)
     have HS6 := Hh (fun (u : World) (e : Ext w6 u) => hs6.ext (Flat.mono encInt In64) e)
     have HI6 := Hh hs6.all
     clear hs6 HOA5 HOB5 HO6
     generalize L.length = K at *
     clear z0 z1
     go_wp2
     go_loopw [13,76] (fun ov jv wq => ∃ (j a' : Nat) (A3 : Option Addr) (c3 : Nat) (out3 : List Int),jv = .int .i64 j ∧ j ≤ K ∧ ov = .slice A3 a' c3 ∧ a' ≤ N ∧ (a' = N ∨ a' = a + j) ∧ a ≤ a' ∧ (0 < j → a < a') ∧ Hid (a' = out3.length) ∧ Hid (wq.ownsRow w3.heap.size 3 1 (.slice A3 a' c3) a' (out3.flatMap encInt)) ∧ Hid (∀ y ∈ out3,In64 y) ∧ Hid (rowsApart (Value.slice A3 a' c3).ownBlock (Value.slice A9 (b + 1) c9).ownBlock) ∧ Hid (Ext w6 wq)) (fun _ jv _ => K - (intOf jv).toNat)
     case atStart => exact ⟨0,a,A1,c1,out,rfl,Nat.zero_le _,rfl,by omega,.inr (by omega),by omega,by omega,HLA,HOA6,HIA,HAP5,Hh (Ext.refl _)⟩
     case round =>
      clear HOA6 HLA HIA HAP5
      obtain ⟨j,a',A3,c3,out3,rfl,hjK,rfl,haN',hor,haa,haj,HL3,HO3,HI3,HP3,HXQ⟩ := hrel
      by_cases hj : j < K
      ·obtain ⟨bo,oo,x,cs,hA6,hbw,hx,_,hc,rfl,_⟩ := (HS6.out wr HXQ.out).at_ hj
       subst hA6
       have g0 := hc 0 _ rfl
       simp only [Nat.mul_one,Nat.add_zero] at g0
       have HX := Hh (HI6.out x (List.mem_of_getElem? hx))
       clear hc hx
       by_cases ha' : a' < N
       ·have hd5 : decide (a' < N) = true := decide_eq_true ha'
        have hd6 : decide ((a' : Int) < (N : Int)) = true := by rw [decide_eq_true_iff];omega
        have HRL := Hh (show (riseGo x out3 false).length = a' + 1 by rw [rise_len,← HL3.out];rfl)
        have HRI := Hh (show ∀ y ∈ riseGo x out3 false,In64 y from fun y hy => by
         rcases rise_mem x out3 false y hy with rfl | hy
         ·exact HX.out
         ·exact HI3.out y hy)
        have HRC := Hh (l04Rise_c out3 x A3 a' c3 wr (by have h := HO3.out;rw [HL3.out] at h ⊢;exact owns_sl encInt_size h HI3.out) (by omega) HX.out)
        go_wp2_with fail
        refine HRC.out.mono ?_
        rintro e w8 ⟨A8,c8,rfl,ho8,hb8⟩
        rw [HRL.out] at ho8 ⊢
        have HO8 := Hh ho8
        have HXQ8 := Hh (HXQ.out.trans hb8)
        have HB6Q := Hh (owns_ext HOB6.out HXQ.out)
        have HP8 := Hh (show rowsApart (Value.slice A8 (a' + 1) c8).ownBlock (Value.slice A9 (b + 1) c9).ownBlock from rowsApart.symm (rowsApart.new HB6Q.out (fun q hq => (HO8.out.lt q hq).1)))
        have hle8 : w3.heap.size ≤ wr.heap.size := (HX6.out.trans HXQ.out).le
        clear ho8
        go_wp2
        go_roundw
        case rel => exact ⟨j + 1,a' + 1,A8,c8,riseGo x out3 false,by go_num,by omega,rfl,by omega,by omega,by omega,by omega,Hh HRL.out.symm,Hh (owns_base HO8.out hle8),HRI,HP8,HXQ8⟩
        case measure => simp [intOf];omega
       ·have hd5 : decide (a' < N) = false := decide_eq_false ha'
        have hd6 : decide ((a' : Int) < (N : Int)) = false := by rw [decide_eq_false_iff_not];omega
        go_wp2
        go_roundw
        case rel => exact ⟨j + 1,a',A3,c3,out3,by go_num,by omega,rfl,by omega,by omega,by omega,by omega,HL3,HO3,HI3,HP3,HXQ⟩
        case measure => simp [intOf];omega
      ·obtain rfl : j = K := by omega
       have HCT9 := Hh (show a' < N → cntL ns mine (taken ++ [(t2 : Int)]) = a' from fun h => by rw [HC5.out,HCT.out hlt2];omega)
       have haj := haj hLm
       go_wp2
       go_roundw
       case rel => exact ⟨a',b + 1,A3,c3,A9,c9,out3,taken ++ [(t2 : Int)],rfl,rfl,by omega,haN',HL3,HO3,HI3,HLB5,Hh (owns_ext HOB6.out HXQ.out),HIB5,HP3,HCT9,HX6.out.trans HXQ.out⟩
       case measure => simp [lenOf];omega
    ·obtain rfl : a = N := by omega
     have hd2 : decide (a < a) = false := by simp
     have hd3 : decide ((a : Int) < (a : Int)) = false := by simp
     go_wp2
     exact ret_pick rfl ⟨by have h := HOA.out;rw [HLA.out] at h ⊢;exact owns_sl encInt_size h HIA.out,owns_base HOA.out (E1.trans hb3).le⟩ (by omega) (owns_cap HOA.out) (E1.trans (hb3.trans hbr))
end Go.Proofs.YtfanjhcdjbnnnaaGreat
