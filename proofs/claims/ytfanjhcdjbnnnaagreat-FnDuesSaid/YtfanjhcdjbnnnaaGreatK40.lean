/- MvDraw, DrawWin, MvAnyL. -/
import Derived.Test.YtfanjhcdjbnnnaaGreatK39
import Derived.Test.YtfanjhcdjbnnnaaGreatK28
namespace Go.Proofs.YtfanjhcdjbnnnaaGreat
open Go.RowKit
set_option linter.unusedVariables false
set_option maxHeartbeats 8000000
set_option maxRecDepth 10000
structure DrawI (w u : World) (g b : Nat) (d : StD) : Prop where
 b4 : u.ownsRow w.heap.size 34 11 (.slice (some ⟨w.heap.size,0,none⟩) 1 1) 1 [.slice none 0 0,.slice none 0 0,.slice none 0 0,.int .i64 0,.int .i64 0,.int .i64 0,.int .i64 0,.int .i64 0,.slice none 0 0,.slice none 0 0,.slice none 0 0]
 b5 : u.ownsRow w.heap.size 34 11 (.slice (some ⟨b,0,none⟩) 1 1) 1 [.slice d.A1 d.n1 d.c1,.slice d.A2 d.n2 d.c2,.slice d.A3 d.n3 d.c3,.int .i64 d.lic.A,.int .i64 d.lic.B,.int .i64 d.lic.C,.int .i64 d.dep,.int .i64 d.now,.slice d.A6 d.n6 d.c6,.slice d.A7 d.n7 d.c7,.slice d.A8 d.n8 d.c8]
 nb : w.heap.size < b
 gd : d.good u w.heap.size
 gl : g < w.heap.size
 tu : Turned g (g + 1) w u
 cu : Cur u g
section
variable {w u u' : World} {g b : Nat} {d d2 : StD}
theorem DrawI.mv (h : DrawI w u g b d) (x : Ext u u') : DrawI w u' g b d := ⟨owns_ext h.b4 x,owns_ext h.b5 x,h.nb,h.gd.ext x,h.gl,h.tu.ext x,h.cu.ext x⟩
theorem DrawI.turn (h : DrawI w u g b d) (ht : Turned g (g + 1) u u') (hc : Cur u' g) : DrawI w u' g b d := ⟨ownsT h.b4 ht h.gl,ownsT h.b5 ht h.gl,h.nb,h.gd.turn ht h.gl,h.gl,h.tu.trans ht,hc⟩
theorem DrawI.put (h : DrawI w u g b d) (hd : d2.good u w.heap.size) : DrawI w (setCells u b 0 [.slice d2.A1 d2.n1 d2.c1,.slice d2.A2 d2.n2 d2.c2,.slice d2.A3 d2.n3 d2.c3,.int .i64 d2.lic.A,.int .i64 d2.lic.B,.int .i64 d2.lic.C,.int .i64 d2.dep,.int .i64 d2.now,.slice d2.A6 d2.n6 d2.c6,.slice d2.A7 d2.n7 d2.c7,.slice d2.A8 d2.n8 d2.c8]) g b d2 := by
 have hn := h.nb
 have hg := h.gl
 have hk := kept_puts b [.slice d2.A1 d2.n1 d2.c1,.slice d2.A2 d2.n2 d2.c2,.slice d2.A3 d2.n3 d2.c3,.int .i64 d2.lic.A,.int .i64 d2.lic.B,.int .i64 d2.lic.C,.int .i64 d2.dep,.int .i64 d2.now,.slice d2.A6 d2.n6 d2.c6,.slice d2.A7 d2.n7 d2.c7,.slice d2.A8 d2.n8 d2.c8] u 0
 exact ⟨hk.own h.b4 (fun k h1 h2 => by simp [Value.ownBlock] at h1 h2;omega),puts11 h.b5 rfl,hn,hd.kept h.b5 hk (by simp [rowTypes]),hg,turned_puts _ 0 h.tu (by omega),cur_puts _ 0 h.cu (by omega)⟩
theorem DrawI.fin (h : DrawI w u g b d) (hs : d.sm) : RetStD w g w.heap.size (.returned (.agg #[.slice d.A1 d.n1 d.c1,.slice d.A2 d.n2 d.c2,.slice d.A3 d.n3 d.c3,.int .i64 d.lic.A,.int .i64 d.lic.B,.int .i64 d.lic.C,.int .i64 d.dep,.int .i64 d.now,.slice d.A6 d.n6 d.c6,.slice d.A7 d.n7 d.c7,.slice d.A8 d.n8 d.c8])) (setCells u w.heap.size 0 [.slice d.A1 d.n1 d.c1,.slice d.A2 d.n2 d.c2,.slice d.A3 d.n3 d.c3,.int .i64 d.lic.A,.int .i64 d.lic.B,.int .i64 d.lic.C,.int .i64 d.dep,.int .i64 d.now,.slice d.A6 d.n6 d.c6,.slice d.A7 d.n7 d.c7,.slice d.A8 d.n8 d.c8]) :=
 ⟨d,rfl,h.gd.kept h.b4 (kept_puts w.heap.size [.slice d.A1 d.n1 d.c1,.slice d.A2 d.n2 d.c2,.slice d.A3 d.n3 d.c3,.int .i64 d.lic.A,.int .i64 d.lic.B,.int .i64 d.lic.C,.int .i64 d.dep,.int .i64 d.now,.slice d.A6 d.n6 d.c6,.slice d.A7 d.n7 d.c7,.slice d.A8 d.n8 d.c8] u 0) (by simp [rowTypes]),hs,turned_puts _ 0 h.tu (Nat.le_refl _),cur_puts _ 0 h.cu h.gl⟩
end
theorem l06Draw_c (g : Nat) (w : World) (hc : Cur w g) : Calls Tryz.prog 19 #[.pointer (some ⟨g,0,none⟩),.int .i64 14] w (RetStD w g w.heap.size) := by
 have hgw := hc.lt
 have HB := Hh (fun (n : Int) (hn : In64 n) (u : World) (hu : Cur u g) => l01Below_c g n u hu hn)
 have HNW := Hh (fun (u : World) (hu : Cur u g) => l06New_c g u hu)
 have H9 : Hid (∀ n : Int,-1000000 ≤ n → n ≤ 1000000 → In64 n) := Hh (fun n h1 h2 => by unfold In64;omega)
 have HR0 := Hh (gbox w [.slice none 0 0,.slice none 0 0,.slice none 0 0,.int .i64 0,.int .i64 0,.int .i64 0,.int .i64 0,.int .i64 0,.slice none 0 0,.slice none 0 0,.slice none 0 0] 34 11 rfl)
 have HC0 := Hh (hc.ext ((Ext.refl w).alloc (.cells #[.slice none 0 0,.slice none 0 0,.slice none 0 0,.int .i64 0,.int .i64 0,.int .i64 0,.int .i64 0,.int .i64 0,.slice none 0 0,.slice none 0 0,.slice none 0 0] 34)))
 clear hc
 go_enter Tryz.func19,Tryz.ntmps19
 go_wp2_with fail
 refine (HNW.out _ HC0.out).mono ?_
 rintro e w1 ⟨d0,rfl,hd0,hsm0,ht1,hc1⟩
 have hs1 : w.heap.size < w1.heap.size := by have := ht1.le;simp at this;omega
 have HD1 := Hh (show DrawI w (w1.alloc (.cells #[.slice d0.A1 d0.n1 d0.c1,.slice d0.A2 d0.n2 d0.c2,.slice d0.A3 d0.n3 d0.c3,.int .i64 d0.lic.A,.int .i64 d0.lic.B,.int .i64 d0.lic.C,.int .i64 d0.dep,.int .i64 d0.now,.slice d0.A6 d0.n6 d0.c6,.slice d0.A7 d0.n7 d0.c7,.slice d0.A8 d0.n8 d0.c8] 34)) g w1.heap.size d0 from
  ⟨owns_ext (ownsT HR0.out ht1 (by omega)) ((Ext.refl _).alloc _),owns_base (gbox w1 [.slice d0.A1 d0.n1 d0.c1,.slice d0.A2 d0.n2 d0.c2,.slice d0.A3 d0.n3 d0.c3,.int .i64 d0.lic.A,.int .i64 d0.lic.B,.int .i64 d0.lic.C,.int .i64 d0.dep,.int .i64 d0.now,.slice d0.A6 d0.n6 d0.c6,.slice d0.A7 d0.n7 d0.c7,.slice d0.A8 d0.n8 d0.c8] 34 11 rfl) (by omega),hs1,(hd0.base (by simp)).ext ((Ext.refl _).alloc _),hgw,(((((Ext.refl w).alloc _).turned g (g + 1)).trans ht1).ext ((Ext.refl _).alloc _)),hc1.ext ((Ext.refl _).alloc _)⟩)
 have HS0 := Hh hsm0
 clear hd0 hsm0 ht1 hc1 HR0 HC0 HNW
 go_upto_region 2 with fail
 obtain ⟨bx,hbx⟩ : ∃ bx,bx = w1.heap.size := ⟨_,rfl⟩
 rw [← hbx] at HD1 ⊢
 generalize (w1.alloc (.cells #[.slice d0.A1 d0.n1 d0.c1,.slice d0.A2 d0.n2 d0.c2,.slice d0.A3 d0.n3 d0.c3,.int .i64 d0.lic.A,.int .i64 d0.lic.B,.int .i64 d0.lic.C,.int .i64 d0.dep,.int .i64 d0.now,.slice d0.A6 d0.n6 d0.c6,.slice d0.A7 d0.n7 d0.c7,.slice d0.A8 d0.n8 d0.c8] 34)) = u at *
 clear hbx hs1
 go_wp2_with fail
 refine (HB.out 15 (H9.out _ (by omega) (by omega)) _ HD1.out.cu).mono ?_
 rintro e w2 ⟨v0,rfl,⟨hv0,hv15⟩,ht2,hc2⟩
 have HD2 := Hh (HD1.out.turn ht2 hc2)
 clear ht2 hc2 HD1
 go_wp2
 go_loopw [6] (fun nv wr => ∃ (v : Int) (d : StD),nv = .int .i64 v ∧ 0 ≤ v ∧ v ≤ 15 ∧ Hid d.sm ∧ Hid (DrawI w wr g bx d)) (fun nv _ => (intOf nv).toNat)
 case atStart => exact ⟨v0,d0,rfl,hv0,by omega,HS0,HD2⟩
 case round =>
  clear HD2 HS0
  obtain ⟨v,d,rfl,hv,hv',HS,HDI⟩ := hrel
  obtain ⟨⟨p0,p1,p2,p3,p4,p5,p6,p7,p8,p9,p10⟩,⟨pf0,pf1,pf2,pf3,pf4,pf5,pf6,pf7,pf8,pf9,pf10⟩,pl⟩ := cells11 HDI.out.b5
  by_cases hpos : 0 < v
  ·have hd1 : decide (0 < v) = true := decide_eq_true hpos
   go_wp2_with fail
   refine (l06Step_c g d w.heap.size _ HDI.out.cu HDI.out.gd HDI.out.gl HDI.out.tu.le HS.out).mono ?_
   rintro e w3 ⟨d2,rfl,hd2,hsm2,ht3,hc3⟩
   have HD3 := Hh (HDI.out.turn ht3 hc3)
   have HD4 := Hh (HD3.out.put hd2)
   have HS2 := Hh hsm2
   clear hd2 hsm2 ht3 hc3 HDI HS p0 p1 p2 p3 p4 p5 p6 p7 p8 p9 p10 pf0 pf1 pf2 pf3 pf4 pf5 pf6 pf7 pf8 pf9 pf10 pl
   obtain ⟨⟨p0,p1,p2,p3,p4,p5,p6,p7,p8,p9,p10⟩,⟨pf0,pf1,pf2,pf3,pf4,pf5,pf6,pf7,pf8,pf9,pf10⟩,pl⟩ := cells11 HD3.out.b5
   have hw : IntKind.i64.wrap (v - 1) = v - 1 := IntWalk.i64_in _ ⟨by omega,by omega⟩
   clear HD3
   go_wp2
   go_roundw
   case rel => exact ⟨v - 1,d2,rfl,by omega,by omega,HS2,HD4⟩
   case measure => simp [intOf];omega
  ·have hd1 : decide (0 < v) = false := decide_eq_false hpos
   clear hpos
   have HF := Hh (HDI.out.fin HS.out)
   obtain ⟨⟨q0,q1,q2,q3,q4,q5,q6,q7,q8,q9,q10⟩,⟨qf0,qf1,qf2,qf3,qf4,qf5,qf6,qf7,qf8,qf9,qf10⟩,ql⟩ := cells11 HDI.out.b4
   clear HDI HS
   go_wp2
   exact bodyPost_ret (v := .agg #[.slice d.A1 d.n1 d.c1,.slice d.A2 d.n2 d.c2,.slice d.A3 d.n3 d.c3,.int .i64 d.lic.A,.int .i64 d.lic.B,.int .i64 d.lic.C,.int .i64 d.dep,.int .i64 d.now,.slice d.A6 d.n6 d.c6,.slice d.A7 d.n7 d.c7,.slice d.A8 d.n8 d.c8]) (by simp [results,Tryz.results19,go_sem, *]) rfl HF.out
abbrev RetIntsD := RetRowD encInt In64 3 1
theorem l02Some_c (g : Nat) (w : World) (hc : Cur w g) (A : Option Addr) (n c : Nat) (B : Option Addr) (m d : Nat) (hm : m ≤ 1000) : Calls Tryz.prog 23 #[.pointer (some ⟨g,0,none⟩),.agg #[.slice A n c,.slice B m d]] w (RetIntsD 5 w g) := by
 obtain ⟨i0,hi,hI0,hI1,hI2⟩ := info_parts TInt.info
 have hgw := hc.lt
 have HB := Hh (fun (n : Int) (hn : In64 n) (u : World) (hu : Cur u g) => l01Below_c g n u hu hn)
 have HR := Hh (fun (u : World) (hu : Cur u g) => l01Raw_c g u hu)
 have H9 : Hid (∀ n : Int,-1000000 ≤ n → n ≤ 1000000 → In64 n) := Hh (fun n h1 h2 => by unfold In64;omega)
 have HC0 := Hh (hc.ext (((Ext.refl w).alloc (.cells #[.slice A n c,.slice B m d] 26)).alloc (.cells #[] 3)))
 have HT0 := Hh ((((Ext.refl w).alloc (.cells #[.slice A n c,.slice B m d] 26)).alloc (.cells #[] 3)).turned g (g + 1))
 have HX0 := Hh (heapE ((Ext.refl _).alloc (.cells #[] 3)) (heap_alloc_new w (.cells #[.slice A n c,.slice B m d] 26)))
 have HO0 := Hh (owns_base (owns_empty (w.alloc (.cells #[.slice A n c,.slice B m d] 26)) 3 1) (show w.heap.size ≤ _ by simp))
 clear hc
 go_enter Tryz.func23,Tryz.ntmps23
 go_wp2_with fail
 refine (HB.out 5 (H9.out _ (by omega) (by omega)) _ HC0.out).mono ?_
 rintro e w1 ⟨v1,rfl,⟨hv1a,hv1b⟩,ht1,hc1⟩
 have HT1 := Hh (HT0.out.trans ht1)
 have HC1 := Hh hc1
 have HX1 := Hh (heapT ht1 HX0.out (by omega))
 have HO1 := Hh (ownsT HO0.out ht1 (by omega))
 clear ht1 hc1
 go_wp2
 go_loopw [5,6] (fun l nv wr => ∃ (v : Int) (A1 : Option Addr) (p c1 : Nat) (acc : List Int),0 ≤ v ∧ v ≤ 5 ∧ nv = .int .i64 v ∧ l = .slice A1 p c1 ∧ p + v ≤ 4 ∧ Hid (acc.length = p) ∧ Hid (wr.ownsRow w.heap.size 3 1 (.slice A1 p c1) p (acc.flatMap encInt)) ∧ Hid (∀ y ∈ acc,In64 y) ∧ Hid (Turned g (g + 1) w wr) ∧ Hid (Cur wr g) ∧ Hid (wr.heap[w.heap.size]? = some (.cells #[.slice A n c,.slice B m d] 26))) (fun _ nv _ => (intOf nv).toNat)
 case atStart => exact ⟨v1,_,0,_,[],hv1a,by omega,rfl,rfl,by omega,Hh rfl,Hh (by simpa using HO1.out),Hh (fun y hy => by cases hy),HT1,HC1,HX1⟩
 case round =>
  obtain ⟨v,A1,p,c1,acc,hv0,hv5,rfl,rfl,hpv,HL,HO0',HIN,HT0',HC0',HX0'⟩ := hrel
  have x1 := cell_block (cs := [.slice A n c,.slice B m d]) HX0'.out 1 _ rfl
  have hlx := lt_of_cell x1
  have hs0 := HT0'.out.le
  by_cases hv : 0 < v
  ·go_wp2_with fail
   refine (HB.out m (H9.out _ (by omega) (by omega)) _ HC0'.out).mono ?_
   rintro e w2 ⟨v2,rfl,⟨hv2a,hv2b⟩,ht2,hc2⟩
   have HT2 := Hh (HT0'.out.trans ht2)
   have HC2 := Hh hc2
   have HX2 := Hh (heapT ht2 HX0'.out (by omega))
   have HO2 := Hh (ownsT HO0'.out ht2 (by omega))
   have hs2 := HT2.out.le
   clear ht2 hc2 x1 hlx
   go_wp2_with (at_builtin;go_must (refine wpList_append_one_t (.tmp 14) (.tmp 20) _ w.heap.size 3 i0 _ 1 8 _ p _ (encInt v2) rfl rfl Tryz.underlying23 hi hI0 hI1 hI2 rfl (by omega) rfl (HO2.out) _ rfl (by first | rfl | simp) rfl (TInt.one _) (by unfold maxLen;omega) (by omega) hs2 ?_);intro A7 c7 w7 ho7 ht7 hs7 hk7)
   have HO7 := Hh ho7
   have HT7 := Hh (turned_low HT2.out ht7 (Nat.le_refl _))
   have HC7 := Hh (HC2.out.keep ht7 hgw)
   have HX7 := Hh (hk7 _ _ _ (by decide) HX2.out)
   have HIN7 := Hh (all_snoc (ok := In64) HIN.out (in64_of (n := v2) (by omega) (by omega)))
   clear ho7 ht7 hk7
   go_wp2
   go_roundw
   case rel => exact ⟨v - 1,A7,p + 1,c7,acc ++ [v2],by omega,by omega,by go_num,rfl,by omega,Hh (by rw [List.length_append,HL.out];rfl),Hh (by rw [List.flatMap_append];simpa using HO7.out),HIN7,HT7,HC7,HX7⟩
   case measure => simp [intOf];omega
  ·clear x1 hlx
   go_wp2_with fail
   refine (HB.out 10 (H9.out _ (by omega) (by omega)) _ HC0'.out).mono ?_
   rintro e w2 ⟨v2,rfl,⟨hv2a,hv2b⟩,ht2,hc2⟩
   have HT2 := Hh (HT0'.out.trans ht2)
   have HC2 := Hh hc2
   have HO2 := Hh (ownsT HO0'.out ht2 (by omega))
   have hs2 := HT2.out.le
   clear ht2 hc2
   by_cases h0 : v2 = 0
   ·subst h0
    go_wp2_with fail
    refine (HR.out _ HC2.out).mono ?_
    rintro e w3 ⟨v3,rfl,hv3,ht3,hc3⟩
    have HT3 := Hh (HT2.out.trans ht3)
    have HC3 := Hh hc3
    have HO3 := Hh (ownsT HO2.out ht3 (by omega))
    have HV3 := Hh hv3
    have hs3 := HT3.out.le
    clear ht3 hc3 hv3
    go_wp2_with (at_builtin;go_must (refine wpList_append_one_t (.tmp 25) (.tmp 28) _ w.heap.size 3 i0 _ 1 8 _ p _ (encInt v3) rfl rfl Tryz.underlying23 hi hI0 hI1 hI2 rfl (by omega) rfl (HO3.out) _ rfl (by first | rfl | simp) rfl (TInt.one _) (by unfold maxLen;omega) (by omega) hs3 ?_);intro A7 c7 w7 ho7 ht7 hs7 hk7)
    have HRR := Hh (show RetIntsD 5 w g (.returned (.slice A7 (p + 1) c7)) w7 from ⟨A7,c7,acc ++ [v3],by rw [List.length_append,HL.out];rfl,by rw [List.flatMap_append,List.length_append,HL.out];simpa using ho7,all_snoc (ok := In64) HIN.out HV3.out,by rw [List.length_append,HL.out];simp;omega,turned_low HT3.out ht7 (Nat.le_refl _),HC3.out.keep ht7 hgw⟩)
    clear ho7 ht7 hk7
    go_wp2
    exact ret_post rfl HRR.out
   ·have HRR := Hh (show RetIntsD 5 w g (.returned (.slice A1 p c1)) w2 from ⟨A1,c1,acc,by rw [HL.out],by rw [HL.out];exact HO2.out,HIN.out,by rw [HL.out];omega,HT2.out,HC2.out⟩)
    go_wp2
    exact ret_post rfl HRR.out
def RetAnyS (w : World) (g : Nat) : Ending → World → Prop := fun e w' => ∃ d : StD,e = .returned (.agg #[.slice d.A1 d.n1 d.c1,.slice d.A2 d.n2 d.c2,.slice d.A3 d.n3 d.c3,.int .i64 d.lic.A,.int .i64 d.lic.B,.int .i64 d.lic.C,.int .i64 d.dep,.int .i64 d.now,.slice d.A6 d.n6 d.c6,.slice d.A7 d.n7 d.c7,.slice d.A8 d.n8 d.c8]) ∧ d.good w' w.heap.size ∧ d.mid ∧ Turned g (g + 1) w w' ∧ Cur w' g
section
variable {w u u' : World} {g b : Nat} {d d2 : StD}
theorem DrawI.cell (h : DrawI w u g b d) {p : Nat} {x : Value} (hv : [.slice d.A1 d.n1 d.c1,.slice d.A2 d.n2 d.c2,.slice d.A3 d.n3 d.c3,.int .i64 d.lic.A,.int .i64 d.lic.B,.int .i64 d.lic.C,.int .i64 d.dep,.int .i64 d.now,.slice d.A6 d.n6 d.c6,.slice d.A7 d.n7 d.c7,.slice d.A8 d.n8 d.c8].set p x = [.slice d2.A1 d2.n1 d2.c1,.slice d2.A2 d2.n2 d2.c2,.slice d2.A3 d2.n3 d2.c3,.int .i64 d2.lic.A,.int .i64 d2.lic.B,.int .i64 d2.lic.C,.int .i64 d2.dep,.int .i64 d2.now,.slice d2.A6 d2.n6 d2.c6,.slice d2.A7 d2.n7 d2.c7,.slice d2.A8 d2.n8 d2.c8]) (hd : d2.good u w.heap.size) : DrawI w (u.setCell ⟨b,p,none⟩ x) g b d2 := by
 have hn := h.nb
 have hg := h.gl
 have hk := kept_set u b p x
 exact ⟨hk.own h.b4 (fun k h1 h2 => by simp [Value.ownBlock] at h1 h2;omega),by rw [← hv];exact (h.b5.stored p x).1,hn,hd.far h.b5 (by simp [rowTypes]),hg,turned_own h.tu (by omega),h.cu.put (by omega)⟩
theorem DrawI.row {base nb sz : Nat} {e : TypeId} {v : Value} {L : List Value} (h : DrawI w u g b d) (ho : u.ownsRow base e sz v nb L) (hk : Kept u u' v.ownBlock) (hne : e ≠ 34) (hb : w.heap.size ≤ base) (hd : d2.good u' w.heap.size) (hv : ([.slice d.A1 d.n1 d.c1,.slice d.A2 d.n2 d.c2,.slice d.A3 d.n3 d.c3,.int .i64 d.lic.A,.int .i64 d.lic.B,.int .i64 d.lic.C,.int .i64 d.dep,.int .i64 d.now,.slice d.A6 d.n6 d.c6,.slice d.A7 d.n7 d.c7,.slice d.A8 d.n8 d.c8] : List Value) = [.slice d2.A1 d2.n1 d2.c1,.slice d2.A2 d2.n2 d2.c2,.slice d2.A3 d2.n3 d2.c3,.int .i64 d2.lic.A,.int .i64 d2.lic.B,.int .i64 d2.lic.C,.int .i64 d2.dep,.int .i64 d2.now,.slice d2.A6 d2.n6 d2.c6,.slice d2.A7 d2.n7 d2.c7,.slice d2.A8 d2.n8 d2.c8]) : DrawI w u' g b d2 := by
 have hg := h.gl
 have hc : ∀ q,v.ownBlock = some q → w.heap.size ≤ q := fun q hq => Nat.le_trans hb (ho.lt q hq).1
 exact ⟨hk.own h.b4 (g_apart h.b4 ho (Ne.symm hne)),by rw [← hv];exact hk.own h.b5 (g_apart h.b5 ho (Ne.symm hne)),h.nb,hd,hg,⟨hk.os.trans h.tu.os,hk.tape.trans h.tu.tape,hk.output.trans h.tu.output,Nat.le_trans h.tu.size hk.size,fun k hk1 hr => (hk.kept k (Nat.lt_of_lt_of_le hk1 h.tu.size) (fun e => by have := hc k e;omega)).trans (h.tu.block k hk1 hr)⟩,
  h.cu.keep (hk.turned (lo := w.heap.size) hc) hg⟩
theorem DrawI.fin2 (h : DrawI w u g b d) (hs : d.mid) : RetAnyS w g (.returned (.agg #[.slice d.A1 d.n1 d.c1,.slice d.A2 d.n2 d.c2,.slice d.A3 d.n3 d.c3,.int .i64 d.lic.A,.int .i64 d.lic.B,.int .i64 d.lic.C,.int .i64 d.dep,.int .i64 d.now,.slice d.A6 d.n6 d.c6,.slice d.A7 d.n7 d.c7,.slice d.A8 d.n8 d.c8])) (setCells u w.heap.size 0 [.slice d.A1 d.n1 d.c1,.slice d.A2 d.n2 d.c2,.slice d.A3 d.n3 d.c3,.int .i64 d.lic.A,.int .i64 d.lic.B,.int .i64 d.lic.C,.int .i64 d.dep,.int .i64 d.now,.slice d.A6 d.n6 d.c6,.slice d.A7 d.n7 d.c7,.slice d.A8 d.n8 d.c8]) :=
 ⟨d,rfl,h.gd.kept h.b4 (kept_puts w.heap.size [.slice d.A1 d.n1 d.c1,.slice d.A2 d.n2 d.c2,.slice d.A3 d.n3 d.c3,.int .i64 d.lic.A,.int .i64 d.lic.B,.int .i64 d.lic.C,.int .i64 d.dep,.int .i64 d.now,.slice d.A6 d.n6 d.c6,.slice d.A7 d.n7 d.c7,.slice d.A8 d.n8 d.c8] u 0) (by simp [rowTypes]),hs,turned_puts _ 0 h.tu (Nat.le_refl _),cur_puts _ 0 h.cu h.gl⟩
theorem DrawI.rowTell {base nb sz p : Nat} {e : TypeId} {v x : Value} {L : List Value} (h : DrawI w u g b d) (ho : u.ownsRow base e sz v nb L) (hk : Kept u u' v.ownBlock) (hne : e ≠ 34) (hb : w.heap.size ≤ base) (hd : d2.good u' w.heap.size) (hv : [.slice d.A1 d.n1 d.c1,.slice d.A2 d.n2 d.c2,.slice d.A3 d.n3 d.c3,.int .i64 d.lic.A,.int .i64 d.lic.B,.int .i64 d.lic.C,.int .i64 d.dep,.int .i64 d.now,.slice d.A6 d.n6 d.c6,.slice d.A7 d.n7 d.c7,.slice d.A8 d.n8 d.c8].set p x = [.slice d2.A1 d2.n1 d2.c1,.slice d2.A2 d2.n2 d2.c2,.slice d2.A3 d2.n3 d2.c3,.int .i64 d2.lic.A,.int .i64 d2.lic.B,.int .i64 d2.lic.C,.int .i64 d2.dep,.int .i64 d2.now,.slice d2.A6 d2.n6 d2.c6,.slice d2.A7 d2.n7 d2.c7,.slice d2.A8 d2.n8 d2.c8]) : DrawI w (u'.setCell ⟨b,p,none⟩ x) g b d2 := by
 have hg := h.gl
 have hn := h.nb
 have hc : ∀ q,v.ownBlock = some q → w.heap.size ≤ q := fun q hq => Nat.le_trans hb (ho.lt q hq).1
 have h4 := hk.own h.b4 (g_apart h.b4 ho (Ne.symm hne))
 have h5 := hk.own h.b5 (g_apart h.b5 ho (Ne.symm hne))
 have ht : Turned g (g + 1) w u' := ⟨hk.os.trans h.tu.os,hk.tape.trans h.tu.tape,hk.output.trans h.tu.output,Nat.le_trans h.tu.size hk.size,fun k hk1 hr => (hk.kept k (Nat.lt_of_lt_of_le hk1 h.tu.size) (fun e => by have := hc k e;omega)).trans (h.tu.block k hk1 hr)⟩
 have hcu : Cur u' g := h.cu.keep (hk.turned (lo := w.heap.size) hc) hg
 have hk2 := kept_set u' b p x
 exact ⟨hk2.own h4 (fun k h1 h2 => by simp [Value.ownBlock] at h1 h2;omega),by rw [← hv];exact (h5.stored p x).1,hn,hd.far h5 (by simp [rowTypes]),hg,turned_own ht (by omega),hcu.put (by omega)⟩
theorem DrawI.pushQ {x : Job} {A : Option Addr} {c : Nat} (h : DrawI w u g b d) (hr : AppR u u' w.heap.size 52 11 (.slice d.A6 d.n6 d.c6) A (d.n6 + 1) c (d.q.flatMap Job.enc ++ [x].flatMap Job.enc)) (hx : x.ok) : DrawI w (u'.setCell ⟨b,8,none⟩ (.slice A (d.n6 + 1) c)) g b (d.withQ (d.q ++ [x]) A (d.n6 + 1) c) :=
 h.rowTell h.gd.r6 hr.kp (by decide) (Nat.le_refl _) (h.gd.pushQ hr hx) rfl
theorem DrawI.pushE {x : End} {A : Option Addr} {c : Nat} (h : DrawI w u g b d) (hr : AppR u u' w.heap.size 64 3 (.slice d.A8 d.n8 d.c8) A (d.n8 + 1) c (d.es.flatMap End.enc ++ [x].flatMap End.enc)) (hx : x.ok) : DrawI w (u'.setCell ⟨b,10,none⟩ (.slice A (d.n8 + 1) c)) g b (d.withE (d.es ++ [x]) A (d.n8 + 1) c) :=
 h.rowTell h.gd.r8 hr.kp (by decide) (Nat.le_refl _) (h.gd.pushE hr hx) rfl
theorem DrawI.setUp {k j : Nat} {v : Bool} (h : DrawI w u g b d) (hA : d.A3 = some ⟨k,0,none⟩) (hj : j < d.n3) : DrawI w (u.setCell ⟨k,j,none⟩ (.bool v)) g b (d.withUp (d.up.set j v) d.A3 d.n3 d.c3) := by
 have hu := h.gd.r3
 rw [hA] at hu
 exact h.row hu (kept_set u k j (.bool v)) (by decide) (Nat.le_refl _) (h.gd.setUp hA hj) rfl
theorem StD.good.setRun {w : World} {lo g p : Nat} {x : Value} {r r' : RawRun} {d : StD} (h : d.good w lo) (hA : d.A7 = some ⟨g,0,none⟩) (hx : d.rs[0]? = some r) (hp : p < 13) (he : r'.enc = r.enc.set p x) (hr : r'.ok) (hm : RawRun.mem w lo r') : (d.withR (d.rs.set 0 r') d.A7 d.n7 d.c7).good (w.setCell ⟨g,p,none⟩ x) lo := by
 have hu := h.r7
 have h7 := h.l7
 rw [hA] at hu
 have hkp := kept_set w g p x
 have hu2 := hu
 rw [h7] at hu2
 have hq := owns_put (enc := RawRun.enc) (sz := 13) (k := 0) RawRun.size (j := p) hp hx (x' := r') (u := x) he hu2
 rw [Nat.zero_mul,Nat.zero_add,List.length_set,← h7,← hA] at hq
 exact ⟨h.l1,h.l2,h.l3,h.l6,(by show d.n7 = (d.rs.set 0 r').length;rw [List.length_set];exact h7),h.l8,h.r1.keep hu hkp (by decide),h.r2.keep hu hkp (by decide),hkp.own h.r3 (g_apart h.r3 hu (by decide)),hkp.own h.r6 (g_apart h.r6 hu (by decide)),hq,hkp.own h.r8 (g_apart h.r8 hu (by decide)),h.k1,h.k2,h.k6,(fun y hy => by
  rcases List.mem_or_eq_of_mem_set hy with hy | rfl
  ·exact ⟨(h.k7 y hy).1,by obtain ⟨xs,hy⟩ := (h.k7 y hy).2;exact ⟨xs,hy.kept hu hkp (by decide)⟩⟩
  ·exact ⟨hr,by obtain ⟨xs,hm⟩ := hm;exact ⟨xs,hm.kept hu hkp (by decide)⟩⟩),h.k8,h.kn⟩
theorem DrawI.setRun {k p : Nat} {x : Value} {r r' : RawRun} (h : DrawI w u g b d) (hA : d.A7 = some ⟨k,0,none⟩) (hx : d.rs[0]? = some r) (hp : p < 13) (he : r'.enc = r.enc.set p x) (hr : r'.ok) (hm : RawRun.mem u w.heap.size r') : DrawI w (u.setCell ⟨k,p,none⟩ x) g b (d.withR (d.rs.set 0 r') d.A7 d.n7 d.c7) := by
 have hu := h.gd.r7
 rw [hA] at hu
 exact h.row hu (kept_set u k p x) (by decide) (Nat.le_refl _) (h.gd.setRun hA hx hp he hr hm) rfl
theorem StD.good.run0 {w : World} {lo : Nat} {d : StD} (h : d.good w lo) (hn : 0 < d.n7) : ∃ (k : Nat) (r : RawRun),d.A7 = some ⟨k,0,none⟩ ∧ d.rs[0]? = some r ∧ r.ok ∧ ∀ w' : World,d.good w' lo → RawRun.mem w' lo r := by
 obtain ⟨k,c,hv,_⟩ := own_form h.r7 hn
 injection hv with h1 _ _
 have hl := h.l7
 have hx : d.rs[0]? = some d.rs[0] := List.getElem?_eq_getElem (by omega)
 exact ⟨k,d.rs[0],h1,hx,(h.k7 _ (List.getElem_mem (by omega))).1,fun w' h' => (h'.k7 _ (List.getElem_mem (by omega))).2⟩
theorem StD.good.runCell {w : World} {lo k p : Nat} {x : Value} {r : RawRun} {d : StD} (h : d.good w lo) (hA : d.A7 = some ⟨k,0,none⟩) (hx : d.rs[0]? = some r) (hp : r.enc[p]? = some x) : w.cell? ⟨k,p,none⟩ = some x := by
 have hr := h.r7
 rw [hA] at hr
 have hl := h.l7
 have h0 := (List.getElem?_eq_some_iff.1 hx).1
 have hp2 : p < 13 := by have := (List.getElem?_eq_some_iff.1 hp).1;rw [RawRun.size] at this;exact this
 have h1 := flatMap_get (enc := RawRun.enc) (j := p) RawRun.size hp2 hx
 rw [Nat.zero_mul,Nat.zero_add] at h1
 rw [hr.cellAt p (by omega),h1,hp]
theorem StD.good.runFrozen {w : World} {lo k p : Nat} {d : StD} (h : d.good w lo) (hA : d.A7 = some ⟨k,0,none⟩) : w.frozen? ⟨k,p,none⟩ = false ∧ k < w.heap.size := by
 have hr := h.r7
 rw [hA] at hr
 exact ⟨hr.frozenAt p,(hr.lt k rfl).2⟩
theorem StD.good.runJob {w : World} {lo k : Nat} {r : RawRun} {d : StD} (h : d.good w lo) (hA : d.A7 = some ⟨k,0,none⟩) (hx : d.rs[0]? = some r) : w.cell? ⟨k,0,none⟩ = some (.int .i64 r.j.Id) ∧ w.cell? ⟨k,1,none⟩ = some (.int .i64 r.j.Prio) ∧ w.cell? ⟨k,2,none⟩ = some (.int .i64 r.j.Nodes) ∧ w.cell? ⟨k,3,none⟩ = some (.int .i64 r.j.Need.A) ∧ w.cell? ⟨k,4,none⟩ = some (.int .i64 r.j.Need.B) ∧ w.cell? ⟨k,5,none⟩ = some (.int .i64 r.j.Need.C) ∧ w.cell? ⟨k,6,none⟩ = some (.int .i64 r.j.Lic.A) ∧ w.cell? ⟨k,7,none⟩ = some (.int .i64 r.j.Lic.B) ∧ w.cell? ⟨k,8,none⟩ = some (.int .i64 r.j.Lic.C) ∧ w.cell? ⟨k,9,none⟩ = some (.int .i64 r.j.Wall) ∧ w.cell? ⟨k,10,none⟩ = some (.int .i64 r.j.Level) :=
 ⟨h.runCell hA hx rfl,h.runCell hA hx rfl,h.runCell hA hx rfl,h.runCell hA hx rfl,h.runCell hA hx rfl,h.runCell hA hx rfl,h.runCell hA hx rfl,h.runCell hA hx rfl,h.runCell hA hx rfl,h.runCell hA hx rfl,h.runCell hA hx rfl⟩
def RawRun.withAt (r : RawRun) (t : Int) : RawRun := { r with at_ := t }
def RawRun.withNodes (r : RawRun) (A : Option Addr) (n c : Nat) : RawRun := { r with A := A,n := n,c := c }
def RawRun.withLevel (r : RawRun) (t : Int) : RawRun := { r with j := { r.j with Level := t } }
theorem RawRun.ok.at' {r : RawRun} (h : r.ok) {t : Int} (ht : In64 t) : (r.withAt t).ok := ⟨h.1,ht,h.2.2.1,h.2.2.2⟩
theorem RawRun.ok.nodes {r : RawRun} (h : r.ok) {A : Option Addr} {n c : Nat} (h1 : n ≤ 1048576) (h2 : n ≤ c) : (r.withNodes A n c).ok := ⟨h.1,h.2.1,h1,h2⟩
theorem RawRun.ok.level {r : RawRun} (h : r.ok) {t : Int} (ht : In64 t) : (r.withLevel t).ok := by
 obtain ⟨⟨a0,a1,a2,a3,a4,a5,a6,a7,a8,a9,a10⟩,h2,h3,h4⟩ := h
 exact ⟨⟨a0,a1,a2,a3,a4,a5,a6,a7,a8,a9,ht⟩,h2,h3,h4⟩
end
end Go.Proofs.YtfanjhcdjbnnnaaGreat
