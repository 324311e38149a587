/- DTopoA, MvDNew. -/
import Derived.Test.YtfanjhcdjbnnnaaGreatK28
import Derived.Test.YtfanjhcdjbnnnaaGreatK33
import Derived.Test.YtfanjhcdjbnnnaaGreatK04
import Derived.Test.YtfanjhcdjbnnnaaGreatK06
import Derived.Test.YtfanjhcdjbnnnaaGreatK07
import Derived.Deep.RegionHeld3
import Derived.Deep.RegionLaw
namespace Go.Proofs.YtfanjhcdjbnnnaaGreat
open Go.RowKit
set_option linter.unusedVariables false
set_option maxHeartbeats 16000000
set_option maxRecDepth 10000
def RetTopoA (w : World) (g : Nat) : Ending → World → Prop := fun e w' => ∃ (A : Option Addr) (c : Nat) (ps : List Int) (B : Option Addr) (d : Nat) (ns : List Node),e = .returned (.agg #[.slice A ps.length c,.slice B ns.length d]) ∧ w'.ownsRow (w.heap.size + 1) 3 1 (.slice A ps.length c) ps.length (ps.flatMap encInt) ∧ (∀ y ∈ ps,In64 y) ∧ w'.ownsRow (w.heap.size + 1) 85 4 (.slice B ns.length d) ns.length (ns.flatMap Node.enc) ∧ (∀ y ∈ ns,y.ok) ∧ ps.length ≤ 19 ∧ ns.length ≤ 10 ∧ Turned g (g + 1) w w' ∧ Cur w' g
theorem topoA_ret {w u : World} {g : Nat} (hg : g < w.heap.size) {A : Option Addr} {c : Nat} {ps : List Int} {B : Option Addr} {d : Nat} {ns : List Node} (h1 : u.ownsRow (w.heap.size + 1) 3 1 (.slice A ps.length c) ps.length (ps.flatMap encInt)) (k1 : ∀ y ∈ ps,In64 y) (h2 : u.ownsRow (w.heap.size + 1) 85 4 (.slice B ns.length d) ns.length (ns.flatMap Node.enc)) (k2 : ∀ y ∈ ns,y.ok) (hp : ps.length ≤ 19) (hn : ns.length ≤ 10) (ht : Turned g (g + 1) w u) (hc : Cur u g) {a0 a1 v : Value} (hv : v = .agg #[.slice A ps.length c,.slice B ns.length d]) : RetTopoA w g (.returned v) ((u.setCell ⟨w.heap.size,0,none⟩ a0).setCell ⟨w.heap.size,1,none⟩ a1) :=
 ⟨A,c,ps,B,d,ns,by rw [hv],own_set (own_set h1 (Nat.lt_succ_self _)) (Nat.lt_succ_self _),k1,own_set (own_set h2 (Nat.lt_succ_self _)) (Nat.lt_succ_self _),k2,hp,hn,turned_own (turned_own ht (Nat.le_refl _)) (Nat.le_refl _),(hc.put hg).put hg⟩
theorem l02Any_c (g : Nat) (w : World) (hc : Cur w g) : Calls Tryz.prog 24 #[.pointer (some ⟨g,0,none⟩)] w (RetTopoA w g) := by
 obtain ⟨i0,hi,hI0,hI1,hI2⟩ := info_parts TInt.info
 have hgw := hc.lt
 have HB := Hh (fun (n : Int) (hn : In64 n) (u : World) (hu : Cur u g) => l01Below_c g n u hu hn)
 have HRW := Hh (fun (u : World) (hu : Cur u g) => l01Raw_c g u hu)
 have HAY := Hh (fun (u : World) (hu : Cur u g) => l01Any_c g u hu)
 have H9 : Hid (∀ n : Int,-1000000 ≤ n → n ≤ 1000000 → In64 n) := Hh (fun n h1 h2 => by unfold In64;omega)
 have HDR := Hh (l02Draw_c g _ (hc.ext ((Ext.refl w).alloc (.cells #[.slice none 0 0,.slice none 0 0] 26))))
 clear hc
 go_enter Tryz.func24,Tryz.ntmps24
 go_wp2_with fail
 refine HDR.out.mono ?_
 rintro e w1 ⟨A,c,ps,B,d,ns,rfl,ho1,hk1,ho2,hk2,hps1,hps,hns,ht1,hc1⟩
 have HT1 := Hh ((Ext.turned ((Ext.refl w).alloc (.cells #[.slice none 0 0,.slice none 0 0] 26)) g (g + 1)).trans ht1)
 have HZ1 := Hh (ownsT (owns_base (gbox w [.slice none 0 0,.slice none 0 0] 26 2 rfl) (show g + 1 ≤ w.heap.size by omega)) ht1 (Nat.le_refl _))
 have hs1 : w.heap.size + 1 ≤ w1.heap.size := by have := ht1.le;simp at this;omega
 have HO1 := Hh (show w1.ownsRow (w.heap.size + 1) 3 1 (.slice A ps.length c) ps.length (ps.flatMap encInt) from owns_base ho1 (by simp))
 have HO2 := Hh (show w1.ownsRow (w.heap.size + 1) 85 4 (.slice B ns.length d) ns.length (ns.flatMap Node.enc) from owns_base ho2 (by simp))
 have HK1 := Hh hk1
 have HK2 := Hh hk2
 have HC1 := Hh (hc1.ext ((Ext.refl _).alloc (.cells #[.slice A ps.length c,.slice B ns.length d] 26)))
 clear ho1 ho2 hk1 hk2 ht1 hc1 HDR
 go_wp2_with fail
 refine (HB.out 14 (H9.out _ (by omega) (by omega)) _ HC1.out).mono ?_
 rintro e w2 ⟨v2,rfl,⟨hv2a,hv2b⟩,ht2,hc2⟩
 have EX : Ext w1 (w1.alloc (.cells #[.slice A ps.length c,.slice B ns.length d] 26)) := (Ext.refl _).alloc _
 have HT2 := Hh ((HT1.out.ext EX).trans ht2)
 have HC2 := Hh hc2
 have HP2 := Hh (ownsT (owns_ext HO1.out EX) ht2 (by omega))
 have HN2 := Hh (ownsT (owns_ext HO2.out EX) ht2 (by omega))
 have HX2 := Hh (ownsT (owns_base (gbox w1 [.slice A ps.length c,.slice B ns.length d] 26 2 rfl) (show g + 1 ≤ w1.heap.size by omega)) ht2 (Nat.le_refl _))
 have HZ2 := Hh (ownsT (owns_ext HZ1.out EX) ht2 (Nat.le_refl _))
 obtain ⟨bx,hbx⟩ : ∃ bx,bx = w1.heap.size := ⟨_,rfl⟩
 rw [← hbx] at HX2 ⊢
 have hbw : w.heap.size + 1 ≤ bx := by omega
 have n1 : ¬ bx = w.heap.size := by omega
 have n2 : ¬ w.heap.size = bx := by omega
 obtain ⟨b,rfl,hb1,hb2⟩ := down_form HO1.out (by omega)
 have n3 : b < bx := by omega
 have n4 : ¬ b = bx := by omega
 have n5 : ¬ bx = b := by omega
 have n6 : ¬ b = w.heap.size := by omega
 have n7 : ¬ w.heap.size = b := by omega
 have hbg : g < bx := by omega
 clear ht2 hc2 EX HT1 HZ1 HO1 HO2 HC1 hbx hs1 hb2
 by_cases hk0 : v2 = 0
 ·subst hk0
  obtain ⟨x0,x1,xf0,xf1,xl⟩ := gcells2 HX2.out
  go_upto_region 4 with fail
  go_region_held3 (fun u => u.cell? ⟨bx,0,none⟩ = some (.slice (some ⟨b,0,none⟩) ps.length c)) ((first | exact x4 | exact x3 | exact x0 | exact Ext.cell ((Ext.refl _).drew) x0 | (rw [World.cell?_setCell_other] <;> first | exact x4 | (intro e;injection e with e;omega)))) (first | (go_at_call 20;(with_reducible refine (HB.out ps.length (H9.out _ (by omega) (by omega)) _ (HC2.out.ext ((Ext.refl _).drew))).mono ?_);rintro e w3 ⟨v3,rfl,⟨hv3a,hv3b⟩,ht3,hc3⟩;have HQ3 := Hh ((Ext.turned (w := w2) ((Ext.refl _).drew) g (g + 1)).trans ht3);have HC3 := Hh hc3;have x3 := cellT HQ3.out x0 (by omega);obtain ⟨j,rfl⟩ := Int.eq_ofNat_of_zero_le hv3a;have hj : j < ps.length := (by omega);clear ht3 hc3) | (go_at_call 21;(with_reducible refine (HRW.out _ HC3.out).mono ?_);rintro e w4 ⟨v4,rfl,hv4,ht4,hc4⟩;have HQ4 := Hh (HQ3.out.trans ht4);have HC4 := Hh hc4;have x4 := cellT HQ4.out x0 (by omega);have HV4 := Hh hv4;have HP4 := Hh (ownsT HP2.out HQ4.out (by omega));obtain ⟨y0,hy0⟩ := owns_cell HP4.out (j := j) (by omega);have yf0 := HP4.out.frozenAt j;clear ht4 hc4 hv4))
  all_goals
   obtain ⟨xx,hxx⟩ : ∃ xx,ps[j]? = some xx := ⟨_,List.getElem?_eq_getElem hj⟩
   have HW := Hh (show (w4.setCell ⟨b,j,none⟩ (.int .i64 v4)).ownsRow (w.heap.size + 1) 3 1 (.slice (some ⟨b,0,none⟩) (ps.set j v4).length c) (ps.set j v4).length ((ps.set j v4).flatMap encInt) from by have h := owns_put (j := 0) (x' := v4) encInt_size (by omega) hxx (u := .int .i64 v4) rfl HP4.out;simpa using h)
   have HKK := Hh (all_set (k := j) HK1.out HV4.out)
   have HNW := Hh (show (w4.setCell ⟨b,j,none⟩ (.int .i64 v4)).ownsRow (w.heap.size + 1) 85 4 (.slice B ns.length d) ns.length (ns.flatMap Node.enc) from g_far (ownsT HN2.out HQ4.out (by omega)) (fun e => g_apart (ownsT HN2.out HQ4.out (show g + 1 ≤ w.heap.size + 1 by omega)) HP4.out (by decide) _ e rfl))
   have HTW := Hh (turned_own (j := j) (u := .int .i64 v4) (HT2.out.trans HQ4.out) (show w.heap.size ≤ b by omega))
   have HCW := Hh (HC4.out.put (j := j) (b := b) (u := .int .i64 v4) (by omega))
   obtain ⟨x5,x6,xf5,xf6,xl5⟩ := gcells2 (ownsT HX2.out HQ4.out (Nat.le_refl _))
   obtain ⟨z5,z6,zf5,zf6,zl5⟩ := gcells2 (ownsT HZ2.out HQ4.out (Nat.le_refl _))
   have hyl := lt_of_cell hy0
   clear x0 x1 xf0 xf1 x3 x4 hxx HP2 HN2 HX2 HZ2 HP4 HQ4 HQ3
   go_wp2
   exact bodyPost_ret (v := .agg #[.slice (some ⟨b,0,none⟩) ps.length c,.slice B ns.length d]) (by simp [results,Tryz.results24,go_sem, *]) rfl (topoA_ret hgw (ps := ps.set j v4) (ns := ns) HW.out HKK.out HNW.out HK2.out (by rw [List.length_set];omega) hns HTW.out HCW.out (by rw [List.length_set]))
 by_cases hk1 : v2 = 1
 ·subst hk1
  obtain ⟨x0,x1,xf0,xf1,xl⟩ := gcells2 HX2.out
  by_cases hn0 : ns.length = 0
  ·obtain ⟨z5,z6,zf5,zf6,zl5⟩ := gcells2 HZ2.out
   have hd0 : decide (0 < ns.length) = false := by rw [decide_eq_false_iff_not];omega
   have hd1 : decide ((0 : Int) < (ns.length : Int)) = false := by rw [decide_eq_false_iff_not];omega
   clear hn0
   go_wp2
   exact bodyPost_ret (v := .agg #[.slice (some ⟨b,0,none⟩) ps.length c,.slice B ns.length d]) (by simp [results,Tryz.results24,go_sem, *]) rfl (topoA_ret hgw (ps := ps) (ns := ns) HP2.out HK1.out HN2.out HK2.out (by omega) hns HT2.out HC2.out (rfl))
  ·have hd0 : decide (0 < ns.length) = true := by rw [decide_eq_true_iff];omega
   have hd1 : decide ((0 : Int) < (ns.length : Int)) = true := by rw [decide_eq_true_iff];omega
   have hn1 : 0 < ns.length := by omega
   clear hn0
   obtain ⟨bn,rfl,hbn1,hbn2⟩ := down_form HN2.out hn1
   have m1 : ¬ bn = bx := fun e => by subst e;exact g_apart HN2.out HX2.out (by decide) _ rfl rfl
   have m2 : ¬ bx = bn := fun e => m1 e.symm
   have m3 : ¬ bn = w.heap.size := by omega
   have m4 : ¬ w.heap.size = bn := by omega
   go_upto_region 6 with fail
   go_region_held3 (fun u => u.cell? ⟨bx,1,none⟩ = some (.slice (some ⟨bn,0,none⟩) ns.length d)) ((first | exact x4 | exact x1 | exact Ext.cell ((Ext.refl _).drew) x1 | (repeat (first | exact x4 | (rw [World.cell?_setCell_other] <;> try (intro e;injection e with e;omega)))))) ((go_at_call 21;(with_reducible refine (HRW.out _ (HC2.out.ext ((Ext.refl _).drew))).mono ?_);rintro e w4 ⟨v4,rfl,hv4,ht4,hc4⟩;have HQ4 := Hh ((Ext.turned (w := w2) ((Ext.refl _).drew) g (g + 1)).trans ht4);have HC4 := Hh hc4;have x4 := cellT HQ4.out x1 (by omega);have HV4 := Hh hv4;have HN4 := Hh (ownsT HN2.out HQ4.out (by omega));obtain ⟨y0,hy0⟩ := owns_cell HN4.out (j := 0) (by omega);have yf0 := HN4.out.frozenAt 0;have hyl := lt_of_cell hy0;clear ht4 hc4 hv4))
   all_goals
    obtain ⟨xx,hxx⟩ : ∃ xx,ns[0]? = some xx := ⟨_,List.getElem?_eq_getElem hn1⟩
    have HW0 := Hh (show (w4.setCell ⟨bn,0,none⟩ (.int .i64 v4)).ownsRow (w.heap.size + 1) 85 4 (.slice (some ⟨bn,0,none⟩) (ns.set 0 ⟨v4,xx.Cap⟩).length d) (ns.set 0 ⟨v4,xx.Cap⟩).length ((ns.set 0 ⟨v4,xx.Cap⟩).flatMap Node.enc) from by have h := owns_put (k := 0) (j := 0) (x' := ⟨v4,xx.Cap⟩) Node.size (by omega) hxx (u := .int .i64 v4) rfl HN4.out;simpa using h)
    have m5 : ¬ b = bn := fun e => by subst e;exact g_apart HP2.out HN2.out (by decide) _ rfl rfl
    have HPW := Hh (g_far (g := bn) (p := 0) (u := .int .i64 v4) (ownsT HP2.out HQ4.out (by omega)) (fun e => m5 (Option.some.inj e)))
    have HTW := Hh (turned_own (base := bn) (j := 0) (u := .int .i64 v4) (HT2.out.trans HQ4.out) (by omega))
    have HCW := Hh (HC4.out.put (b := bn) (j := 0) (u := .int .i64 v4) (by omega))
    have HKW := Hh (show ∀ y ∈ (ns.set 0 ⟨v4,xx.Cap⟩),y.ok from all_set (k := 0) HK2.out (show Node.ok ⟨v4,xx.Cap⟩ from ⟨HV4.out,(HK2.out xx (List.mem_of_getElem? hxx)).2⟩))
    have HLW := Hh (show (ns.set 0 ⟨v4,xx.Cap⟩).length = ns.length by simp only [List.length_set])
    obtain ⟨x5,x6,xf5,xf6,xl5⟩ := gcells2 (ownsT HX2.out HQ4.out (Nat.le_refl _))
    obtain ⟨z5,z6,zf5,zf6,zl5⟩ := gcells2 (ownsT HZ2.out HQ4.out (Nat.le_refl _))
    clear x0 x1 xf0 xf1 x4 HP2 HN2 HX2 HZ2 HN4 HQ4
    go_wp2
    exact bodyPost_ret (v := .agg #[.slice (some ⟨b,0,none⟩) ps.length c,.slice (some ⟨bn,0,none⟩) ns.length d]) (by simp [results,Tryz.results24,go_sem, *]) rfl (topoA_ret hgw (ps := ps) (ns := (ns.set 0 ⟨v4,xx.Cap⟩)) HPW.out HK1.out HW0.out HKW.out (by omega) (by rw [HLW.out];exact hns) HTW.out HCW.out (by rw [HLW.out]))
 by_cases hk2 : v2 = 2
 ·subst hk2
  obtain ⟨x0,x1,xf0,xf1,xl⟩ := gcells2 HX2.out
  by_cases hn0 : ns.length = 0
  ·obtain ⟨z5,z6,zf5,zf6,zl5⟩ := gcells2 HZ2.out
   have hd0 : decide (0 < ns.length) = false := by rw [decide_eq_false_iff_not];omega
   have hd1 : decide ((0 : Int) < (ns.length : Int)) = false := by rw [decide_eq_false_iff_not];omega
   clear hn0
   go_wp2
   exact bodyPost_ret (v := .agg #[.slice (some ⟨b,0,none⟩) ps.length c,.slice B ns.length d]) (by simp [results,Tryz.results24,go_sem, *]) rfl (topoA_ret hgw (ps := ps) (ns := ns) HP2.out HK1.out HN2.out HK2.out (by omega) hns HT2.out HC2.out (rfl))
  ·have hd0 : decide (0 < ns.length) = true := by rw [decide_eq_true_iff];omega
   have hd1 : decide ((0 : Int) < (ns.length : Int)) = true := by rw [decide_eq_true_iff];omega
   have hn1 : 0 < ns.length := by omega
   clear hn0
   obtain ⟨bn,rfl,hbn1,hbn2⟩ := down_form HN2.out hn1
   have m1 : ¬ bn = bx := fun e => by subst e;exact g_apart HN2.out HX2.out (by decide) _ rfl rfl
   have m2 : ¬ bx = bn := fun e => m1 e.symm
   have m3 : ¬ bn = w.heap.size := by omega
   have m4 : ¬ w.heap.size = bn := by omega
   go_upto_region 8 with fail
   go_region_held3 (fun u => u.cell? ⟨bx,1,none⟩ = some (.slice (some ⟨bn,0,none⟩) ns.length d)) ((first | exact x4 | exact x1 | exact Ext.cell ((Ext.refl _).drew) x1 | (repeat (first | exact x4 | (rw [World.cell?_setCell_other] <;> try (intro e;injection e with e;omega)))))) ((go_at_call 22;(with_reducible refine (HAY.out _ (HC2.out.ext ((Ext.refl _).drew))).mono ?_);rintro e w4 ⟨v4,rfl,hv4,ht4,hc4⟩;have HQ4 := Hh ((Ext.turned (w := w2) ((Ext.refl _).drew) g (g + 1)).trans ht4);have HC4 := Hh hc4;have x4 := cellT HQ4.out x1 (by omega);have HV4 := Hh hv4;have HN4 := Hh (ownsT HN2.out HQ4.out (by omega));obtain ⟨y1,hy1⟩ := owns_cell HN4.out (j := 1) (by omega);obtain ⟨y2,hy2⟩ := owns_cell HN4.out (j := 2) (by omega);obtain ⟨y3,hy3⟩ := owns_cell HN4.out (j := 3) (by omega);have yf1 := HN4.out.frozenAt 1;have yf2 := HN4.out.frozenAt 2;have yf3 := HN4.out.frozenAt 3;have hyl := lt_of_cell hy1;clear ht4 hc4 hv4))
   all_goals
    obtain ⟨xx,hxx⟩ : ∃ xx,ns[0]? = some xx := ⟨_,List.getElem?_eq_getElem hn1⟩
    have HW0 := Hh (show (w4.setCell ⟨bn,1,none⟩ (.int .i64 v4.A)).ownsRow (w.heap.size + 1) 85 4 (.slice (some ⟨bn,0,none⟩) (ns.set 0 ⟨xx.Leaf,⟨v4.A,xx.Cap.B,xx.Cap.C⟩⟩).length d) (ns.set 0 ⟨xx.Leaf,⟨v4.A,xx.Cap.B,xx.Cap.C⟩⟩).length ((ns.set 0 ⟨xx.Leaf,⟨v4.A,xx.Cap.B,xx.Cap.C⟩⟩).flatMap Node.enc) from by have h := owns_put (k := 0) (j := 1) (x' := ⟨xx.Leaf,⟨v4.A,xx.Cap.B,xx.Cap.C⟩⟩) Node.size (by omega) hxx (u := .int .i64 v4.A) rfl HN4.out;simpa using h)
    have hx0 : (ns.set 0 ⟨xx.Leaf,⟨v4.A,xx.Cap.B,xx.Cap.C⟩⟩)[0]? = some ⟨xx.Leaf,⟨v4.A,xx.Cap.B,xx.Cap.C⟩⟩ := by rw [List.getElem?_set_self (by first | omega | (simp only [List.length_set];omega))]
    have HW1 := Hh (show ((w4.setCell ⟨bn,1,none⟩ (.int .i64 v4.A)).setCell ⟨bn,2,none⟩ (.int .i64 v4.B)).ownsRow (w.heap.size + 1) 85 4 (.slice (some ⟨bn,0,none⟩) ((ns.set 0 ⟨xx.Leaf,⟨v4.A,xx.Cap.B,xx.Cap.C⟩⟩).set 0 ⟨xx.Leaf,⟨v4.A,v4.B,xx.Cap.C⟩⟩).length d) ((ns.set 0 ⟨xx.Leaf,⟨v4.A,xx.Cap.B,xx.Cap.C⟩⟩).set 0 ⟨xx.Leaf,⟨v4.A,v4.B,xx.Cap.C⟩⟩).length (((ns.set 0 ⟨xx.Leaf,⟨v4.A,xx.Cap.B,xx.Cap.C⟩⟩).set 0 ⟨xx.Leaf,⟨v4.A,v4.B,xx.Cap.C⟩⟩).flatMap Node.enc) from by have h := owns_put (k := 0) (j := 2) (x' := ⟨xx.Leaf,⟨v4.A,v4.B,xx.Cap.C⟩⟩) Node.size (by omega) hx0 (u := .int .i64 v4.B) rfl HW0.out;simpa using h)
    have hx1 : ((ns.set 0 ⟨xx.Leaf,⟨v4.A,xx.Cap.B,xx.Cap.C⟩⟩).set 0 ⟨xx.Leaf,⟨v4.A,v4.B,xx.Cap.C⟩⟩)[0]? = some ⟨xx.Leaf,⟨v4.A,v4.B,xx.Cap.C⟩⟩ := by rw [List.getElem?_set_self (by first | omega | (simp only [List.length_set];omega))]
    have HW2 := Hh (show (((w4.setCell ⟨bn,1,none⟩ (.int .i64 v4.A)).setCell ⟨bn,2,none⟩ (.int .i64 v4.B)).setCell ⟨bn,3,none⟩ (.int .i64 v4.C)).ownsRow (w.heap.size + 1) 85 4 (.slice (some ⟨bn,0,none⟩) (((ns.set 0 ⟨xx.Leaf,⟨v4.A,xx.Cap.B,xx.Cap.C⟩⟩).set 0 ⟨xx.Leaf,⟨v4.A,v4.B,xx.Cap.C⟩⟩).set 0 ⟨xx.Leaf,⟨v4.A,v4.B,v4.C⟩⟩).length d) (((ns.set 0 ⟨xx.Leaf,⟨v4.A,xx.Cap.B,xx.Cap.C⟩⟩).set 0 ⟨xx.Leaf,⟨v4.A,v4.B,xx.Cap.C⟩⟩).set 0 ⟨xx.Leaf,⟨v4.A,v4.B,v4.C⟩⟩).length ((((ns.set 0 ⟨xx.Leaf,⟨v4.A,xx.Cap.B,xx.Cap.C⟩⟩).set 0 ⟨xx.Leaf,⟨v4.A,v4.B,xx.Cap.C⟩⟩).set 0 ⟨xx.Leaf,⟨v4.A,v4.B,v4.C⟩⟩).flatMap Node.enc) from by have h := owns_put (k := 0) (j := 3) (x' := ⟨xx.Leaf,⟨v4.A,v4.B,v4.C⟩⟩) Node.size (by omega) hx1 (u := .int .i64 v4.C) rfl HW1.out;simpa using h)
    have m5 : ¬ b = bn := fun e => by subst e;exact g_apart HP2.out HN2.out (by decide) _ rfl rfl
    have HPW := Hh (g_far (g := bn) (p := 3) (u := .int .i64 v4.C) (g_far (g := bn) (p := 2) (u := .int .i64 v4.B) (g_far (g := bn) (p := 1) (u := .int .i64 v4.A) (ownsT HP2.out HQ4.out (by omega)) (fun e => m5 (Option.some.inj e))) (fun e => m5 (Option.some.inj e))) (fun e => m5 (Option.some.inj e)))
    have HTW := Hh (turned_own (base := bn) (j := 3) (u := .int .i64 v4.C) (turned_own (base := bn) (j := 2) (u := .int .i64 v4.B) (turned_own (base := bn) (j := 1) (u := .int .i64 v4.A) (HT2.out.trans HQ4.out) (by omega)) (by omega)) (by omega))
    have HCW := Hh (((HC4.out.put (b := bn) (j := 1) (u := .int .i64 v4.A) (by omega)).put (b := bn) (j := 2) (u := .int .i64 v4.B) (by omega)).put (b := bn) (j := 3) (u := .int .i64 v4.C) (by omega))
    have HKW := Hh (show ∀ y ∈ (((ns.set 0 ⟨xx.Leaf,⟨v4.A,xx.Cap.B,xx.Cap.C⟩⟩).set 0 ⟨xx.Leaf,⟨v4.A,v4.B,xx.Cap.C⟩⟩).set 0 ⟨xx.Leaf,⟨v4.A,v4.B,v4.C⟩⟩),y.ok from by have hxo := HK2.out xx (List.mem_of_getElem? hxx);exact all_set (k := 0) (all_set (k := 0) (all_set (k := 0) HK2.out (show Node.ok ⟨xx.Leaf,⟨v4.A,xx.Cap.B,xx.Cap.C⟩⟩ from ⟨hxo.1,HV4.out.1,hxo.2.2.1,hxo.2.2.2⟩)) (show Node.ok ⟨xx.Leaf,⟨v4.A,v4.B,xx.Cap.C⟩⟩ from ⟨hxo.1,HV4.out.1,HV4.out.2.1,hxo.2.2.2⟩)) (show Node.ok ⟨xx.Leaf,⟨v4.A,v4.B,v4.C⟩⟩ from ⟨hxo.1,HV4.out.1,HV4.out.2.1,HV4.out.2.2⟩))
    have HLW := Hh (show (((ns.set 0 ⟨xx.Leaf,⟨v4.A,xx.Cap.B,xx.Cap.C⟩⟩).set 0 ⟨xx.Leaf,⟨v4.A,v4.B,xx.Cap.C⟩⟩).set 0 ⟨xx.Leaf,⟨v4.A,v4.B,v4.C⟩⟩).length = ns.length by simp only [List.length_set])
    obtain ⟨x5,x6,xf5,xf6,xl5⟩ := gcells2 (ownsT HX2.out HQ4.out (Nat.le_refl _))
    obtain ⟨z5,z6,zf5,zf6,zl5⟩ := gcells2 (ownsT HZ2.out HQ4.out (Nat.le_refl _))
    clear x0 x1 xf0 xf1 x4 HP2 HN2 HX2 HZ2 HN4 HQ4
    go_wp2
    exact bodyPost_ret (v := .agg #[.slice (some ⟨b,0,none⟩) ps.length c,.slice (some ⟨bn,0,none⟩) ns.length d]) (by simp [results,Tryz.results24,go_sem, *]) rfl (topoA_ret hgw (ps := ps) (ns := (((ns.set 0 ⟨xx.Leaf,⟨v4.A,xx.Cap.B,xx.Cap.C⟩⟩).set 0 ⟨xx.Leaf,⟨v4.A,v4.B,xx.Cap.C⟩⟩).set 0 ⟨xx.Leaf,⟨v4.A,v4.B,v4.C⟩⟩)) HPW.out HK1.out HW2.out HKW.out (by omega) (by rw [HLW.out];exact hns) HTW.out HCW.out (by rw [HLW.out]))
 by_cases hk3 : v2 = 3
 ·subst hk3
  obtain ⟨x0,x1,xf0,xf1,xl⟩ := gcells2 HX2.out
  go_upto_region 10 with fail
  go_region_law (first
   | (go_simp;go_at_call 20;(with_reducible refine (HB.out ps.length (H9.out _ (by omega) (by omega)) _ (HC2.out.ext ((Ext.refl _).drew))).mono ?_);rintro e w3 ⟨v3,rfl,⟨hv3a,hv3b⟩,ht3,hc3⟩;have HQ3 := Hh ((Ext.turned (w := w2) ((Ext.refl _).drew) g (g + 1)).trans ht3);have HC3 := Hh hc3;have x3 := cellT HQ3.out x0 (by omega);have hx3 : bx < w3.heap.size := lt_of_cell x3;have HP3 := Hh (ownsT HP2.out HQ3.out (by omega));clear ht3 hc3)
   | (refine step_append_r (enc := encInt) (ok := In64) (by rfl) _ _ _ (by rfl) (w.heap.size + 1) 3 i0 _ 1 8 Tryz.underlying23 hi hI0 hI1 hI2 rfl (by omega) (.slice (some ⟨b,0,none⟩) ps.length c) ps.length (ps.flatMap encInt) _ 1 1 [v3] (ps.length + 1) rfl (by rfl) (by rfl) (owns_ext HP3.out ((Ext.refl _).alloc _)) (by exact sl_one_r (enc := encInt) w3 v3 3 rfl ⟨by omega,by omega⟩) (fun _ => rfl) TInt.one (by unfold maxLen;omega) (by omega) (by simp;omega) ?_;intro A10 c10 w8 hr8;have HR8 := Hh hr8;have HX8 := Hh (hr8.other (owns_ext (ownsT HX2.out HQ3.out (Nat.le_refl _)) ((Ext.refl w3).alloc (.cells (encInt v3).toArray 3))) (g_apart (ownsT HX2.out HQ3.out (Nat.le_refl _)) HP3.out (by decide)));have x8 := (gcells2 HX8.out).1;have xf8 := HX8.out.frozenAt 0;have hl8 := (HX8.out.lt bx rfl).2;clear hr8))
  all_goals
   have HZ8 := Hh (HR8.out.other (owns_ext (ownsT HZ2.out HQ3.out (Nat.le_refl _)) ((Ext.refl w3).alloc (.cells (encInt v3).toArray 3))) (g_apart (ownsT HZ2.out HQ3.out (Nat.le_refl _)) HP3.out (by decide)))
   have HN8 := Hh (HR8.out.other (owns_ext (ownsT HN2.out HQ3.out (by omega)) ((Ext.refl w3).alloc (.cells (encInt v3).toArray 3))) (g_apart (ownsT HN2.out HQ3.out (show g + 1 ≤ w.heap.size + 1 by omega)) HP3.out (by decide)))
   have HT8 := Hh (turned_low ((HT2.out.trans HQ3.out).ext ((Ext.refl w3).alloc (.cells (encInt v3).toArray 3))) (HR8.out.turned (lo := w.heap.size + 1) (fun q hq => (HP3.out.lt q hq).1)) (by omega))
   have HC8 := Hh ((HC3.out.ext ((Ext.refl w3).alloc (.cells (encInt v3).toArray 3))).keep (HR8.out.turned (lo := w.heap.size + 1) (fun q hq => (HP3.out.lt q hq).1)) (by omega))
   have HP8 := Hh (show w8.ownsRow (w.heap.size + 1) 3 1 (.slice A10 (ps ++ [v3]).length c10) (ps ++ [v3]).length ((ps ++ [v3]).flatMap encInt) from by rw [List.flatMap_append,List.length_append];exact HR8.out.row)
   have HKW := Hh (all_snoc HK1.out (show In64 v3 from ⟨by omega,by omega⟩))
   have HPW := Hh (g_far (g := bx) (p := 0) (u := .slice A10 (ps.length + 1) c10) HP8.out (fun e => g_apart HP8.out HX8.out (by decide) _ e rfl))
   have HNW := Hh (g_far (g := bx) (p := 0) (u := .slice A10 (ps.length + 1) c10) HN8.out (fun e => g_apart HN8.out HX8.out (by decide) _ e rfl))
   have HTW := Hh (turned_own (base := bx) (j := 0) (u := .slice A10 (ps.length + 1) c10) HT8.out (by omega))
   have HCW := Hh (HC8.out.put (b := bx) (j := 0) (u := .slice A10 (ps.length + 1) c10) hbg)
   obtain ⟨x5,x6,xf5,xf6,xl5⟩ := gcells2 HX8.out
   obtain ⟨z5,z6,zf5,zf6,zl5⟩ := gcells2 HZ8.out
   clear x0 x1 xf0 xf1 x3 HP2 HN2 HX2 HZ2 HP3 HQ3 HR8 HX8 HZ8 HN8 HT8 HC8 HP8 x8 xf8 hl8
   go_wp2
   exact bodyPost_ret (v := .agg #[.slice A10 (ps.length + 1) c10,.slice B ns.length d]) (by simp [results,Tryz.results24,go_sem, *]) rfl (topoA_ret hgw (ps := ps ++ [v3]) (ns := ns) HPW.out HKW.out HNW.out HK2.out (by rw [List.length_append];simp;omega) hns HTW.out HCW.out (by rw [List.length_append];rfl))
 by_cases hk4 : v2 = 4
 ·subst hk4
  obtain ⟨x0,x1,xf0,xf1,xl⟩ := gcells2 HX2.out
  obtain ⟨z5,z6,zf5,zf6,zl5⟩ := gcells2 HZ2.out
  have HNW := Hh (g_far (g := bx) (p := 0) (u := .slice none 0 0) HN2.out (fun e => g_apart HN2.out HX2.out (by decide) _ e rfl))
  have HTW := Hh (turned_own (base := bx) (j := 0) (u := .slice none 0 0) HT2.out (by omega))
  have HCW := Hh (HC2.out.put (b := bx) (j := 0) (u := .slice none 0 0) hbg)
  go_wp2
  exact bodyPost_ret (v := .agg #[.slice none 0 0,.slice B ns.length d]) (by simp [results,Tryz.results24,go_sem, *]) rfl (topoA_ret hgw (ps := ([] : List Int)) (ns := ns) (World.ownsRow_nil _ _ _ _) (fun y hy => by cases hy) HNW.out HK2.out (by simp) hns HTW.out HCW.out (rfl))
 ·obtain ⟨x0,x1,xf0,xf1,xl⟩ := gcells2 HX2.out
  obtain ⟨z5,z6,zf5,zf6,zl5⟩ := gcells2 HZ2.out
  go_wp2
  exact bodyPost_ret (v := .agg #[.slice (some ⟨b,0,none⟩) ps.length c,.slice B ns.length d]) (by simp [results,Tryz.results24,go_sem, *]) rfl (topoA_ret hgw (ps := ps) (ns := ns) HP2.out HK1.out HN2.out HK2.out (by omega) hns HT2.out HC2.out (rfl))
def RetStD (w : World) (g lo : Nat) : Ending → World → Prop := fun e w' => ∃ d : StD,e = .returned (.agg #[.slice d.A1 d.n1 d.c1,.slice d.A2 d.n2 d.c2,.slice d.A3 d.n3 d.c3,.int .i64 d.lic.A,.int .i64 d.lic.B,.int .i64 d.lic.C,.int .i64 d.dep,.int .i64 d.now,.slice d.A6 d.n6 d.c6,.slice d.A7 d.n7 d.c7,.slice d.A8 d.n8 d.c8]) ∧ d.good w' lo ∧ d.sm ∧ Turned g (g + 1) w w' ∧ Cur w' g
theorem turned_puts {g b : Nat} (us : List Value) : ∀ {w u : World} (p : Nat),Turned g (g + 1) w u → w.heap.size ≤ b → Turned g (g + 1) w (setCells u b p us) := by
 induction us with
 | nil => intro w u p h _;exact h
 | cons x us ih => intro w u p h hb;exact ih (p + 1) (turned_own h hb) hb
theorem cur_puts {g b : Nat} (us : List Value) : ∀ {u : World} (p : Nat),Cur u g → g < b → Cur (setCells u b p us) g := by
 induction us with
 | nil => intro u p h _;exact h
 | cons x us ih => intro u p h hb;exact ih (p + 1) (h.put hb) hb
theorem l06New_c (g : Nat) (w : World) (hc : Cur w g) : Calls Tryz.prog 38 #[.pointer (some ⟨g,0,none⟩)] w (RetStD w g w.heap.size) := by
 have hgw := hc.lt
 have HB := Hh (fun (n : Int) (hn : In64 n) (u : World) (hu : Cur u g) => l01Below_c g n u hu hn)
 have HDR := Hh (l02Draw_c g _ (hc.ext ((Ext.refl w).alloc (.cells #[.slice none 0 0,.slice none 0 0,.slice none 0 0,.int .i64 0,.int .i64 0,.int .i64 0,.int .i64 0,.int .i64 0,.slice none 0 0,.slice none 0 0,.slice none 0 0] 34))))
 have H9 : Hid (∀ n : Int,-1000000 ≤ n → n ≤ 1000000 → In64 n) := Hh (fun n h1 h2 => by unfold In64;omega)
 have HR0 := Hh (gbox w [.slice none 0 0,.slice none 0 0,.slice none 0 0,.int .i64 0,.int .i64 0,.int .i64 0,.int .i64 0,.int .i64 0,.slice none 0 0,.slice none 0 0,.slice none 0 0] 34 11 rfl)
 clear hc
 go_enter Tryz.func38,Tryz.ntmps38
 go_wp2_with fail
 refine HDR.out.mono ?_
 rintro e w1 ⟨A,c,ps,B,d,ns,rfl,ho1,hk1,ho2,hk2,hps1,hps,hns,ht1,hc1⟩
 have HT1 := Hh ((Ext.turned ((Ext.refl w).alloc (.cells #[.slice none 0 0,.slice none 0 0,.slice none 0 0,.int .i64 0,.int .i64 0,.int .i64 0,.int .i64 0,.int .i64 0,.slice none 0 0,.slice none 0 0,.slice none 0 0] 34)) g (g + 1)).trans ht1)
 have HOR1 := Hh (ownsT (owns_base HR0.out (show g + 1 ≤ w.heap.size by omega)) ht1 (Nat.le_refl _))
 have HOP1 := Hh (owns_base ho1 (show g + 1 ≤ _ by simp;omega))
 have HON1 := Hh (owns_base ho2 (show g + 1 ≤ _ by simp;omega))
 have HKK := Hh (show (∀ y ∈ ps,In64 y) ∧ (∀ y ∈ ns,y.ok) from ⟨hk1,hk2⟩)
 have HC1 := Hh hc1
 have hs1 := HT1.out.le
 clear ho1 hk1 ho2 hk2 ht1 hc1 HDR HR0
 go_wp2_with fail
 refine (HB.out 6 (H9.out _ (by omega) (by omega)) _ HC1.out).mono ?_
 rintro e w2 ⟨v2,rfl,⟨hv2a,hv2b⟩,ht2,hc2⟩
 have HT2 := Hh (HT1.out.trans ht2)
 have HC2 := Hh hc2
 have hs2 := HT2.out.le
 have HOR2 := Hh (ownsT HOR1.out ht2 (by omega))
 have HOP2 := Hh (ownsT HOP1.out ht2 (by omega))
 have HON2 := Hh (ownsT HON1.out ht2 (by omega))
 clear ht2 hc2
 go_wp2_with fail
 refine (HB.out 4 (H9.out _ (by omega) (by omega)) _ HC2.out).mono ?_
 rintro e w3 ⟨v3,rfl,⟨hv3a,hv3b⟩,ht3,hc3⟩
 have HT3 := Hh (HT2.out.trans ht3)
 have HC3 := Hh hc3
 have hs3 := HT3.out.le
 have HOR3 := Hh (ownsT HOR2.out ht3 (by omega))
 have HOP3 := Hh (ownsT HOP2.out ht3 (by omega))
 have HON3 := Hh (ownsT HON2.out ht3 (by omega))
 clear ht3 hc3
 go_wp2_with fail
 refine (HB.out 4 (H9.out _ (by omega) (by omega)) _ HC3.out).mono ?_
 rintro e w4 ⟨v4,rfl,⟨hv4a,hv4b⟩,ht4,hc4⟩
 have HT4 := Hh (HT3.out.trans ht4)
 have HC4 := Hh hc4
 have hs4 := HT4.out.le
 have HOR4 := Hh (ownsT HOR3.out ht4 (by omega))
 have HOP4 := Hh (ownsT HOP3.out ht4 (by omega))
 have HON4 := Hh (ownsT HON3.out ht4 (by omega))
 clear ht4 hc4
 go_wp2_with fail
 refine (StateNew_c ps ns ⟨v2,v3,1⟩ v4 A ps.length c B ns.length d _ rfl rfl (.inr (owns_base HOP4.out (Nat.zero_le _))) (.inr (owns_base HON4.out (Nat.zero_le _))) HKK.out.1 HKK.out.2 (by omega) (by omega)).mono ?_
 rintro e w5 ⟨d1,k5,rfl,hd1,hsm,hb5⟩
 have EA : Ext w5 (w5.alloc (.cells #[.slice d1.A1 d1.n1 d1.c1,.slice d1.A2 d1.n2 d1.c2,.slice d1.A3 d1.n3 d1.c3,.int .i64 d1.lic.A,.int .i64 d1.lic.B,.int .i64 d1.lic.C,.int .i64 d1.dep,.int .i64 d1.now,.slice d1.A6 d1.n6 d1.c6,.slice d1.A7 d1.n7 d1.c7,.slice d1.A8 d1.n8 d1.c8] 34)) := (Ext.refl _).alloc _
 have HG5 := Hh (hd1.base (lo' := w.heap.size) (by omega))
 have HR5 := Hh (owns_ext HOR4.out hb5)
 have HSM := Hh hsm
 have HT5 := Hh (HT4.out.ext hb5)
 have HC5 := Hh (HC4.out.ext hb5)
 have hl5 := hb5.le
 clear hd1 hsm hb5 HOR4 HOP4 HON4 HT4 HC4 HOR3 HOP3 HON3 HT3 HC3 HOR2 HOP2 HON2 HT2 HC2 HOR1 HOP1 HON1 HT1 HC1 EA
 obtain ⟨⟨r0,r1,r2,r3,r4,r5,r6,r7,r8,r9,r10⟩,⟨rf0,rf1,rf2,rf3,rf4,rf5,rf6,rf7,rf8,rf9,rf10⟩,rl⟩ := cells11 HR5.out
 have EZ : Ext (setCells w5 w.heap.size 0 [.slice d1.A1 d1.n1 d1.c1,.slice d1.A2 d1.n2 d1.c2,.slice d1.A3 d1.n3 d1.c3,.int .i64 d1.lic.A,.int .i64 d1.lic.B,.int .i64 d1.lic.C,.int .i64 d1.dep,.int .i64 d1.now,.slice d1.A6 d1.n6 d1.c6,.slice d1.A7 d1.n7 d1.c7,.slice d1.A8 d1.n8 d1.c8]) ((setCells w5 w.heap.size 0 [.slice d1.A1 d1.n1 d1.c1,.slice d1.A2 d1.n2 d1.c2,.slice d1.A3 d1.n3 d1.c3,.int .i64 d1.lic.A,.int .i64 d1.lic.B,.int .i64 d1.lic.C,.int .i64 d1.dep,.int .i64 d1.now,.slice d1.A6 d1.n6 d1.c6,.slice d1.A7 d1.n7 d1.c7,.slice d1.A8 d1.n8 d1.c8]).alloc (.cells #[.slice d1.A1 d1.n1 d1.c1,.slice d1.A2 d1.n2 d1.c2,.slice d1.A3 d1.n3 d1.c3,.int .i64 d1.lic.A,.int .i64 d1.lic.B,.int .i64 d1.lic.C,.int .i64 d1.dep,.int .i64 d1.now,.slice d1.A6 d1.n6 d1.c6,.slice d1.A7 d1.n7 d1.c7,.slice d1.A8 d1.n8 d1.c8] 34)) := (Ext.refl _).alloc _
 have HGF := Hh ((HG5.out.kept HR5.out (kept_puts w.heap.size [.slice d1.A1 d1.n1 d1.c1,.slice d1.A2 d1.n2 d1.c2,.slice d1.A3 d1.n3 d1.c3,.int .i64 d1.lic.A,.int .i64 d1.lic.B,.int .i64 d1.lic.C,.int .i64 d1.dep,.int .i64 d1.now,.slice d1.A6 d1.n6 d1.c6,.slice d1.A7 d1.n7 d1.c7,.slice d1.A8 d1.n8 d1.c8] w5 0) (by simp [rowTypes])).ext EZ)
 have HTF := Hh (Turned.ext (turned_puts [.slice d1.A1 d1.n1 d1.c1,.slice d1.A2 d1.n2 d1.c2,.slice d1.A3 d1.n3 d1.c3,.int .i64 d1.lic.A,.int .i64 d1.lic.B,.int .i64 d1.lic.C,.int .i64 d1.dep,.int .i64 d1.now,.slice d1.A6 d1.n6 d1.c6,.slice d1.A7 d1.n7 d1.c7,.slice d1.A8 d1.n8 d1.c8] 0 HT5.out (Nat.le_refl w.heap.size)) EZ)
 have HCF := Hh (Cur.ext (cur_puts [.slice d1.A1 d1.n1 d1.c1,.slice d1.A2 d1.n2 d1.c2,.slice d1.A3 d1.n3 d1.c3,.int .i64 d1.lic.A,.int .i64 d1.lic.B,.int .i64 d1.lic.C,.int .i64 d1.dep,.int .i64 d1.now,.slice d1.A6 d1.n6 d1.c6,.slice d1.A7 d1.n7 d1.c7,.slice d1.A8 d1.n8 d1.c8] 0 HC5.out (show g < w.heap.size by omega)) EZ)
 clear HG5 HT5 HC5 HR5 EZ
 go_wp2
 exact bodyPost_ret (v := .agg #[.slice d1.A1 d1.n1 d1.c1,.slice d1.A2 d1.n2 d1.c2,.slice d1.A3 d1.n3 d1.c3,.int .i64 d1.lic.A,.int .i64 d1.lic.B,.int .i64 d1.lic.C,.int .i64 d1.dep,.int .i64 d1.now,.slice d1.A6 d1.n6 d1.c6,.slice d1.A7 d1.n7 d1.c7,.slice d1.A8 d1.n8 d1.c8]) (by simp [results,Tryz.results38,go_sem, *]) rfl ⟨d1,rfl,HGF.out,HSM.out,HTF.out,HCF.out⟩
end Go.Proofs.YtfanjhcdjbnnnaaGreat
