/- Draw, Draw2, Draw3, DrawG. -/
import Derived.Test.YtfanjhcdjbnnnaaGreatK01
import Derived.Test.YtfanjhcdjbnnnaaGreatK02
namespace Go.Proofs.YtfanjhcdjbnnnaaGreat
open Go.RowKit
set_option linter.unusedVariables false
set_option maxHeartbeats 2000000
set_option maxRecDepth 20000
structure Cur (w : World) (g : Nat) : Prop where
 lt : g < w.heap.size
 fz : ∀ j,w.frozen? ⟨g,j,none⟩ = false
 get : ∃ (A : Option Addr) (n c : Nat) (bs : List Int) (i : Nat) (h : Int),w.cell? ⟨g,0,none⟩ = some (.slice A n c) ∧ w.cell? ⟨g,1,none⟩ = some (.int .i64 i) ∧ w.cell? ⟨g,2,none⟩ = some (.int .i64 h) ∧ i ≤ n ∧ n ≤ 1048576 ∧ In64 h ∧
  SlAt RU8 1 w A n bs ∧ (0 < n → ∀ b o,A = some ⟨b,o,none⟩ → b < g)
def RetDraw (w : World) (g : Nat) (R : Int → Prop) : Ending → World → Prop := fun e w' => ∃ v : Int,e = .returned (.int .i64 v) ∧ R v ∧ Turned g (g + 1) w w' ∧ Cur w' g
theorem and255 (x : Int) : 0 ≤ bits .and .i64 x 255 ∧ bits .and .i64 x 255 ≤ 255 := by
 have h : (BitVec.ofInt 64 x &&& BitVec.ofInt 64 255).toNat ≤ 255 := by rw [BitVec.toNat_and];exact Nat.le_trans Nat.and_le_right (by decide)
 have e : bits .and .i64 x 255 = IntKind.i64.wrap ((BitVec.ofInt 64 x &&& BitVec.ofInt 64 255).toNat : Int) := rfl
 rw [e,IntWalk.i64_in _ ⟨by omega,by omega⟩];omega
theorem in_wrap (n : Int) : In64 (wrap64 n) := by unfold In64 wrap64;omega
theorem SlAt.setD {α : Type} {R : Rel α} (hm : ∀ (w : World) (p : Addr) (u : Value) (cs : List Value) (x : α),R w cs x → R (w.setCell p u) cs x) {sz m : Nat} {A : Option Addr} {w : World} {xs : List α} (h : SlAt R sz w A m xs) (p : Addr) (hp : 0 < m → ∀ b o,A = some ⟨b,o,none⟩ → b < p.block) (u : Value) : SlAt R sz (w.setCell p u) A m xs := by
 refine ⟨h.1,fun hm' => ?_⟩
 obtain ⟨b,o,rfl,hb,hc⟩ := h.2 hm'
 refine ⟨b,o,rfl,by simpa using hb,fun k x hx => ?_⟩
 obtain ⟨cs,h1,h2,h3⟩ := hc k x hx
 have hlt := hp hm' b o rfl
 exact ⟨cs,h1,fun j u' hu => by
  rw [World.cell?_setCell_other]
  ·exact h2 j u' hu
  ·intro e;rw [e] at hlt;simp at hlt,hm _ _ _ _ _ h3⟩
theorem RU8.mono : RU8.Mono := fun _ _ _ _ _ h => h
theorem RU8.set : ∀ (w : World) (p : Addr) (u : Value) (cs : List Value) (x : Int),RU8 w cs x → RU8 (w.setCell p u) cs x := fun _ _ _ _ _ h => h
theorem turned_put (w : World) (g j : Nat) (u : Value) : Turned g (g + 1) w (w.setCell ⟨g,j,none⟩ u) :=
 ⟨rfl,rfl,rfl,by simp [World.setCell],fun k _ hr => Below.heap_setCell _ _ _ _ (by simp only [];omega)⟩
theorem l01Byte_c (g : Nat) (w : World) (hc : Cur w g) : Calls Tryz.prog 40 #[.pointer (some ⟨g,0,none⟩)] w (RetDraw w g (fun v => 0 ≤ v ∧ v ≤ 255)) := by
 obtain ⟨hlt,hfz,A,n,c,bs,i,h,c0,c1,c2,hin,hn,hh,hsl,hA⟩ := hc
 have f0 := hfz 0
 have f1 := hfz 1
 have f2 := hfz 2
 have HFZ := Hh hfz
 have HSL := Hh hsl
 have HA := Hh hA
 clear hfz hsl hA hh
 go_enter Tryz.func40,Tryz.ntmps40
 go_wp2
 have hh2 := in_wrap (wrap64 (h * 6364136223846793005) + 1442695040888963407)
 generalize wrap64 (wrap64 (h * 6364136223846793005) + 1442695040888963407) = h2 at *
 have HT1 := Hh (turned_put w g 2 (.int .i64 h2))
 have HS1 := Hh (HSL.out.setD RU8.set ⟨g,2,none⟩ HA.out (.int .i64 h2))
 have k0 : (w.setCell ⟨g,2,none⟩ (.int .i64 h2)).cell? ⟨g,0,none⟩ = some (.slice A n c) := by go_simp
 have k1 : (w.setCell ⟨g,2,none⟩ (.int .i64 h2)).cell? ⟨g,1,none⟩ = some (.int .i64 i) := by go_simp
 have k2 : (w.setCell ⟨g,2,none⟩ (.int .i64 h2)).cell? ⟨g,2,none⟩ = some (.int .i64 h2) := by go_simp
 have HFZ1 := Hh (show ∀ j,(w.setCell ⟨g,2,none⟩ (.int .i64 h2)).frozen? ⟨g,j,none⟩ = false from fun j => by have := HFZ.out j;go_simp)
 have hgs : g < (w.setCell ⟨g,2,none⟩ (.int .i64 h2)).heap.size := by simpa using hlt
 clear c0 c1 c2 f0 f1 f2
 generalize w.setCell ⟨g,2,none⟩ (.int .i64 h2) = u1 at *
 have hcx := @Later.cell u1
 refine wp_region_ext (by kernel_rfl) (by kernel_rfl) ?_
 repeat (go_big_quiet_step (fail))
 refine wpQuiet_nil ?_
 intro u2 hb2
 have hv := and255 (bits BinOp.xor IntKind.i64 (h2 / 8589934592) (h2 / 35184372088832))
 generalize bits BinOp.and IntKind.i64 (bits BinOp.xor IntKind.i64 (h2 / 8589934592) (h2 / 35184372088832)) 255 = v at *
 have m0 := hb2.cell k0
 have m1 := hb2.cell k1
 have m2 := hb2.cell k2
 have hgs2 : g < u2.heap.size := Nat.lt_of_lt_of_le hgs hb2.le
 have HT2 := Hh (HT1.out.trans (hb2.turned g (g + 1)))
 have HS2 := Hh (HS1.out.ext RU8.mono hb2)
 have HFZ2 := Hh (fun j => (hb2.frozenEq (a := ⟨g,j,none⟩) hgs).trans (HFZ1.out j))
 clear k0 k1 k2 hcx hgs hb2 HT1 HS1 HFZ1
 go_wp2
 by_cases hlt : i < n
 ·obtain ⟨b,o,x,cs,rfl,hbw,_,_,hcb,hr⟩ := HS2.out.at_ hlt
  obtain rfl : cs = [.int .u8 x] := hr
  have y0 := hcb 0 _ rfl
  simp only [Nat.mul_one,Nat.add_zero] at y0
  have hbg := HA.out (by omega) b o rfl
  clear hcb
  have hcx := @Later.cell u2
  refine wp_region_ext (by kernel_rfl) (by kernel_rfl) ?_
  repeat (go_big_quiet_step (fail))
  refine wpQuiet_nil ?_
  intro u3 hbu3
  have y1 := hbu3.cell y0
  have hbw3 : b < u3.heap.size := Nat.lt_of_lt_of_le hbw hbu3.le
  have p0 := hbu3.cell m0
  have p1 := hbu3.cell m1
  have p2 := hbu3.cell m2
  have hgsu3 : g < u3.heap.size := Nat.lt_of_lt_of_le hgs2 hbu3.le
  have HTu3 := Hh (HT2.out.trans (hbu3.turned g (g + 1)))
  have HSu3 := Hh (HS2.out.ext RU8.mono hbu3)
  have HFZu3 := Hh (fun j => (hbu3.frozenEq (a := ⟨g,j,none⟩) hgs2).trans (HFZ2.out j))
  clear m0 m1 m2 hcx hgs2 hbu3 HT2 HS2 HFZ2
  clear y0 hbw
  go_wp2
  have hcx := @Later.cell u3
  refine wp_region_ext (by kernel_rfl) (by kernel_rfl) ?_
  repeat (go_big_quiet_step (fail))
  refine wpQuiet_nil ?_
  intro u4 hbu4
  have q0 := hbu4.cell p0
  have q1 := hbu4.cell p1
  have q2 := hbu4.cell p2
  have hgsu4 : g < u4.heap.size := Nat.lt_of_lt_of_le hgsu3 hbu4.le
  have HTu4 := Hh (HTu3.out.trans (hbu4.turned g (g + 1)))
  have HSu4 := Hh (HSu3.out.ext RU8.mono hbu4)
  have HFZu4 := Hh (fun j => (hbu4.frozenEq (a := ⟨g,j,none⟩) hgsu3).trans (HFZu3.out j))
  clear p0 p1 p2 hcx hgsu3 hbu4 HTu3 HSu3 HFZu3
  clear y1 hbw3
  have hv2 := and255 (wrap64 (v + wrap64 x))
  generalize bits BinOp.and IntKind.i64 (wrap64 (v + wrap64 x)) 255 = v2 at *
  have HN := Hh hn
  have HV := Hh hv2
  have HH := Hh hh2
  have hi9 : (i : Int) + 1 ≤ 9223372036854775807 := by omega
  have hfq1 := HFZu4.out 1
  clear hv hv2 hh2
  go_wp2
  refine bodyPost_ret (results_tmp rfl _ _ _) rfl ⟨v2,rfl,HV.out,HTu4.out.trans (turned_put u4 g 1 _),by simpa using hgsu4,fun j => ?_,some ⟨b,o,none⟩,n,c,bs,i + 1,h2,by go_simp,by go_simp,by go_simp,by omega,HN.out,HH.out,HSu4.out.setD RU8.set ⟨g,1,none⟩ HA.out _,HA.out⟩
  have := HFZu4.out j
  go_simp
 ·have HN := Hh hn
  have HV := Hh hv
  have HH := Hh hh2
  clear hv hh2
  have hcx := @Later.cell u2
  refine wp_region_ext (by kernel_rfl) (by kernel_rfl) ?_
  repeat (go_big_quiet_step (fail))
  refine wpQuiet_nil ?_
  intro u3 hbu3
  have p0 := hbu3.cell m0
  have p1 := hbu3.cell m1
  have p2 := hbu3.cell m2
  have HP := Hh (show u3.cell? ⟨g,0,none⟩ = some (.slice A n c) ∧ u3.cell? ⟨g,1,none⟩ = some (.int .i64 i) ∧ u3.cell? ⟨g,2,none⟩ = some (.int .i64 h2) from ⟨p0,p1,p2⟩)
  have HB := Hh hbu3
  clear hbu3 hcx p0 p1 p2 m0 m1 m2
  go_wp2
  exact bodyPost_ret (results_tmp rfl _ _ _) rfl ⟨v,rfl,HV.out,HT2.out.trans (HB.out.turned g (g + 1)),Nat.lt_of_lt_of_le hgs2 HB.out.le,fun j => (HB.out.frozenEq (a := ⟨g,j,none⟩) hgs2).trans (HFZ2.out j),A,n,c,bs,i,h2,HP.out.1,HP.out.2.1,HP.out.2.2,hin,HN.out,HH.out,HS2.out.ext RU8.mono HB.out,HA.out⟩
theorem mod_below {v n : Int} (hn : 0 < n) : 0 ≤ v % n ∧ v % n < n := ⟨Int.emod_nonneg _ (by omega),Int.emod_lt_of_pos _ hn⟩
theorem l01Below_c (g : Nat) (n : Int) (w : World) (hc : Cur w g) (hn : In64 n) : Calls Tryz.prog 20 #[.pointer (some ⟨g,0,none⟩),.int .i64 n] w (RetDraw w g (fun v => 0 ≤ v ∧ (v < n ∨ v = 0))) := by
 unfold In64 at hn
 by_cases h0 : n ≤ 0
 ·have HC := Hh hc
  go_enter Tryz.func20,Tryz.ntmps20
  go_wp2
  exact bodyPost_ret (results_tmp rfl _ _ _) rfl ⟨0,rfl,⟨Int.le_refl _,.inr rfl⟩,Turned.refl _ _ _,HC.out⟩
 by_cases h1 : n ≤ 256
 ·have HB := Hh (l01Byte_c g w hc)
  go_enter Tryz.func20,Tryz.ntmps20
  go_wp2_with fail
  refine HB.out.mono ?_
  rintro e w1 ⟨v,rfl,hv,ht,hc1⟩
  have HT := Hh ht
  have HC := Hh hc1
  have HM := Hh (mod_below (v := v) (n := n) (by omega))
  clear ht hc1 hc
  go_wp2
  exact bodyPost_ret (results_tmp rfl _ _ _) rfl ⟨v % n,rfl,⟨HM.out.1,.inl HM.out.2⟩,HT.out,HC.out⟩
 ·have HB := Hh (fun u hu => l01Byte_c g u hu)
  have HC0 := Hh hc
  clear hc
  go_enter Tryz.func20,Tryz.ntmps20
  go_wp2_with fail
  refine (HB.out _ HC0.out).mono ?_
  rintro e w1 ⟨v1,rfl,hv1,ht1,hc1⟩
  have HC1 := Hh hc1
  go_wp2_with fail
  refine (HB.out _ HC1.out).mono ?_
  rintro e w2 ⟨v2,rfl,hv2,ht2,hc2⟩
  have HC2 := Hh hc2
  go_wp2_with fail
  refine (HB.out _ HC2.out).mono ?_
  rintro e w3 ⟨v3,rfl,hv3,ht3,hc3⟩
  have HC3 := Hh hc3
  go_wp2_with fail
  refine (HB.out _ HC3.out).mono ?_
  rintro e w4 ⟨v4,rfl,hv4,ht4,hc4⟩
  have HC4 := Hh hc4
  have HT := Hh (((ht1.trans ht2).trans ht3).trans ht4)
  have HM := Hh (fun x : Int => mod_below (v := x) (n := n) (by omega))
  clear ht1 ht2 ht3 ht4 hc1 hc2 hc3 hc4
  go_wp2
  exact bodyPost_ret (results_tmp rfl _ _ _) rfl ⟨_,rfl,⟨(HM.out _).1,.inl (HM.out _).2⟩,HT.out,HC4.out⟩
theorem l01Raw_c (g : Nat) (w : World) (hc : Cur w g) : Calls Tryz.prog 21 #[.pointer (some ⟨g,0,none⟩)] w (RetDraw w g In64) := by
 have HB := Hh (fun (n : Int) (hn : In64 n) (u : World) (hu : Cur u g) => l01Below_c g n u hu hn)
 have HC0 := Hh hc
 clear hc
 go_enter Tryz.func21,Tryz.ntmps21
 go_wp2_with fail
 refine (HB.out 9 (by unfold In64;omega) _ HC0.out).mono ?_
 rintro e w1 ⟨k,rfl,⟨hk0,hk1⟩,ht1,hc1⟩
 have HC1 := Hh hc1
 have HT1 := Hh ht1
 clear hc1 ht1
 have hk : k < 4 ∨ k = 4 ∨ k = 5 ∨ k = 6 ∨ k = 7 ∨ 7 < k := by omega
 rcases hk with hk | rfl | rfl | rfl | rfl | hk
 ·go_wp2_with fail
  refine (HB.out 24 (by unfold In64;omega) _ HC1.out).mono ?_
  rintro e w2 ⟨v,rfl,⟨hv0,hv1⟩,ht2,hc2⟩
  have HC2 := Hh hc2
  have HT2 := Hh (HT1.out.trans ht2)
  clear hc2 ht2
  go_wp2
  exact bodyPost_ret (results_tmp rfl _ _ _) rfl ⟨v - 2,rfl,by unfold In64;omega,HT2.out,HC2.out⟩
 ·go_wp2_with fail
  refine (HB.out 3 (by unfold In64;omega) _ HC1.out).mono ?_
  rintro e w2 ⟨v,rfl,⟨hv0,hv1⟩,ht2,hc2⟩
  have HC2 := Hh hc2
  have HT2 := Hh (HT1.out.trans ht2)
  clear hc2 ht2
  go_wp2
  exact bodyPost_ret (results_tmp rfl _ _ _) rfl ⟨999999 + v,rfl,by unfold In64;omega,HT2.out,HC2.out⟩
 ·go_wp2_with fail
  refine (HB.out 3 (by unfold In64;omega) _ HC1.out).mono ?_
  rintro e w2 ⟨v,rfl,⟨hv0,hv1⟩,ht2,hc2⟩
  have HC2 := Hh hc2
  have HT2 := Hh (HT1.out.trans ht2)
  clear hc2 ht2
  go_wp2
  exact bodyPost_ret (results_tmp rfl _ _ _) rfl ⟨999999999 + v,rfl,by unfold In64;omega,HT2.out,HC2.out⟩
 ·go_wp2_with fail
  refine (HB.out 2 (by unfold In64;omega) _ HC1.out).mono ?_
  rintro e w2 ⟨v,rfl,⟨hv0,hv1⟩,ht2,hc2⟩
  have HC2 := Hh hc2
  have HT2 := Hh (HT1.out.trans ht2)
  clear hc2 ht2
  go_wp2
  exact bodyPost_ret (results_tmp rfl _ _ _) rfl ⟨9223372036854775807 - v,rfl,by unfold In64;omega,HT2.out,HC2.out⟩
 ·go_wp2_with fail
  refine (HB.out 2 (by unfold In64;omega) _ HC1.out).mono ?_
  rintro e w2 ⟨v,rfl,⟨hv0,hv1⟩,ht2,hc2⟩
  have HC2 := Hh hc2
  have HT2 := Hh (HT1.out.trans ht2)
  clear hc2 ht2
  go_wp2
  exact bodyPost_ret (results_tmp rfl _ _ _) rfl ⟨-9223372036854775807 - v,rfl,by unfold In64;omega,HT2.out,HC2.out⟩
 ·go_wp2_with fail
  refine (HB.out 2000000 (by unfold In64;omega) _ HC1.out).mono ?_
  rintro e w2 ⟨v,rfl,⟨hv0,hv1⟩,ht2,hc2⟩
  have HC2 := Hh hc2
  have HT2 := Hh (HT1.out.trans ht2)
  clear hc2 ht2
  go_wp2
  exact bodyPost_ret (results_tmp rfl _ _ _) rfl ⟨v,rfl,by unfold In64;omega,HT2.out,HC2.out⟩
theorem in_bits (op : BinOp) (x y : Int) : In64 (bits op .i64 x y) := by
 unfold bits In64
 simp only []
 rw [IntKind.wrap_i64]
 omega
theorem cur_low {w : World} {A : Option Addr} {n b o : Nat} {bs : List Int} (h : SlAt RU8 1 w A n bs) (h0 : 0 < n) (e : A = some ⟨b,o,none⟩) : b < w.heap.size := by
 obtain ⟨b1,o1,e1,hb1,_⟩ := h.2 h0
 rw [e] at e1;injection e1 with e1;injection e1 with e1 _;omega
def RetCur (w : World) : Ending → World → Prop := fun e w' => ∃ g : Nat,e = .returned (.pointer (some ⟨g,0,none⟩)) ∧ w.heap.size ≤ g ∧ Ext w w' ∧ Cur w' g
theorem l01New_c (bs : List Int) (A : Option Addr) (n c : Nat) (w : World) (hs : SlAt RU8 1 w A n bs) (hn : n ≤ 1048576) : Calls Tryz.prog 10 #[.slice A n c] w (RetCur w) := by
 go_enter Tryz.func10,Tryz.ntmps10
 go_wp2
 go_loop [3,4] (fun h i => ∃ (k : Nat) (q : Int),k ≤ n ∧ i = .int .i64 k ∧ h = .int .i64 q ∧ In64 q) (fun _ i => n - (intOf i).toNat)
 case atStart => exact ⟨0,_,Nat.zero_le _,rfl,rfl,by unfold In64;omega⟩
 case round =>
  obtain ⟨k,q,hk,rfl,rfl,hq⟩ := hrel
  by_cases hlt : k < n
  ·by_cases h4 : k < 4000
   ·obtain ⟨b,o,x,cs,rfl,hbw,_,_,hcb,hr⟩ := hs.at_ hlt
    obtain rfl : cs = [.int .u8 x] := hr
    have y0 := hcb 0 _ rfl
    simp only [Nat.mul_one,Nat.add_zero] at y0
    have HQ := Hh (fun (a d : Int) => in_bits .and a d)
    clear hcb hs hq
    go_wp2
    go_round
    case rel => exact ⟨k + 1,_,by omega,by go_num,rfl,HQ.out _ _⟩
    case measure => simp [intOf];omega
   ·have HS := Hh hs
    have HQ := Hh hq
    clear hs hq
    go_wp2
    exact bodyPost_ret (results_tmp rfl _ _ _) rfl ⟨w.heap.size,rfl,Nat.le_refl _,Ext.go,by simp,fun j => by simp,A,n,c,bs,0,q,law_box w [.slice A n c,.int .i64 0,.int .i64 q] _ 0 _ rfl,law_box w [.slice A n c,.int .i64 0,.int .i64 q] _ 1 _ rfl,law_box w [.slice A n c,.int .i64 0,.int .i64 q] _ 2 _ rfl,Nat.zero_le _,hn,HQ.out,HS.out.ext RU8.mono ((Ext.refl _).alloc _),fun h0 b o e => cur_low HS.out h0 e⟩
  ·have HS := Hh hs
   have HQ := Hh hq
   clear hs hq
   go_wp2
   exact bodyPost_ret (results_tmp rfl _ _ _) rfl ⟨w.heap.size,rfl,Nat.le_refl _,Ext.go,by simp,fun j => by simp,A,n,c,bs,0,q,law_box w [.slice A n c,.int .i64 0,.int .i64 q] _ 0 _ rfl,law_box w [.slice A n c,.int .i64 0,.int .i64 q] _ 1 _ rfl,law_box w [.slice A n c,.int .i64 0,.int .i64 q] _ 2 _ rfl,Nat.zero_le _,hn,HQ.out,HS.out.ext RU8.mono ((Ext.refl _).alloc _),fun h0 b o e => cur_low HS.out h0 e⟩
theorem turned_low {g base : Nat} {w w1 w2 : World} (h : Turned g (g + 1) w w1) (k : Turned base (w2.heap.size) w1 w2) (hb : w.heap.size ≤ base) : Turned g (g + 1) w w2 :=
 ⟨k.os.trans h.os,k.tape.trans h.tape,k.output.trans h.output,Nat.le_trans h.size k.size,fun b hb1 hr => (k.block b (Nat.lt_of_lt_of_le hb1 h.size) (.inl (by omega))).trans (h.block b hb1 hr)⟩
theorem Cur.keep {g lo hi : Nat} {w w' : World} (hc : Cur w g) (ht : Turned lo hi w w') (hg : g < lo) : Cur w' g := by
 obtain ⟨hlt,hfz,A,n,c,bs,i,h,c0,c1,c2,hin,hn,hh,hsl,hA⟩ := hc
 have hblk : ∀ b,b ≤ g → w'.heap[b]? = w.heap[b]? := fun b hb => ht.block b (by omega) (.inl (by omega))
 refine ⟨Nat.lt_of_lt_of_le hlt ht.size,fun j => by rw [World.frozen?_of_block (a := ⟨g,j,none⟩) (hblk g (Nat.le_refl _))];exact hfz j,A,n,c,bs,i,h,by rw [World.cell?_of_block (a := ⟨g,0,none⟩) (hblk g (Nat.le_refl _))];exact c0,by rw [World.cell?_of_block (a := ⟨g,1,none⟩) (hblk g (Nat.le_refl _))];exact c1,by rw [World.cell?_of_block (a := ⟨g,2,none⟩) (hblk g (Nat.le_refl _))];exact c2,hin,hn,hh, ?_,hA⟩
 refine ⟨hsl.1,fun h0 => ?_⟩
 obtain ⟨b,o,e,hb,hcs⟩ := hsl.2 h0
 have hbg := hA h0 b o e
 refine ⟨b,o,e,Nat.lt_of_lt_of_le hb ht.size,fun k x hx => ?_⟩
 obtain ⟨cs,q1,q2,q3⟩ := hcs k x hx
 exact ⟨cs,q1,fun j u hu => by rw [World.cell?_of_block (a := ⟨b,o + k * 1 + j,none⟩) (hblk b (by omega))];exact q2 j u hu,q3⟩
theorem Cur.ext {g : Nat} {w w' : World} (hc : Cur w g) (h : Ext w w') : Cur w' g := hc.keep (h.turned (g + 1) (g + 1)) (Nat.lt_succ_self g)
theorem Turned.ext {g : Nat} {w w1 w2 : World} (h : Turned g (g + 1) w w1) (k : Ext w1 w2) : Turned g (g + 1) w w2 := h.trans (k.turned _ _)
theorem cellT {g b o : Nat} {v : Value} {w w' : World} (ht : Turned g (g + 1) w w') (h : w.cell? ⟨b,o,none⟩ = some v) (hb : b ≠ g) : w'.cell? ⟨b,o,none⟩ = some v := by
 rw [World.cell?_of_block (a := ⟨b,o,none⟩) (ht.block b (lt_of_cell h) (by omega))];exact h
theorem frozenT {g b o : Nat} {f : Bool} {w w' : World} (ht : Turned g (g + 1) w w') (h : w.frozen? ⟨b,o,none⟩ = f) (hl : b < w.heap.size) (hb : b ≠ g) : w'.frozen? ⟨b,o,none⟩ = f := by
 rw [World.frozen?_of_block (a := ⟨b,o,none⟩) (ht.block b hl (by omega))];exact h
theorem ownsT {w w' : World} {base lo hi : Nat} {e : TypeId} {sz n : Nat} {v : Value} {L : List Value} (h : w.ownsRow base e sz v n L) (ht : Turned lo hi w w') (hd : hi ≤ base) : w'.ownsRow base e sz v n L := by
 have hlt := h.lt
 obtain ⟨h1,h2⟩ := h
 refine ⟨h1, ?_⟩
 rcases h2 with h2 | ⟨g,cap,cur,rfl,hg,hh,r⟩
 ·exact .inl h2
 ·exact .inr ⟨g,cap,cur,rfl,hg,(ht.block g (hlt g rfl).2 (.inr (Nat.le_trans hd hg))).trans hh,r⟩
theorem wpList_append_one_t {P : Program} {w : World} {ops : Array Oper} {rest : List Oper} {o : Oper} {a : Act} {Q : Exit → Act → World → Prop} (s x : Operand) (t : TypeId)
  (base : Nat) (e : TypeId) (i : TypeInfo) (z : Value) (size bytes : Nat) (v : Value) (n : Nat) (L cs : List Value) (hgd : o.guard = none)
  (ho : o.op = .call { callee := .builtin .append,args := #[s,x],argTypes := #[t,t] })
  (ht : P.underlying t = some (.slice e)) (hi : P.info? e = some i) (hz : i.zero = some z)
  (hsize : i.size = size) (hby : i.bytes = bytes) (hzs : z.cells.size = size) (hsz : 0 < size)
  (hs : a.eval s = v) (hown : w.ownsRow base e size v n L)
  (p : Nat) (hx : a.eval x = .slice (some ⟨p,0,none⟩) 1 1) (hp : p = w.heap.size) (hl : cs.length = size) (h1 : ∀ u ∈ cs,u.oneCell' = true)
  (h63 : n + 1 ≤ maxLen) (hbytes : (n + 1) * bytes ≤ 140737488355328) (hbw : base ≤ w.heap.size)
  (h : ∀ A c w',w'.ownsRow base e size (.slice A (n + 1) c) (n + 1) (L ++ cs) → Turned base w'.heap.size w w' → w.heap.size < w'.heap.size → (∀ (b : Nat) (cs' : Array Value) (e' : TypeId),e' ≠ e → w.heap[b]? = some (Obj.cells cs' e') → w'.heap[b]? = some (Obj.cells cs' e')) → wpList P ops Q rest (a.put o.dst (.slice A (n + 1) c)) w') : wpList P ops Q (o :: rest) a (w.alloc (.cells cs.toArray e)) := by
 subst hp
 refine wpList_append_own _ hgd s x t ho base e i z size bytes ht hi hz hsize hby hzs hsz v n L hs (hown.alloc _) ⟨w.heap.size,0,none⟩ 1 1 cs hx (by rw [hl,Nat.one_mul]) (cell_boxed w cs e) h1 h63 hbytes (by simp;omega) ?_
 intro v' w' ho' hg' _
 have hsz' := hg'.size
 simp at hsz'
 have hbl : ∀ b,b < w.heap.size → v.ownBlock ≠ some b → w'.heap[b]? = w.heap[b]? := fun b hb hv => by
  rw [hg'.block b (by simp;omega) (fun e => hv e.symm)]
  exact ((Ext.refl w).alloc (.cells cs.toArray e)).block b hb
 have htu : Turned base w'.heap.size w w' := ⟨hg'.os,hg'.tape,hg'.output,by omega,fun b hb hr => by
  have hb1 : b < base := by omega
  exact hbl b hb (fun hv => by have := (hown.lt b hv).1;omega)⟩
 have hkeep : ∀ (b : Nat) (cs' : Array Value) (e' : TypeId),e' ≠ e → w.heap[b]? = some (Obj.cells cs' e') → w'.heap[b]? = some (Obj.cells cs' e') := by
  intro b cs' e' hne hb
  have hl' : b < w.heap.size := by
   rcases Nat.lt_or_ge b w.heap.size with hl | hl
   ·exact hl
   ·rw [Array.getElem?_eq_none hl] at hb;cases hb
  rw [hbl b hl' ?_]
  ·exact hb
  ·intro hv
   rcases hown.2 with ⟨rfl,_⟩ | ⟨g,cap,cur,rfl,_,hh,_⟩
   ·cases hv
   ·injection hv with hv;subst hv
    rw [hh] at hb;injection hb with hb;injection hb with _ h2;exact hne h2.symm
 obtain ⟨hlen,⟨_,h0⟩ | ⟨g,cap,cur,rfl,r⟩⟩ := ho'
 ·omega
 ·exact h _ _ _ ⟨hlen,.inr ⟨g,cap,cur,rfl,r⟩⟩ htu (by omega) hkeep
def RetRowD {α : Type} (enc : α → List Value) (ok : α → Prop) (e : TypeId) (sz m : Nat) (w : World) (g : Nat) : Ending → World → Prop :=
 fun en w' => ∃ (A : Option Addr) (c : Nat) (xs : List α),en = .returned (.slice A xs.length c) ∧ w'.ownsRow w.heap.size e sz (.slice A xs.length c) xs.length (xs.flatMap enc) ∧ (∀ x ∈ xs,ok x) ∧ xs.length ≤ m ∧ Turned g (g + 1) w w' ∧ Cur w' g
theorem rowD_sl {α : Type} {enc : α → List Value} {ok : α → Prop} {e : TypeId} {sz base c : Nat} {w : World} {A : Option Addr} {xs : List α} (hsz : ∀ x,(enc x).length = sz) (h : w.ownsRow base e sz (.slice A xs.length c) xs.length (xs.flatMap enc)) (hok : ∀ x ∈ xs,ok x) : SlAt (Flat enc ok) sz w A xs.length xs := (OwnAt.flat hsz hok h).slAt
theorem all_snoc {α : Type} {ok : α → Prop} {xs : List α} {x : α} (h : ∀ y ∈ xs,ok y) (hx : ok x) : ∀ y ∈ xs ++ [x],ok y := fun y hy => by
 rcases List.mem_append.1 hy with hy | hy
 ·exact h y hy
 ·rw [List.mem_singleton.1 hy];exact hx
theorem owns_put {α : Type} {enc : α → List Value} {e : TypeId} {sz base c : Nat} {w : World} {g : Nat} {xs : List α} (hsz : ∀ y,(enc y).length = sz) {k j : Nat} (hj : j < sz) {x x' : α} (hx : xs[k]? = some x) {u : Value} (he : enc x' = (enc x).set j u)
  (h : w.ownsRow base e sz (.slice (some ⟨g,0,none⟩) xs.length c) xs.length (xs.flatMap enc)) :
  (w.setCell ⟨g,k * sz + j,none⟩ u).ownsRow base e sz (.slice (some ⟨g,0,none⟩) (xs.set k x').length c) (xs.set k x').length ((xs.set k x').flatMap enc) := by
 have hk := (List.getElem?_eq_some_iff.1 hx).1
 have h2 := (h.stored (k * sz + j) u).1
 have hpre : (xs.take k).length = k := by rw [List.length_take];omega
 have h3 := flatMap_set hsz hj he (xs.drop (k + 1)) (xs.take k)
 rw [← split_at hx,hpre] at h3
 rw [h3] at h2
 rw [List.set_eq_take_append_cons_drop,if_pos hk]
 have hl : (xs.take k ++ x' :: xs.drop (k + 1)).length = xs.length := by simp;omega
 rw [hl];exact h2
theorem all_set {α : Type} {ok : α → Prop} {xs : List α} {k : Nat} {x : α} (h : ∀ y ∈ xs,ok y) (hx : ok x) : ∀ y ∈ xs.set k x,ok y := fun y hy => by
 rcases List.mem_or_eq_of_mem_set hy with hy | rfl
 ·exact h y hy
 ·exact hx
theorem turned_own {g j base : Nat} {w w1 : World} {u : Value} (h : Turned g (g + 1) w w1) (hb : w.heap.size ≤ base) : Turned g (g + 1) w (w1.setCell ⟨base,j,none⟩ u) :=
 ⟨h.os,h.tape,h.output,by simpa [World.setCell] using h.size,fun b hb1 hr => (Below.heap_setCell _ _ _ _ (by simp only [];omega)).trans (h.block b hb1 hr)⟩
theorem Cur.put {g j b : Nat} {w : World} {u : Value} (hc : Cur w g) (hb : g < b) : Cur (w.setCell ⟨b,j,none⟩ u) g :=
 hc.keep (lo := b) (hi := b + 1) ⟨rfl,rfl,rfl,by simp [World.setCell],fun k _ hr => Below.heap_setCell _ _ _ _ (by simp only [];omega)⟩ hb
theorem dcell_box (w : World) (cs : List Value) (e : TypeId) (j : Nat) (u : Value) (h : cs[j]? = some u) : (w.alloc (.cells cs.toArray e)).cell? ⟨w.heap.size,j,none⟩ = some u := law_box w cs e j u h
theorem heap_box (w : World) (b : Nat) (hb : w.heap.size = b) (o : Obj) : (w.alloc o).heap[b]? = some o := by subst hb;exact heap_alloc_new w o
theorem ret_post {w : World} {P : Program} {fn : Func} {a : Act} {v : Value} {t : Tmp} {R : Ending → World → Prop} (hr : fn.results = #[.tmp t]) (h : R (.returned v) w) (hv : a.tmps.getD t undef = v := by rfl) (hd : a.defers = [] := by rfl) : bodyPost P fn R .ret a w :=
 bodyPost_ret (results_tmp hr _ _ _) hd (by rw [hv];exact h)
theorem in64_of {n : Int} (h1 : -9223372036854775808 ≤ n) (h2 : n ≤ 9223372036854775807) : In64 n := ⟨h1,h2⟩
theorem heap_lt {w : World} {b : Nat} {o : Obj} (h : w.heap[b]? = some o) : b < w.heap.size := by
 rcases Nat.lt_or_ge b w.heap.size with hl | hl
 ·exact hl
 ·rw [Array.getElem?_eq_none hl] at h;cases h
theorem heapT {g b : Nat} {o : Obj} {w w' : World} (ht : Turned g (g + 1) w w') (h : w.heap[b]? = some o) (hb : b ≠ g) : w'.heap[b]? = some o := by
 have hl : b < w.heap.size := by
  rcases Nat.lt_or_ge b w.heap.size with hl | hl
  ·exact hl
  ·rw [Array.getElem?_eq_none hl] at h;cases h
 rw [ht.block b hl (by omega)];exact h
theorem heapE {b : Nat} {o : Obj} {w w' : World} (ht : Ext w w') (h : w.heap[b]? = some o) : w'.heap[b]? = some o := by
 have hl : b < w.heap.size := by
  rcases Nat.lt_or_ge b w.heap.size with hl | hl
  ·exact hl
  ·rw [Array.getElem?_eq_none hl] at h;cases h
 rw [ht.block b hl];exact h
theorem cell_block {w : World} {b : Nat} {cs : List Value} {e : TypeId} (h : w.heap[b]? = some (Obj.cells cs.toArray e)) (j : Nat) (u : Value) (hj : cs[j]? = some u) : w.cell? ⟨b,j,none⟩ = some u := by
 rw [cell_of_row w b j cs.toArray e (0,0) h];simpa using hj
theorem owns_other {w : World} {base : Nat} {e : TypeId} {sz n : Nat} {v : Value} {L : List Value} (h : w.ownsRow base e sz v n L) {p : Addr} (hq : ∀ q,v.ownBlock = some q → q ≠ p.block) (u : Value) : (w.setCell p u).ownsRow base e sz v n L := by
 obtain ⟨h1,h2⟩ := h
 refine ⟨h1, ?_⟩
 rcases h2 with h2 | ⟨g,cap,cur,rfl,hg,hh,r⟩
 ·exact .inl h2
 ·exact .inr ⟨g,cap,cur,rfl,hg,(Below.heap_setCell _ _ _ _ (hq g rfl)).trans hh,r⟩
end Go.Proofs.YtfanjhcdjbnnnaaGreat
