/- Over5, Sub. -/
import Derived.Test.YtfanjhcdjbnnnaaGreatK19
import Derived.Test.YtfanjhcdjbnnnaaGreatK02
namespace Go.Proofs.YtfanjhcdjbnnnaaGreat
open Go.RowKit
set_option linter.unusedVariables false
set_option maxHeartbeats 4000000
set_option maxRecDepth 10000
theorem OInt.one (y : Int) : ∀ u ∈ encInt y,u.oneCell' = true := by
 intro u hu;simp [encInt] at hu;subst hu;rfl
theorem OInt.info : (Tryz.prog.info? 3).map (fun i => (i.zero,i.size,i.bytes)) = some (some (.int .i64 0),1,8) := by kernel_rfl
def tl (l : List Pt) (fr tto : Int) : Nat → List Int
 | 0 => l.map Pt.At
 | 1 => insGo fr false (l.map Pt.At)
 | _ => timesL l fr tto
theorem tl_len (l : List Pt) (fr tto : Int) (k : Nat) : (tl l fr tto k).length ≤ l.length + 2 := by
 match k with
 | 0 => simp [tl]
 | 1 => have := insGo_len fr (l.map Pt.At) false;rw [List.length_map] at this;simp only [tl];omega
 | k + 2 => exact timesL_len l fr tto
theorem int_ok {l : List Pt} (h : ∀ x ∈ l,x.ok) {fr tto : Int} (hf : In64 fr) (ht : In64 tto) (k : Nat) : ∀ y ∈ tl l fr tto k,In64 y := by
 have h0 : ∀ y ∈ l.map Pt.At,In64 y := fun y hy => by obtain ⟨x,hx,rfl⟩ := List.mem_map.1 hy;exact (h x hx).1
 have h1 : ∀ y ∈ insGo fr false (l.map Pt.At),In64 y := fun y hy => by
  rcases (insGo_mem fr _ y).1 hy with rfl | hy
  ·exact hf
  ·exact h0 y hy
 match k with
 | 0 => exact h0
 | 1 => exact h1
 | k + 2 =>
  intro y hy
  rcases (insGo_mem tto _ y).1 hy with rfl | hy
  ·exact ht
  ·exact h1 y hy
theorem ins_a {t x : Int} {r acc L : List Int} (h : acc ++ insGo t false (x :: r) = L) (h1 : t ≤ x) (h2 : x = t) : (acc ++ [t]) ++ insGo t true r = L := by
 rw [← h,insGo,if_pos ⟨rfl,h1⟩,if_pos h2,show (false || decide (t ≤ x)) = true by simpa using h1];simp
theorem ins_b {t x : Int} {r acc L : List Int} (h : acc ++ insGo t false (x :: r) = L) (h1 : t ≤ x) (h2 : x ≠ t) : ((acc ++ [t]) ++ [x]) ++ insGo t true r = L := by
 rw [← h,insGo,if_pos ⟨rfl,h1⟩,if_neg h2,show (false || decide (t ≤ x)) = true by simpa using h1];simp
theorem ins_c {t x : Int} {r acc L : List Int} (h : acc ++ insGo t false (x :: r) = L) (h1 : ¬ t ≤ x) : (acc ++ [x]) ++ insGo t false r = L := by
 rw [← h,insGo,if_neg (by simp;omega),if_neg (by omega),show (false || decide (t ≤ x)) = false by simpa using h1];simp
theorem ins_d {t x : Int} {r acc L : List Int} (h : acc ++ insGo t true (x :: r) = L) (h2 : x = t) : acc ++ insGo t true r = L := by
 rw [← h,insGo,if_neg (by simp),if_pos h2,Bool.true_or];simp
theorem ins_e {t x : Int} {r acc L : List Int} (h : acc ++ insGo t true (x :: r) = L) (h2 : x ≠ t) : (acc ++ [x]) ++ insGo t true r = L := by
 rw [← h,insGo,if_neg (by simp),if_neg h2,Bool.true_or];simp
theorem times_sl0 {w : World} {base : Nat} {A : Option Addr} {c : Nat} {acc L : List Int} (h : w.ownsRow base 3 1 (.slice A acc.length c) acc.length (acc.flatMap encInt)) (e : acc = L) (hok : ∀ y ∈ L,In64 y) : SlAt RInt 1 w A acc.length L := by
 subst e
 exact (OwnAt.flat (enc := encInt) (ok := In64) (fun _ => rfl) hok h).slAt
theorem times_sl {w : World} {base : Nat} {A : Option Addr} {c : Nat} {acc L : List Int} {t : Int} (h : w.ownsRow base 3 1 (.slice A (acc.length + 1) c) (acc.length + 1) (acc.flatMap encInt ++ encInt t)) (e : acc ++ [t] = L) (hok : ∀ y ∈ L,In64 y) : SlAt RInt 1 w A (acc.length + 1) L := by
 have e1 : (acc ++ [t]).length = acc.length + 1 := by simp
 have := times_sl0 (acc := acc ++ [t]) (by rw [e1,List.flatMap_append];simpa using h) e hok
 rw [e1] at this;exact this
def RetOI (w : World) (ts : List Int) : Ending → World → Prop :=
 fun en w' => ∃ A c,en = .returned (.slice A ts.length c) ∧ w'.ownsRow w.heap.size 3 1 (.slice A ts.length c) ts.length (ts.flatMap encInt) ∧ (∀ y ∈ ts,In64 y) ∧ Ext w w'
theorem row_low {w : World} {base b' : Nat} {e : TypeId} {sz n : Nat} {v : Value} {L : List Value} (h : w.ownsRow base e sz v n L) (hb : b' ≤ base) : w.ownsRow b' e sz v n L := by
 obtain ⟨h1,h3⟩ := h
 refine ⟨h1, ?_⟩
 rcases h3 with h3 | ⟨b,cap,cur,e1,hg,r⟩
 ·exact .inl h3
 ·exact .inr ⟨b,cap,cur,e1,Nat.le_trans hb hg,r⟩
theorem times_ow0 {w : World} {base b' : Nat} {A : Option Addr} {c : Nat} {acc L : List Int} (h : w.ownsRow base 3 1 (.slice A acc.length c) acc.length (acc.flatMap encInt)) (e : acc = L) (hb : b' ≤ base) : w.ownsRow b' 3 1 (.slice A acc.length c) acc.length (L.flatMap encInt) := by
 subst e;exact row_low h hb
theorem times_ow {w : World} {base b' : Nat} {A : Option Addr} {c : Nat} {acc L : List Int} {t : Int} (h : w.ownsRow base 3 1 (.slice A (acc.length + 1) c) (acc.length + 1) (acc.flatMap encInt ++ encInt t)) (e : acc ++ [t] = L) (hb : b' ≤ base) : w.ownsRow b' 3 1 (.slice A (acc.length + 1) c) (acc.length + 1) (L.flatMap encInt) := by
 subst e;rw [List.flatMap_append];simpa using row_low h hb
theorem l03Times_o (xs : List Pt) (fr tto : Int) (A : Option Addr) (n c : Nat) (w : World) (h : SlAt RPt 4 w A n xs) (hl : n ≤ 200) (hf : In64 fr) (ht : In64 tto) : Calls Tryz.prog 117 #[.agg #[.slice A n c],.int .i64 fr,.int .i64 tto] w (RetOI w (timesL xs fr tto)) := by
 obtain ⟨i0,hi,hI0,hI1,hI2⟩ := info_parts OInt.info
 have HN := Hh h.len
 have HM := Hh (Flat.mono Pt.enc Pt.ok)
 have HOK := Hh (fun k => int_ok h.all hf ht k)
 have HTL := Hh (tl_len xs fr tto)
 go_enter Tryz.func117,Tryz.ntmps117
 go_wp2
 go_loopw [7,20] (fun v i wr => ∃ (k : Nat) (A1 : Option Addr) (c1 : Nat),k ≤ n ∧ i = .int .i64 k ∧ v = .slice A1 k c1 ∧ wr.ownsRow (w.heap.size + 1) 3 1 (.slice A1 k c1) k (((xs.take k).map Pt.At).flatMap encInt) ∧ Ext (w.alloc (.cells #[.slice A n c] 71)) wr ∧ w.heap.size + 1 ≤ wr.heap.size) (fun _ i _ => n - (intOf i).toNat)
 case atStart => exact ⟨0,_,0,Nat.zero_le _,rfl,rfl,by simpa using owns_empty (w.alloc (.cells #[.slice A n c] 71)) 3 1,Ext.go,by simp⟩
 case round =>
  obtain ⟨k,A1,c1,hk,rfl,rfl,ho,hbr,hzr⟩ := hrel
  have hb : Ext w wr := ((Ext.refl w).alloc _).trans hbr
  by_cases hlt : k < n
  ·obtain ⟨b,o,x,cs,rfl,hbw,hx,_,hc,rfl,_⟩ := (h.ext HM.out hb).at_ hlt
   have g0 := hc 0 _ rfl
   have g1 := hc 1 _ rfl
   have g2 := hc 2 _ rfl
   have g3 := hc 3 _ rfl
   simp only [Nat.add_zero] at g0
   have HX := Hh hx
   have HO := Hh (ho.alloc (.cells #[.int .i64 x.At,.int .i64 x.Free.A,.int .i64 x.Free.B,.int .i64 x.Free.C] 133))
   clear hc hx h ho
   go_wp2_with (at_builtin;go_must (refine wpList_append_one (w0 := (w.alloc (.cells #[.slice (some ⟨b,o,none⟩) n c] 71))) (.tmp 24) (.tmp 27) _ (w.heap.size + 1) 3 i0 _ 1 8 (.slice A1 k c1) k _ (encInt x.At) rfl rfl Tryz.underlying23 hi hI0 hI1 hI2 rfl (by omega) rfl (HO.out) _ rfl (by first | rfl | simp) rfl (OInt.one _) (by unfold maxLen;omega) (by omega) (hbr.alloc _) (by simp) (by simp;omega) ?_);intro A4 c4 w4 ho4 hb4 hs4)
   have HO4 := Hh ho4
   clear ho4
   go_wp2
   go_roundw
   case rel => exact ⟨k + 1,A4,c4,by omega,by go_num,by simp,by rw [take_succ HX.out];simpa using HO4.out,hb4,by simp at hs4;omega⟩
   case measure => simp [intOf];omega
  ·have HS0 := Hh (show SlAt RInt 1 wr A1 n (xs.map Pt.At) from by
    have hkn : k = n := by omega
    subst hkn
    rw [List.take_of_length_le (Nat.le_of_eq HN.out)] at ho
    have e : (xs.map Pt.At).length = k := by rw [List.length_map,HN.out]
    have ho' : wr.ownsRow (w.heap.size + 1) 3 1 (.slice A1 (xs.map Pt.At).length c1) (xs.map Pt.At).length ((xs.map Pt.At).flatMap encInt) := by rw [e];exact ho
    have := (OwnAt.flat (enc := encInt) (ok := In64) (fun _ => rfl) (HOK.out 0) ho').slAt
    rw [e] at this;exact this)
   have HKN := Hh (show k = n by omega)
   have HLO0 := Hh (show wr.ownsRow w.heap.size 3 1 (.slice A1 n c1) n ((xs.map Pt.At).flatMap encInt) from by
    have hkn := HKN.out
    subst hkn
    rw [List.take_of_length_le (Nat.le_of_eq HN.out)] at ho
    exact row_low ho (by omega))
   obtain ⟨wl,rfl⟩ : ∃ wl : World,wl = wr := ⟨_,rfl⟩
   clear h ho
   go_wp2
   go_loopw [7,34] (fun v i wr => ∃ (q m : Nat) (A2 : Option Addr) (c2 : Nat),q ≤ 2 ∧ i = .int .i64 q ∧ v = .slice A2 m c2 ∧ m ≤ 202 ∧ Hid (SlAt RInt 1 wr A2 m (tl xs fr tto q)) ∧ Hid (wr.ownsRow w.heap.size 3 1 (.slice A2 m c2) m ((tl xs fr tto q).flatMap encInt)) ∧ Ext (wl.alloc (.cells #[.int .i64 fr,.int .i64 tto] 3)) wr) (fun _ i _ => 2 - (intOf i).toNat)
   case atStart => exact ⟨0,n,A1,c1,by omega,rfl,by rw [HKN.out],by omega,Hh (HS0.out.ext (Flat.mono _ _) ((Ext.refl _).alloc _)),Hh (owns_ext HLO0.out ((Ext.refl _).alloc _)),Ext.refl _⟩
   case round =>
    obtain ⟨q,m,A2,c2,hq,rfl,rfl,hm,HSL,HLO,hbq⟩ := hrel
    obtain ⟨wo,rfl⟩ : ∃ wo : World,wo = wr := ⟨_,rfl⟩
    by_cases hq2 : q < 2
    ·obtain ⟨t,hcell,HT,hti⟩ : ∃ t,wo.cell? ⟨wl.heap.size,q,none⟩ = some (.int .i64 t) ∧ Hid (tl xs fr tto (q + 1) = insGo t false (tl xs fr tto q)) ∧ In64 t := by
      have : q = 0 ∨ q = 1 := by omega
      rcases this with rfl | rfl
      ·exact ⟨fr,hbq.cell (cell_box wl [.int .i64 fr,.int .i64 tto] 3 0 _ rfl),Hh rfl,hf⟩
      ·exact ⟨tto,hbq.cell (cell_box wl [.int .i64 fr,.int .i64 tto] 3 1 _ rfl),Hh rfl,ht⟩
     have HQL := Hh (show (tl xs fr tto (q + 1)).length ≤ 202 from Nat.le_trans (HTL.out _) (by rw [HN.out];omega))
     have HQO := Hh (HOK.out (q + 1))
     have hlo : wl.heap.size < wo.heap.size := by have := hbq.le;simp at this;omega
     rw [HT.out] at HQL HQO
     generalize tl xs fr tto q = ys at *
     have HYL := Hh HSL.out.len
     have hq3 : decide ((q : Int) < 2) = true := by rw [decide_eq_true_iff];omega
     go_wp2
     go_loopw [12,13,41] (fun v d i wi => ∃ (j : Nat) (A3 : Option Addr) (c3 : Nat) (acc : List Int) (db : Bool),j ≤ m ∧ i = .int .i64 j ∧ d = .bool db ∧ v = .slice A3 acc.length c3 ∧ acc.length ≤ 2 * j ∧ wi.ownsRow wo.heap.size 3 1 (.slice A3 acc.length c3) acc.length (acc.flatMap encInt) ∧ Ext wo wi ∧ Hid (acc ++ insGo t db (ys.drop j) = insGo t false ys) ∧ wo.heap.size + 1 ≤ wi.heap.size) (fun _ _ i _ => m - (intOf i).toNat)
     case atStart => exact ⟨0,_,0,[],false,by omega,rfl,rfl,rfl,by simp,by simpa using owns_empty wo 3 1,(Ext.refl _).alloc _,Hh rfl,by simp⟩
     case round =>
      obtain ⟨j,A3,c3,acc,db,hj,rfl,rfl,rfl,hac,ho3,hbi,HACC,hzi⟩ := hrel
      by_cases hjm : j < m
      ·obtain ⟨b,o,x,cs,rfl,hbw,hx,_,hc,rfl,hxo⟩ := (HSL.out.ext (Flat.mono _ _) hbi).at_ hjm
       have g0 := hc 0 _ rfl
       simp only [Nat.mul_one,Nat.add_zero] at g0
       have HO3 := Hh ho3
       have hacc := HACC.out
       rw [drop_cons hx] at hacc
       have HAC := Hh hacc
       clear hc hx hxo ho3 hacc hcell
       cases db
       ·rcases (Bool.eq_false_or_eq_true (decide (t ≤ x))) with h1 | h1
        ·have H1 := Hh (of_decide_eq_true h1)
         rcases (Bool.eq_false_or_eq_true (x != t)).symm with h2 | h2
         ·have H2 := Hh (show x = t by simpa using h2)
          go_wp2_with (at_builtin;go_must (refine wpList_append_one (w0 := wo) (.tmp 52) (.tmp 54) _ wo.heap.size 3 i0 _ 1 8 _ acc.length _ (encInt t) rfl rfl Tryz.underlying23 hi hI0 hI1 hI2 rfl (by omega) rfl (HO3.out) _ rfl (by first | rfl | simp) rfl (OInt.one _) (by unfold maxLen;omega) (by omega) hbi (Nat.le_refl _) (by omega) ?_);intro A5 c5 w5 ho5 hb5 hs5)
          go_wp2
          go_roundw
          case rel => exact ⟨j + 1,A5,c5,acc ++ [t],true,by omega,by go_num,rfl,by simp,(by first | omega | (simp;omega)),by simpa using ho5,hb5,Hh (ins_a HAC.out H1.out H2.out),by omega⟩
          case measure => simp [intOf];omega
         ·have H2 := Hh (show x ≠ t by simpa using h2)
          go_wp2_with (first | (at_builtin;refine wpList_append_one (w0 := wo) (.tmp 52) (.tmp 54) _ wo.heap.size 3 i0 _ 1 8 _ acc.length _ (encInt t) rfl rfl Tryz.underlying23 hi hI0 hI1 hI2 rfl (by omega) rfl (HO3.out) _ rfl (by first | rfl | simp) rfl (OInt.one _) (by unfold maxLen;omega) (by omega) hbi (Nat.le_refl _) (by omega) ?_;intro A5 c5 w5 ho5 hb5 hs5) | (at_builtin;refine wpList_append_one (w0 := wo) (.tmp 59) (.tmp 61) _ wo.heap.size 3 i0 _ 1 8 _ (acc.length + 1) _ (encInt x) rfl rfl Tryz.underlying23 hi hI0 hI1 hI2 rfl (by omega) rfl (ho5) _ rfl (by first | rfl | simp) rfl (OInt.one _) (by unfold maxLen;omega) (by omega) hb5 (Nat.le_refl _) (by omega) ?_;intro A6 c6 w6 ho6 hb6 hs6))
          go_wp2
          go_roundw
          case rel => exact ⟨j + 1,A6,c6,(acc ++ [t]) ++ [x],true,by omega,by go_num,rfl,by simp,(by first | omega | (simp;omega)),by simpa using ho6,hb6,Hh (ins_b HAC.out H1.out H2.out),by omega⟩
          case measure => simp [intOf];omega
        ·have H1 := Hh (of_decide_eq_false h1)
         have h2 : (x != t) = true := by have := H1.out;simp;omega
         go_wp2_with (at_builtin;go_must (refine wpList_append_one (w0 := wo) (.tmp 59) (.tmp 61) _ wo.heap.size 3 i0 _ 1 8 _ acc.length _ (encInt x) rfl rfl Tryz.underlying23 hi hI0 hI1 hI2 rfl (by omega) rfl (HO3.out) _ rfl (by first | rfl | simp) rfl (OInt.one _) (by unfold maxLen;omega) (by omega) hbi (Nat.le_refl _) (by omega) ?_);intro A5 c5 w5 ho5 hb5 hs5)
         go_wp2
         go_roundw
         case rel => exact ⟨j + 1,A5,c5,acc ++ [x],false,by omega,by go_num,rfl,by simp,(by first | omega | (simp;omega)),by simpa using ho5,hb5,Hh (ins_c HAC.out H1.out),by omega⟩
         case measure => simp [intOf];omega
       ·rcases (Bool.eq_false_or_eq_true (x != t)).symm with h2 | h2
        ·have H2 := Hh (show x = t by simpa using h2)
         go_wp2
         go_roundw
         case rel => exact ⟨j + 1,A3,c3,acc,true,by omega,by go_num,rfl,by simp,(by first | omega | (simp;omega)),by simpa using HO3.out,hbi,Hh (ins_d HAC.out H2.out),by omega⟩
         case measure => simp [intOf];omega
        ·have H2 := Hh (show x ≠ t by simpa using h2)
         go_wp2_with (at_builtin;go_must (refine wpList_append_one (w0 := wo) (.tmp 59) (.tmp 61) _ wo.heap.size 3 i0 _ 1 8 _ acc.length _ (encInt x) rfl rfl Tryz.underlying23 hi hI0 hI1 hI2 rfl (by omega) rfl (HO3.out) _ rfl (by first | rfl | simp) rfl (OInt.one _) (by unfold maxLen;omega) (by omega) hbi (Nat.le_refl _) (by omega) ?_);intro A5 c5 w5 ho5 hb5 hs5)
         go_wp2
         go_roundw
         case rel => exact ⟨j + 1,A5,c5,acc ++ [x],true,by omega,by go_num,rfl,by simp,(by first | omega | (simp;omega)),by simpa using ho5,hb5,Hh (ins_e HAC.out H2.out),by omega⟩
         case measure => simp [intOf];omega
      ·have HEND := Hh (show acc ++ (if db = true then [] else [t]) = insGo t false ys by rw [← HACC.out,List.drop_eq_nil_of_le (by have := HYL.out;omega)];rfl)
       have HO3 := Hh ho3
       clear ho3 HACC hcell
       cases db
       ·have HE2 := Hh (show acc ++ [t] = insGo t false ys from HEND.out)
        go_wp2_with (at_builtin;go_must (refine wpList_append_one (w0 := wo) (.tmp 66) (.tmp 68) _ wo.heap.size 3 i0 _ 1 8 _ acc.length _ (encInt t) rfl rfl Tryz.underlying23 hi hI0 hI1 hI2 rfl (by omega) rfl (HO3.out) _ rfl (by first | rfl | simp) rfl (OInt.one _) (by unfold maxLen;omega) (by omega) hbi (Nat.le_refl _) (by omega) ?_);intro A5 c5 w5 ho5 hb5 hs5)
        have HSL5 := Hh (times_sl (ho5) HE2.out HQO.out)
        have HLO5 := Hh (times_ow (b' := w.heap.size) ho5 HE2.out (by have := hb.le;have := hbq.le;simp at *;omega))
        clear ho5
        go_wp2
        go_roundw
        case rel => exact ⟨q + 1,acc.length + 1,A5,c5,by omega,by go_num,rfl,by have := HQL.out;rw [← HE2.out] at this;simpa using this,Hh (by rw [HT.out];exact HSL5.out),Hh (by rw [HT.out];exact HLO5.out),hbq.trans hb5⟩
        case measure => simp [intOf];omega
       ·have HE2 := Hh (show acc = insGo t false ys by have := HEND.out;simpa using this)
        have HSL5 := Hh (times_sl0 HO3.out HE2.out HQO.out)
        have HLO5 := Hh (times_ow0 (b' := w.heap.size) HO3.out HE2.out (by have := hb.le;have := hbq.le;simp at *;omega))
        go_wp2
        go_roundw
        case rel => exact ⟨q + 1,acc.length,A3,c3,by omega,by go_num,rfl,by have := HQL.out;rw [← HE2.out] at this;exact this,Hh (by rw [HT.out];exact HSL5.out),Hh (by rw [HT.out];exact HLO5.out),hbq.trans hbi⟩
        case measure => simp [intOf];omega
    ·have HQ2 := Hh (show tl xs fr tto q = timesL xs fr tto by rw [show q = 2 by omega];rfl)
     have HSF := Hh (show SlAt RInt 1 wo A2 m (timesL xs fr tto) by rw [← HQ2.out];exact HSL.out)
     have HLF := Hh HSF.out.len
     have HRF := Hh (show wo.ownsRow w.heap.size 3 1 (.slice A2 m c2) m ((timesL xs fr tto).flatMap encInt) by rw [← HQ2.out];exact HLO.out)
     have HOF := Hh (HOK.out 2)
     replace HOF := Hh (show ∀ y ∈ timesL xs fr tto,In64 y from HOF.out)
     generalize timesL xs fr tto = zs at *
     go_wp2
     refine bodyPost_ret (results_tmp rfl _ _ _) rfl ⟨A2,c2,by rw [HLF.out];rfl,by rw [HLF.out];exact HRF.out,HOF.out,hb.trans (((Ext.refl _).alloc _).trans hbq)⟩
theorem sVecSub_c (a b : Vec) (w : World) : Calls Tryz.prog 119 #[.agg #[.int .i64 a.A,.int .i64 a.B,.int .i64 a.C],.agg #[.int .i64 b.A,.int .i64 b.B,.int .i64 b.C]] w (Ret w (.tuple #[.agg #[.int .i64 (subV a b).A,.int .i64 (subV a b).B,.int .i64 (subV a b).C],.bool (fitsB b a)])) := by
 have hF := Hh (fun u : World => sVecFits_c b a u)
 rcases (Bool.eq_false_or_eq_true (fitsB b a)).symm with h1 | h1
 ·have HD := Hh (show subV a b = ⟨0,0,0⟩ by unfold subV;rw [h1];rfl)
  rw [HD.out,h1]
  rw [h1] at hF
  go_enter Tryz.func119,Tryz.ntmps119
  go_wp2_with fail
  refine (hF.out _).mono ?_
  rintro e w1 ⟨rfl,hb1⟩
  obtain ⟨hcr1,hfr1,hz1⟩ := hb1.rules
  (try simp at hz1)
  have hy1_w0 : w.heap.size < w1.heap.size := (by omega)
  have hy1_w1 : w.heap.size + 1 < w1.heap.size := (by omega)
  have hy1_w2 : w.heap.size + 1 + 1 < w1.heap.size := (by omega)
  obtain ⟨q0,q1,q2⟩ := bc3 ((w.alloc (.cells #[.int .i64 a.A,.int .i64 a.B,.int .i64 a.C] 29)).alloc (.cells #[.int .i64 b.A,.int .i64 b.B,.int .i64 b.C] 29)) (w.heap.size + 1 + 1) (.int .i64 0) (.int .i64 0) (.int .i64 0) 29 ((hb1)) (by simp)
  obtain ⟨qf0,qf1,qf2⟩ := bf3 ((w.alloc (.cells #[.int .i64 a.A,.int .i64 a.B,.int .i64 a.C] 29)).alloc (.cells #[.int .i64 b.A,.int .i64 b.B,.int .i64 b.C] 29)) (w.heap.size + 1 + 1) (.int .i64 0) (.int .i64 0) (.int .i64 0) 29 ((hb1)) (by simp)
  go_wp2
  exact ret_is (by simp [results,Tryz.results119,go_sem, *]) rfl Ext.go
 ·have HD := Hh (show subV a b = ⟨a.A - b.A,a.B - b.B,a.C - b.C⟩ by unfold subV;rw [h1];rfl)
  obtain ⟨h2,h3,h4,h5,h6⟩ := fits_iff.1 h1
  rw [vecB_iff] at h2 h3
  rw [HD.out,h1]
  rw [h1] at hF
  clear h1
  go_enter Tryz.func119,Tryz.ntmps119
  go_wp2_with fail
  refine (hF.out _).mono ?_
  rintro e w1 ⟨rfl,hb1⟩
  obtain ⟨hcr1,hfr1,hz1⟩ := hb1.rules
  (try simp at hz1)
  have hy1_w0 : w.heap.size < w1.heap.size := (by omega)
  have hy1_w1 : w.heap.size + 1 < w1.heap.size := (by omega)
  have hy1_w2 : w.heap.size + 1 + 1 < w1.heap.size := (by omega)
  obtain ⟨p0,p1,p2⟩ := bc3 w (w.heap.size) (.int .i64 a.A) (.int .i64 a.B) (.int .i64 a.C) 29 (((((Ext.refl _).alloc _).alloc _).trans hb1)) (by simp)
  obtain ⟨pf0,pf1,pf2⟩ := bf3 w (w.heap.size) (.int .i64 a.A) (.int .i64 a.B) (.int .i64 a.C) 29 (((((Ext.refl _).alloc _).alloc _).trans hb1)) (by simp)
  obtain ⟨r0,r1,r2⟩ := bc3 (w.alloc (.cells #[.int .i64 a.A,.int .i64 a.B,.int .i64 a.C] 29)) (w.heap.size + 1) (.int .i64 b.A) (.int .i64 b.B) (.int .i64 b.C) 29 ((((Ext.refl _).alloc _).trans hb1)) (by simp)
  obtain ⟨rf0,rf1,rf2⟩ := bf3 (w.alloc (.cells #[.int .i64 a.A,.int .i64 a.B,.int .i64 a.C] 29)) (w.heap.size + 1) (.int .i64 b.A) (.int .i64 b.B) (.int .i64 b.C) 29 ((((Ext.refl _).alloc _).trans hb1)) (by simp)
  obtain ⟨q0,q1,q2⟩ := bc3 ((w.alloc (.cells #[.int .i64 a.A,.int .i64 a.B,.int .i64 a.C] 29)).alloc (.cells #[.int .i64 b.A,.int .i64 b.B,.int .i64 b.C] 29)) (w.heap.size + 1 + 1) (.int .i64 0) (.int .i64 0) (.int .i64 0) 29 ((hb1)) (by simp)
  obtain ⟨qf0,qf1,qf2⟩ := bf3 ((w.alloc (.cells #[.int .i64 a.A,.int .i64 a.B,.int .i64 a.C] 29)).alloc (.cells #[.int .i64 b.A,.int .i64 b.B,.int .i64 b.C] 29)) (w.heap.size + 1 + 1) (.int .i64 0) (.int .i64 0) (.int .i64 0) 29 ((hb1)) (by simp)
  go_wp2
  exact ret_is (by simp [results,Tryz.results119,go_sem, *]) rfl Ext.go
end Go.Proofs.YtfanjhcdjbnnnaaGreat
