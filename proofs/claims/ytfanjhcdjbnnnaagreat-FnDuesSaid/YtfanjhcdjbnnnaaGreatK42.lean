/- HeapLaw, HeapI, HeapPu, HeapO. -/
import Derived.Test.YtfanjhcdjbnnnaaGreatK41
import Derived.Test.YtfanjhcdjbnnnaaGreatK01
import Derived.IntWalk
import Derived.Test.YtfanjhcdjbnnnaaGreatK04
import Derived.Test.YtfanjhcdjbnnnaaGreatK14
import Derived.Test.YtfanjhcdjbnnnaaGreatK27
import Derived.Test.YtfanjhcdjbnnnaaGreatK07
import Derived.Deep.RegionLaw
import Derived.Deep.CutRange
namespace Go.Proofs.YtfanjhcdjbnnnaaGreat
open Go.RowKit
set_option linter.unusedVariables false
set_option maxHeartbeats 8000000
set_option maxRecDepth 10000
def dueFirst (a b : Due) : Bool := decide (a.At < b.At) || (decide (a.At = b.At) && decide (a.Id < b.Id))
def dueB (d : Due) : Bool := timeB d.At && decide (1 ≤ d.Id ∧ d.Id ≤ 999)
def dueZ : Due := ⟨0,0⟩
def nthD (l : List Due) (i : Nat) : Due := l.getD i dueZ
def heapAt (l : List Due) (i : Nat) : Bool := dueB (nthD l i) && (decide (i = 0) || !dueFirst (nthD l i) (nthD l ((i - 1) / 2)))
def heapB (l : List Due) : Bool := (List.range l.length).all (heapAt l) && decide (l.length ≤ 200)
def leD (a b : Due) : Prop := dueFirst b a = false
theorem leD_iff {a b : Due} : leD a b ↔ a.At < b.At ∨ (a.At = b.At ∧ a.Id ≤ b.Id) := by
 unfold leD dueFirst
 rw [Bool.eq_false_iff]
 simp
 omega
theorem leD_trans {a b c : Due} (h : leD a b) (k : leD b c) : leD a c := by
 rw [leD_iff] at *;omega
theorem leD_refl (a : Due) : leD a a := by rw [leD_iff];omega
theorem leD_of {a b : Due} (h : dueFirst a b = true) : leD a b := by
 rw [leD_iff];unfold dueFirst at h;simp at h;omega
theorem leD_not {a b : Due} (h : dueFirst a b = false) : leD b a := h
def swapD (l : List Due) (i p : Nat) : List Due := (l.set i (nthD l p)).set p (nthD l i)
theorem swap_len (l : List Due) (i p : Nat) : (swapD l i p).length = l.length := by unfold swapD;rw [List.length_set,List.length_set]
theorem nth_set (l : List Due) (i j : Nat) (x : Due) : nthD (l.set i x) j = if i = j ∧ j < l.length then x else nthD l j := by
 unfold nthD
 rw [List.getD_eq_getElem?_getD,List.getD_eq_getElem?_getD]
 by_cases h : i = j
 ·subst h
  by_cases h2 : i < l.length
  ·rw [List.getElem?_set_self h2,if_pos ⟨rfl,h2⟩];rfl
  ·rw [if_neg (fun hh => h2 hh.2),List.getElem?_eq_none (by rw [List.length_set];omega),List.getElem?_eq_none (by omega)]
 ·rw [List.getElem?_set_ne h,if_neg (fun hh => h hh.1)]
theorem nth_swap {l : List Due} {i p : Nat} (hi : i < l.length) (hp : p < l.length) (j : Nat) : nthD (swapD l i p) j = if j = p then nthD l i else if j = i then nthD l p else nthD l j := by
 unfold swapD
 rw [nth_set,nth_set,List.length_set]
 by_cases h1 : j = p
 ·subst h1;rw [if_pos ⟨rfl,hp⟩,if_pos rfl]
 ·rw [if_neg (fun h => h1 h.1.symm),if_neg h1]
  by_cases h2 : j = i
  ·subst h2;rw [if_pos ⟨rfl,hi⟩,if_pos rfl]
  ·rw [if_neg (fun h => h2 h.1.symm),if_neg h2]
theorem mem_nth {l : List Due} {x : Due} : x ∈ l ↔ ∃ j,j < l.length ∧ nthD l j = x := by
 constructor
 ·intro h
  obtain ⟨j,hj,e⟩ := List.mem_iff_getElem.1 h
  exact ⟨j,hj,by unfold nthD;rw [List.getD_eq_getElem?_getD,List.getElem?_eq_getElem hj,e];rfl⟩
 ·rintro ⟨j,hj,e⟩
  unfold nthD at e
  rw [List.getD_eq_getElem?_getD,List.getElem?_eq_getElem hj] at e
  simp at e
  subst e
  exact List.getElem_mem hj
theorem swap_mem {l : List Due} {i p : Nat} (hi : i < l.length) (hp : p < l.length) (x : Due) : x ∈ swapD l i p ↔ x ∈ l := by
 rw [mem_nth,mem_nth]
 constructor
 ·rintro ⟨j,hj,e⟩
  rw [swap_len] at hj
  rw [nth_swap hi hp] at e
  split at e
  ·exact ⟨i,hi,e⟩
  ·split at e
   ·exact ⟨p,hp,e⟩
   ·exact ⟨j,hj,e⟩
 ·rintro ⟨j,hj,e⟩
  by_cases h1 : j = i
  ·subst h1;exact ⟨p,by rw [swap_len];exact hp,by rw [nth_swap hi hp,if_pos rfl];exact e⟩
  ·by_cases h2 : j = p
   ·subst h2;exact ⟨i,by rw [swap_len];exact hi,by rw [nth_swap hi hp,if_neg (fun h => h1 h.symm),if_pos rfl];exact e⟩
   ·exact ⟨j,by rw [swap_len];exact hj,by rw [nth_swap hi hp,if_neg h2,if_neg h1];exact e⟩
def upInv (l : List Due) (i : Nat) : Prop := (∀ j,0 < j → j < l.length → j ≠ i → leD (nthD l ((j - 1) / 2)) (nthD l j)) ∧ ∀ j,0 < j → j < l.length → (j - 1) / 2 = i → 0 < i → leD (nthD l ((i - 1) / 2)) (nthD l j)
theorem up_step {l : List Due} {i : Nat} (h : upInv l i) (hi : i < l.length) (h0 : 0 < i) (hf : dueFirst (nthD l i) (nthD l ((i - 1) / 2)) = true) : upInv (swapD l i ((i - 1) / 2)) ((i - 1) / 2) := by
 obtain ⟨h1,h2⟩ := h
 have hp : (i - 1) / 2 < l.length := by omega
 have hpi : (i - 1) / 2 ≠ i := by omega
 have hle := leD_of hf
 refine ⟨fun j hj0 hj hjp => ?_,fun j hj0 hj hjp hp0 => ?_⟩
 ·rw [swap_len] at hj
  rw [nth_swap hi hp,nth_swap hi hp]
  by_cases hji : j = i
  ·subst hji
   rw [if_pos rfl,if_neg (fun e => hpi e.symm),if_pos rfl];exact hle
  ·rw [if_neg hjp,if_neg hji]
   by_cases hq : (j - 1) / 2 = (i - 1) / 2
   ·rw [if_pos hq]
    have h3 := h1 j hj0 hj hji
    rw [hq] at h3
    exact leD_trans hle h3
   ·rw [if_neg hq]
    by_cases hq2 : (j - 1) / 2 = i
    ·rw [if_pos hq2];exact h2 j hj0 hj hq2 h0
    ·rw [if_neg hq2];exact h1 j hj0 hj hji
 ·rw [swap_len] at hj
  have hg : ((i - 1) / 2 - 1) / 2 < l.length := by omega
  have hg1 : ((i - 1) / 2 - 1) / 2 ≠ (i - 1) / 2 := by omega
  have hg2 : ((i - 1) / 2 - 1) / 2 ≠ i := by omega
  have h4 := h1 ((i - 1) / 2) hp0 hp hpi
  rw [nth_swap hi hp,nth_swap hi hp,if_neg hg1,if_neg hg2]
  by_cases hji : j = i
  ·subst hji;rw [if_neg (fun e => hpi e.symm),if_pos rfl];exact h4
  ·by_cases hjq : j = (i - 1) / 2
   ·omega
   ·rw [if_neg hjq,if_neg hji]
    have h3 := h1 j hj0 hj hji
    rw [hjp] at h3
    exact leD_trans h4 h3
def heapP (l : List Due) : Prop := ∀ j,0 < j → j < l.length → leD (nthD l ((j - 1) / 2)) (nthD l j)
theorem up_done {l : List Due} {i : Nat} (h : upInv l i) (hs : i = 0 ∨ dueFirst (nthD l i) (nthD l ((i - 1) / 2)) = false) : heapP l := by
 intro j hj0 hj
 by_cases hji : j = i
 ·subst hji
  rcases hs with hs | hs
  ·omega
  ·exact leD_not hs
 ·exact h.1 j hj0 hj hji
theorem heap_root {l : List Due} (h : heapP l) : ∀ j,j < l.length → leD (nthD l 0) (nthD l j) := by
 intro j
 induction j using Nat.strongRecOn with
 | ind j ih =>
  intro hj
  by_cases h0 : j = 0
  ·subst h0;exact leD_refl _
  ·exact leD_trans (ih ((j - 1) / 2) (by omega) (by omega)) (h j (by omega) hj)
theorem heapB_iff {l : List Due} : heapB l = true ↔ (∀ d ∈ l,dueB d = true) ∧ heapP l ∧ l.length ≤ 200 := by
 unfold heapB heapAt heapP
 rw [Bool.and_eq_true,List.all_eq_true,decide_eq_true_iff]
 constructor
 ·rintro ⟨h1,h2⟩
  refine ⟨fun d hd => ?_,fun j hj0 hj => ?_,h2⟩
  ·obtain ⟨j,hj,e⟩ := mem_nth.1 hd
   have := h1 j (List.mem_range.2 hj)
   rw [Bool.and_eq_true] at this
   rw [← e];exact this.1
  ·have := h1 j (List.mem_range.2 hj)
   rw [Bool.and_eq_true,Bool.or_eq_true,decide_eq_true_iff] at this
   rcases this.2 with h | h
   ·omega
   ·unfold leD;simpa using h
 ·rintro ⟨h1,h2,h3⟩
  refine ⟨fun j hj => ?_,h3⟩
  have hjl := List.mem_range.1 hj
  rw [Bool.and_eq_true,Bool.or_eq_true,decide_eq_true_iff]
  refine ⟨h1 _ (mem_nth.2 ⟨j,hjl,rfl⟩), ?_⟩
  by_cases h0 : j = 0
  ·exact .inl h0
  ·right
   have := h2 j (by omega) hjl
   unfold leD at this
   rw [this];rfl
theorem push_inv {l : List Due} (h : heapP l) (d : Due) : upInv (l ++ [d]) l.length := by
 have hn : ∀ j,j < l.length → nthD (l ++ [d]) j = nthD l j := fun j hj => by
  unfold nthD;rw [List.getD_eq_getElem?_getD,List.getD_eq_getElem?_getD,List.getElem?_append_left hj]
 refine ⟨fun j hj0 hj hjn => ?_,fun j hj0 hj hjp _ => ?_⟩
 ·rw [List.length_append,List.length_singleton] at hj
  rw [hn j (by omega),hn _ (by omega)]
  exact h j hj0 (by omega)
 ·rw [List.length_append,List.length_singleton] at hj
  omega
theorem DueFirst_c (a b : Due) (w : World) : Calls Tryz.prog 18 #[.agg #[.int .i64 a.At,.int .i64 a.Id],.agg #[.int .i64 b.At,.int .i64 b.Id]] w (Ret w (.bool (dueFirst a b))) := by
 have HF := Hh (show dueFirst a b = (decide (a.At < b.At) || (decide (a.At = b.At) && decide (a.Id < b.Id))) from rfl)
 generalize dueFirst a b = r at *
 go_enter Tryz.func18,Tryz.ntmps18
 go_wp2
 all_goals
  refine ret_bool rfl rfl rfl ?_ (((Ext.refl w).alloc _).alloc _)
  rw [HF.out]
  first | rfl | (rw [Bool.eq_iff_iff];simp;omega) | (simp;omega) | (simp [*])
theorem dueOk_c (a : Due) (w : World) : Calls Tryz.prog 25 #[.agg #[.int .i64 a.At,.int .i64 a.Id]] w (Ret w (.bool (dueB a))) := by
 have HT := Hh (fun u : World => isTime_c a.At u)
 have HF := Hh (show dueB a = (timeB a.At && decide (1 ≤ a.Id ∧ a.Id ≤ 999)) from rfl)
 generalize dueB a = r at *
 generalize timeB a.At = t at *
 rcases t with _ | _
 ·go_enter Tryz.func25,Tryz.ntmps25
  go_wp2_with fail
  refine (HT.out _).mono ?_
  rintro e w1 ⟨rfl,rfl⟩
  go_wp2
  exact ret_bool rfl rfl rfl (by rw [HF.out];rfl) ((Ext.refl w).alloc _)
 ·go_enter Tryz.func25,Tryz.ntmps25
  go_wp2_with fail
  refine (HT.out _).mono ?_
  rintro e w1 ⟨rfl,rfl⟩
  go_wp2_with fail
  refine (within_c a.Id 1 999 _).mono ?_
  rintro e w2 ⟨rfl,rfl⟩
  go_wp2
  exact ret_bool rfl rfl rfl (by rw [HF.out];rfl) ((Ext.refl w).alloc _)
theorem heap_snoc (l : List Due) (k : Nat) : (List.range (k + 1)).all (heapAt l) = ((List.range k).all (heapAt l) && heapAt l k) := by
 rw [List.range_succ,List.all_append];simp
theorem HeapOk_c (xs : List Due) (A : Option Addr) (n c : Nat) (w : World) (h : SlAt RDue 2 w A n xs) (hl : n ≤ maxLen) : Calls Tryz.prog 17 #[.slice A n c] w (Ret w (.bool (heapB xs))) := by
 unfold maxLen at hl
 have HN := Hh h.len
 have H := Hh (fun (u : World) (e : Ext w u) => h.ext (Flat.mono Due.enc Due.ok) e)
 have HF := Hh (show heapB xs = ((List.range n).all (heapAt xs) && decide (n ≤ 200)) by unfold heapB;rw [h.len])
 have HNO := Hh (fun (k : Nat) (hk : k < n) (h : heapAt xs k = false) => show (List.range n).all (heapAt xs) = false from by
  rw [Bool.eq_false_iff]
  intro hh
  rw [List.all_eq_true] at hh
  rw [hh k (List.mem_range.2 hk)] at h;cases h)
 clear h
 generalize heapB xs = R at *
 go_enter Tryz.func17,Tryz.ntmps17
 go_wp2
 go_loopw [7] (fun iv wr => ∃ k : Nat,k ≤ n ∧ iv = .int .i64 k ∧ Hid ((List.range k).all (heapAt xs) = true) ∧ Ext w wr) (fun iv _ => n - (intOf iv).toNat)
 case atStart => exact ⟨0,Nat.zero_le _,rfl,Hh rfl,Ext.refl _⟩
 case round =>
  obtain ⟨k,hk,rfl,HG,hb⟩ := hrel
  by_cases hlt : k < n
  ·obtain ⟨b,o,x,cs,rfl,hbw,hx,_,hc,rfl,_⟩ := (H.out wr hb).at_ hlt
   have g0 := hc 0 _ rfl
   have g1 := hc 1 _ rfl
   simp only [Nat.add_zero] at g0
   have HX := Hh (show nthD xs k = x by unfold nthD;rw [List.getD_eq_getElem?_getD,hx];rfl)
   have HD := Hh (fun u : World => dueOk_c x u)
   have HA := Hh (show heapAt xs k = (dueB x && (decide (k = 0) || !dueFirst x (nthD xs ((k - 1) / 2)))) by unfold heapAt;rw [HX.out])
   generalize dueB x = rd at *
   have HBW := Hh hb
   clear hb
   by_cases hk0 : k = 0
   ·have hkd : decide (0 < k) = false := by rw [decide_eq_false_iff_not];omega
    have hkd2 : decide ((0 : Int) < (k : Int)) = false := by rw [decide_eq_false_iff_not];omega
    have HA2 := Hh (show heapAt xs k = rd by rw [HA.out,decide_eq_true hk0];simp)
    clear hk0 HA hx hc
    rcases rd with _ | _
    ·have HF2 := Hh (show R = false by rw [HF.out,HNO.out k hlt HA2.out];rfl)
     go_upto_region 4 with fail
     have hcx := @Later.cell (wr.alloc (.cells #[.int .i64 x.At,.int .i64 x.Id] 42))
     refine wp_region_ext (by kernel_rfl) (by kernel_rfl) ?_
     repeat (go_big_quiet_step ((go_at_call 25;exact Calls.quiet_ext (HD.out _))))
     refine wpQuiet_nil ?_
     intro w1 hb1
     have HB1 := Hh hb1
     clear hcx  hb1
     go_wp2
     exact ret_bool rfl rfl rfl HF2.out.symm (HBW.out.trans (((Ext.refl wr).alloc _).trans HB1.out))
    ·have HG2 := Hh (show (List.range (k + 1)).all (heapAt xs) = true by rw [heap_snoc,HG.out,HA2.out];rfl)
     go_upto_region 4 with fail
     have hcx := @Later.cell (wr.alloc (.cells #[.int .i64 x.At,.int .i64 x.Id] 42))
     refine wp_region_ext (by kernel_rfl) (by kernel_rfl) ?_
     repeat (go_big_quiet_step ((go_at_call 25;exact Calls.quiet_ext (HD.out _))))
     refine wpQuiet_nil ?_
     intro w1 hb1
     have HB1 := Hh hb1
     clear hcx  hb1
     go_wp2
     go_roundw
     case rel => exact ⟨k + 1,by omega,by go_num,HG2,HBW.out.trans (((Ext.refl wr).alloc _).trans HB1.out)⟩
     case measure => simp [intOf];omega
   ·obtain ⟨b2,o2,y,cs2,e2,hbw2,hy,_,hc2,rfl,_⟩ := (H.out wr HBW.out).at_ (show (k - 1) / 2 < n by omega)
    injection e2 with e2;injection e2 with e2 e3;subst e2 e3
    have y0 := hc2 0 _ rfl
    have y1 := hc2 1 _ rfl
    simp only [Nat.add_zero] at y0
    have HY := Hh (show nthD xs ((k - 1) / 2) = y by unfold nthD;rw [List.getD_eq_getElem?_getD,hy];rfl)
    have HDF := Hh (fun u : World => DueFirst_c x y u)
    rw [HY.out] at HA
    generalize dueFirst x y = rf at *
    have hkd : decide (0 < k) = true := by rw [decide_eq_true_iff];omega
    have hkd2 : decide ((0 : Int) < (k : Int)) = true := by rw [decide_eq_true_iff];omega
    have hw1 : IntKind.i64.wrap ((k : Int) - 1) = ((k - 1 : Nat) : Int) := by rw [show (k : Int) - 1 = ((k - 1 : Nat) : Int) by omega];exact IntWalk.i64_in _ ⟨by omega,by omega⟩
    have hq : (((k - 1 : Nat) : Int)).tdiv 2 = (((k - 1) / 2 : Nat) : Int) := by rw [Int.tdiv_eq_ediv_of_nonneg (by omega)];omega
    have hq2 : IntKind.i64.wrap (((k - 1) / 2 : Nat) : Int) = (((k - 1) / 2 : Nat) : Int) := IntWalk.i64_in _ ⟨by omega,by omega⟩
    have hpn : (k - 1) / 2 < n := by omega
    have HA2 := Hh (show heapAt xs k = (rd && !rf) by rw [HA.out,decide_eq_false hk0];simp)
    clear hk0 HA hx hc hy hc2
    rcases rd with _ | _
    ·have HF2 := Hh (show R = false by rw [HF.out,HNO.out k hlt (by rw [HA2.out];rfl)];rfl)
     go_upto_region 4 with fail
     have hcx := @Later.cell (wr.alloc (.cells #[.int .i64 x.At,.int .i64 x.Id] 42))
     refine wp_region_ext (by kernel_rfl) (by kernel_rfl) ?_
     repeat (go_big_quiet_step ((go_at_call 25;exact Calls.quiet_ext (HD.out _))))
     refine wpQuiet_nil ?_
     intro w1 hb1
     have HB1 := Hh hb1
     clear hcx  hb1
     go_wp2
     exact ret_bool rfl rfl rfl HF2.out.symm (HBW.out.trans (((Ext.refl wr).alloc _).trans HB1.out))
    ·rcases rf with _ | _
     ·have HG2 := Hh (show (List.range (k + 1)).all (heapAt xs) = true by rw [heap_snoc,HG.out,HA2.out];rfl)
      go_upto_region 4 with fail
      have hcx := @Later.cell (wr.alloc (.cells #[.int .i64 x.At,.int .i64 x.Id] 42))
      refine wp_region_ext (by kernel_rfl) (by kernel_rfl) ?_
      repeat (go_big_quiet_step (first | ((go_at_call 25;exact Calls.quiet_ext (HD.out _))) | ((go_at_call 18;exact Calls.quiet_ext (HDF.out _)))))
      refine wpQuiet_nil ?_
      intro w1 hb1
      have HB1 := Hh hb1
      clear hcx  hb1
      go_wp2
      go_roundw
      case rel => exact ⟨k + 1,by omega,by go_num,HG2,HBW.out.trans (((Ext.refl wr).alloc _).trans HB1.out)⟩
      case measure => simp [intOf];omega
     ·have HF2 := Hh (show R = false by rw [HF.out,HNO.out k hlt (by rw [HA2.out];rfl)];rfl)
      go_upto_region 4 with fail
      have hcx := @Later.cell (wr.alloc (.cells #[.int .i64 x.At,.int .i64 x.Id] 42))
      refine wp_region_ext (by kernel_rfl) (by kernel_rfl) ?_
      repeat (go_big_quiet_step (first | ((go_at_call 25;exact Calls.quiet_ext (HD.out _))) | ((go_at_call 18;exact Calls.quiet_ext (HDF.out _)))))
      refine wpQuiet_nil ?_
      intro w1 hb1
      have HB1 := Hh hb1
      clear hcx  hb1
      go_wp2
      exact ret_bool rfl rfl rfl HF2.out.symm (HBW.out.trans (((Ext.refl wr).alloc _).trans HB1.out))
  ·obtain rfl : k = n := by omega
   have HF2 := Hh (show R = decide (k ≤ 200) by rw [HF.out,HG.out];rfl)
   go_wp2
   exact ret_bool rfl rfl rfl (by rw [HF2.out,decide_eq_decide];omega) hb
theorem Due.info : (Tryz.prog.info? 42).map (fun i => (i.zero,i.size,i.bytes)) = some (some (.agg #[.int .i64 0,.int .i64 0]),2,16) := by kernel_rfl
def RetPush (w : World) (xs : List Due) (d : Due) : Ending → World → Prop := fun e w' => ∃ (A : Option Addr) (n c : Nat) (hs : List Due),e = .returned (.tuple #[.slice A n c,.bool true]) ∧ SlAt RDue 2 w' A n hs ∧ n ≤ c ∧ n = xs.length + 1 ∧ heapB hs = true ∧ (∀ x,x ∈ hs ↔ x ∈ xs ∨ x = d) ∧ Ext w w'
theorem hown_empty_at (w : World) (b : Nat) (hb : w.heap.size = b) (e : TypeId) (sz : Nat) : (w.alloc (.cells #[] e)).ownsRow b e sz (.slice (some ⟨b,0,none⟩) 0 0) 0 [] := by
 subst hb;exact owns_empty w e sz
theorem hsl_one_at {α : Type} {enc : α → List Value} {ok : α → Prop} {sz : Nat} (w : World) (b : Nat) (hb : w.heap.size = b) (x : α) (e : TypeId) (hsz : (enc x).length = sz) (hx : ok x) : SlAt (Flat enc ok) sz (w.alloc (.cells (enc x).toArray e)) (some ⟨b,0,none⟩) 1 [x] := by
 subst hb;exact sl_one_r w x e hsz hx
theorem SlAt.happ {α : Type} {enc : α → List Value} {ok : α → Prop} {sz m b o : Nat} {w w' : World} {base : Nat} {e : TypeId} {size : Nat} {v : Value} {A' : Option Addr} {n' c' : Nat} {L' : List Value} {xs : List α} (h : SlAt (Flat enc ok) sz w (some ⟨b,o,none⟩) m xs) (hr : AppR w w' base e size v A' n' c' L') (hne : v.ownBlock ≠ some b) : SlAt (Flat enc ok) sz w' (some ⟨b,o,none⟩) m xs := by
 refine ⟨h.1,fun hm => ?_⟩
 obtain ⟨b',o',e1,hb,hc⟩ := h.2 hm
 injection e1 with e1;injection e1 with e1 e2;subst e1 e2
 refine ⟨b,o,rfl,Nat.lt_of_lt_of_le hb hr.size,fun k x hx => ?_⟩
 obtain ⟨cs,h1,h2,h3⟩ := hc k x hx
 exact ⟨cs,h1,fun j u hu => hr.cell (h2 j u hu) hne,h3⟩
theorem HeapPush_c (xs : List Due) (d : Due) (A : Option Addr) (n c : Nat) (w : World) (h : SlAt RDue 2 w A n xs) (hh : heapB xs = true) (hd : dueB d = true) (hn : n < 200) (hdk : d.ok) : Calls Tryz.prog 12 #[.slice A n c,.agg #[.int .i64 d.At,.int .i64 d.Id]] w (RetPush w xs d) := by
 obtain ⟨i1,hi1,hJ0,hJ1,hJ2⟩ := info_parts Due.info
 have HH := Hh (fun (u : World) (e : Ext w u) => HeapOk_c xs A n c u (h.ext (Flat.mono _ _) e) (by unfold maxLen;omega))
 rw [hh] at HH
 have HD := Hh (fun u : World => dueOk_c d u)
 rw [hd] at HD
 have H4 := Hh (fun (u : World) (e : Ext w u) => h.ext (Flat.mono Due.enc Due.ok) e)
 have HP := Hh (heapB_iff.1 hh)
 have HDB := Hh hd
 have HDK := Hh hdk
 have HN := Hh h.len
 have HXK := Hh h.all
 clear h hh hd hdk
 go_enter Tryz.func12,Tryz.ntmps12
 go_wp2_with fail
 refine (HH.out _ Ext.go).mono ?_
 rintro e w1 ⟨rfl,hb1⟩
 obtain ⟨hcr1,hfr1,hz1⟩ := hb1.rules
 (try simp at hz1)
 have hy1_w0 : w.heap.size < w1.heap.size := (by omega)
 have q0 := hb1.cell (law_box w [.int .i64 d.At,.int .i64 d.Id] 42 0 _ rfl)
 have q1 := hb1.cell (law_box w [.int .i64 d.At,.int .i64 d.Id] 42 1 _ rfl)
 have hql := lt_of_cell q0
 have HB1 := Hh (((Ext.refl w).alloc (.cells #[.int .i64 d.At,.int .i64 d.Id] 42)).trans hb1)
 clear hb1 hcr1 hfr1
 go_wp2_with fail
 refine (HD.out _).mono ?_
 rintro e W ⟨rfl,hb2⟩
 have z0 := hb2.cell q0
 have z1 := hb2.cell q1
 have hzl := lt_of_cell z0
 have EW := Hh (HB1.out.trans hb2)
 have hd200 : ((n : Int) == 200) = false := by rw [beq_eq_false_iff_ne];omega
 have hd201 : decide ((n : Int) = 200) = false := by rw [decide_eq_false_iff_not];omega
 clear hb2 q0 q1 hql
 go_upto_region 3 with fail
 have HZ0 := Hh z0
 have HZ1 := Hh z1
 go_cut [6] from 21 to 26 (fun s6 wx => ∃ A7 c7,s6 = .slice A7 (n + 1) c7 ∧ Hid (wx.ownsRow W.heap.size 42 2 (.slice A7 (n + 1) c7) (n + 1) (xs.flatMap Due.enc ++ [d].flatMap Due.enc)) ∧ Ext W wx)
 case first =>
  go_region_law (first
   | (refine step_append_r (enc := Due.enc) (ok := Due.ok) (by rfl) _ _ _ (by rfl) W.heap.size 42 i1 _ 2 16 Tryz.underlying36 hi1 hJ0 hJ1 hJ2 rfl (by omega) _ 0 [] A n c xs n (by simp) (by rfl) (by rfl) (by first | exact hown_empty_at W.drew W.heap.size (by simp) 42 2 | exact owns_ext (hown_empty_at W.drew W.heap.size (by simp) 42 2) ((Ext.refl _).alloc _) | exact owns_base (hown_empty_at (W.drew.alloc (.cells #[.int .i64 d.At,.int .i64 d.Id] 42)) (W.heap.size + 1) (by simp) 42 2) (by simp)) (H4.out _ (EW.out.trans (by first | exact ((Ext.refl _).drew).alloc _ | exact (((Ext.refl _).drew).alloc _).alloc _))) Due.size Due.one (by unfold maxLen;omega) (by omega) (by simp;try omega) ?_;intro A8 c8 w3 hr3;have HR3 := Hh hr3;simp only [List.nil_append] at hr3;have HX3 := Hh (show Ext W w3 from ext_turned (by first | exact ((Ext.refl _).drew).alloc _ | exact (((Ext.refl _).drew).alloc _).alloc _) (hr3.turned (lo := W.heap.size) (fun q hq => by first | (cases hq;exact Nat.le_refl _) | (cases hq;simp))) (Nat.le_refl _));have y0 := HX3.out.cell HZ0.out;have y1 := HX3.out.cell HZ1.out;have hy4 := lt_of_cell y0;clear hr3)
   | (refine step_append_r (enc := Due.enc) (ok := Due.ok) (by rfl) _ _ _ (by rfl) W.heap.size 42 i1 _ 2 16 Tryz.underlying36 hi1 hJ0 hJ1 hJ2 rfl (by omega) _ n (xs.flatMap Due.enc) _ 1 1 [d] (n + 1) rfl (by rfl) (by rfl) (by first | exact HR3.out.row | exact owns_ext HR3.out.row ((Ext.refl _).alloc _)) (by first | exact sl_one_r w3 d 42 rfl HDK.out | exact SlAt.happ (enc := Due.enc) (hsl_one_at (W.drew.alloc (.cells #[] 42)) (W.heap.size + 1) (by simp) d 42 rfl HDK.out) HR3.out (by intro hh;have h2 := Option.some.inj (show some W.heap.size = some (W.heap.size + 1) from hh);omega) | exact SlAt.happ (enc := Due.enc) ((hsl_one_at W.drew W.heap.size (by simp) d 42 rfl HDK.out).ext (Flat.mono _ _) ((Ext.refl _).alloc _)) HR3.out (by intro hh;have h2 := Option.some.inj (show some (W.heap.size + 1) = some W.heap.size from hh);omega)) Due.size Due.one (by unfold maxLen;omega) (by omega) (by have := HX3.out.le;simp;try omega) ?_;intro A7 c7 w9 hr9;have HR9 := Hh hr9.row;have HX9 := Hh (show Ext W w9 from ext_turned (by first | exact HX3.out | exact HX3.out.alloc _) (hr9.turned (lo := W.heap.size) (fun q hq => (HR3.out.row.lt q hq).1)) (Nat.le_refl _));clear hr9))
  all_goals
   go_wp2_with fail
   go_meet
   exact ⟨A7,c7,rfl,HR9,HX9.out⟩
 case rest =>
  obtain ⟨A7,c7,rfl,HR9,hx9⟩ := hcut
  have hnx := HN.out
  obtain ⟨b,rfl,hb0,hbl⟩ := down_form HR9.out (by omega)
  have HL0 := Hh (show (xs ++ [d]).length = n + 1 by rw [List.length_append,hnx];rfl)
  have HI0 := Hh (show upInv (xs ++ [d]) n by have h := push_inv HP.out.2.1 d;rw [hnx] at h;exact h)
  have HM0 := Hh (show ∀ x,x ∈ xs ++ [d] ↔ x ∈ xs ∨ x = d from fun x => by simp)
  have HO0 := Hh (show ∀ x ∈ xs ++ [d],x.ok from all_snoc HXK.out HDK.out)
  have HR0 := Hh (show wc.ownsRow W.heap.size 42 2 (.slice (some ⟨b,0,none⟩) (n + 1) c7) (n + 1) ((xs ++ [d]).flatMap Due.enc) by rw [List.flatMap_append];exact HR9.out)
  clear HR9 z0 z1 hzl hbl hnx
  go_wp2
  go_loopw [7] (fun iv wr => ∃ (i : Nat) (hs : List Due),i ≤ n ∧ iv = .int .i64 i ∧ Hid (hs.length = n + 1) ∧ Hid (upInv hs i) ∧ Hid (∀ x,x ∈ hs ↔ x ∈ xs ∨ x = d) ∧ Hid (∀ x ∈ hs,x.ok) ∧ Hid (wr.ownsRow W.heap.size 42 2 (.slice (some ⟨b,0,none⟩) (n + 1) c7) (n + 1) (hs.flatMap Due.enc)) ∧ Ext W wr) (fun iv _ => (intOf iv).toNat)
  case atStart => exact ⟨n,xs ++ [d],Nat.le_refl _,rfl,HL0,HI0,HM0,HO0,HR0,hx9⟩
  case round =>
   clear HL0 HI0 HM0 HO0 HR0
   obtain ⟨i,hs,hi,rfl,HL,HI,HM,HO,HR,hb⟩ := hrel
   have HBW := Hh hb
   clear hb
   have HEND := Hh (fun (hs0 : i = 0 ∨ dueFirst (nthD hs i) (nthD hs ((i - 1) / 2)) = false) (u : World) (e : Ext wr u) => show RetPush w xs d (.returned (.tuple #[.slice (some ⟨b,0,none⟩) (n + 1) c7,.bool true])) u from by
    have hsl := owns_sl Due.size (by have h := owns_ext HR.out e;rw [← HL.out] at h;exact h) HO.out
    rw [HL.out] at hsl
    exact ⟨_,n + 1,c7,hs,rfl,hsl,g_cap HR.out,by rw [HN.out],heapB_iff.2 ⟨fun x hx => by rcases (HM.out x).1 hx with h | h;exact HP.out.1 x h;(rw [h];exact HDB.out),up_done HI.out hs0,by rw [HL.out];omega⟩,HM.out,EW.out.trans (HBW.out.trans e)⟩)
   by_cases hi0 : i = 0
   ·have hkd : decide (0 < i) = false := by rw [decide_eq_false_iff_not];omega
    have hkd2 : decide ((0 : Int) < (i : Int)) = false := by rw [decide_eq_false_iff_not];omega
    have HE2 := Hh (HEND.out (.inl hi0))
    clear hi0 HEND
    go_upto_region 5 with fail
    have hcx := @Later.cell wr
    refine wp_region_ext (by kernel_rfl) (by kernel_rfl) ?_
    repeat (go_big_quiet_step (fail))
    refine wpQuiet_nil ?_
    intro w9 hb9
    have HB9 := Hh hb9
    clear hcx  hb9
    go_wp2
    exact bodyPost_ret (by simp [results,Tryz.results12,go_sem, *]) rfl (HE2.out _ HB9.out)
   ·have hi1' : 0 < i := by omega
    have hkd : decide (0 < i) = true := decide_eq_true hi1'
    have hkd2 : decide ((0 : Int) < (i : Int)) = true := by rw [decide_eq_true_iff];omega
    have hlx := HL.out
    obtain ⟨x,hx⟩ : ∃ x,hs[i]? = some x := ⟨_,List.getElem?_eq_getElem (by omega)⟩
    obtain ⟨y,hy⟩ : ∃ y,hs[(i - 1) / 2]? = some y := ⟨_,List.getElem?_eq_getElem (by omega)⟩
    have HNX := Hh (show nthD hs i = x by unfold nthD;rw [List.getD_eq_getElem?_getD,hx];rfl)
    have HNY := Hh (show nthD hs ((i - 1) / 2) = y by unfold nthD;rw [List.getD_eq_getElem?_getD,hy];rfl)
    have p0 : wr.cell? ⟨b,i * 2,none⟩ = some (.int .i64 x.At) := by rw [HR.out.cellAt (i * 2) (by omega)];exact (flatMap_get (enc := Due.enc) (j := 0) Due.size (by omega) hx).trans rfl
    have p1 : wr.cell? ⟨b,i * 2 + 1,none⟩ = some (.int .i64 x.Id) := by rw [HR.out.cellAt (i * 2 + 1) (by omega)];exact (flatMap_get (enc := Due.enc) (j := 1) Due.size (by omega) hx).trans rfl
    have y0 : wr.cell? ⟨b,(i - 1) / 2 * 2,none⟩ = some (.int .i64 y.At) := by rw [HR.out.cellAt ((i - 1) / 2 * 2) (by omega)];exact (flatMap_get (enc := Due.enc) (j := 0) Due.size (by omega) hy).trans rfl
    have y1 : wr.cell? ⟨b,(i - 1) / 2 * 2 + 1,none⟩ = some (.int .i64 y.Id) := by rw [HR.out.cellAt ((i - 1) / 2 * 2 + 1) (by omega)];exact (flatMap_get (enc := Due.enc) (j := 1) Due.size (by omega) hy).trans rfl
    have hbl := lt_of_cell p0
    have HX := Hh hx
    have HY := Hh hy
    have hw1 : IntKind.i64.wrap ((i : Int) - 1) = ((i - 1 : Nat) : Int) := by rw [show (i : Int) - 1 = ((i - 1 : Nat) : Int) by omega];exact IntWalk.i64_in _ ⟨by omega,by omega⟩
    have hq : (((i - 1 : Nat) : Int)).tdiv 2 = (((i - 1) / 2 : Nat) : Int) := by rw [Int.tdiv_eq_ediv_of_nonneg (by omega)];omega
    have hq2 : IntKind.i64.wrap (((i - 1) / 2 : Nat) : Int) = (((i - 1) / 2 : Nat) : Int) := IntWalk.i64_in _ ⟨by omega,by omega⟩
    have hpn : (i - 1) / 2 < n + 1 := by omega
    have hin : i < n + 1 := by omega
    have HDF := Hh (fun u : World => DueFirst_c x y u)
    have HST := Hh (fun (h : dueFirst x y = true) => up_step HI.out (by omega) hi1' (by rw [HNX.out,HNY.out];exact h))
    have HSM := Hh (fun (z : Due) => swap_mem (l := hs) (i := i) (p := (i - 1) / 2) (by omega) (by omega) z)
    rw [HNX.out,HNY.out] at HEND
    clear hx hy hlx
    have HRF := Hh (show dueFirst x y = dueFirst x y from rfl)
    rcases hr : dueFirst x y with _ | _
    ·rw [hr] at HDF
     have HE2 := Hh (HEND.out (.inr hr))
     clear hr HEND HST
     go_upto_region 5 with fail
     have hcx := @Later.cell wr
     refine wp_region_ext (by kernel_rfl) (by kernel_rfl) ?_
     repeat (go_big_quiet_step ((go_at_call 18;exact Calls.quiet_ext (HDF.out _))))
     refine wpQuiet_nil ?_
     intro w9 hb9
     have HB9 := Hh hb9
     clear hcx  hb9
     go_wp2
     exact bodyPost_ret (by simp [results,Tryz.results12,go_sem, *]) rfl (HE2.out _ HB9.out)
    ·rw [hr] at HDF
     have HUP := Hh (HST.out hr)
     clear hr HEND HST
     go_upto_region 5 with fail
     have hcx := @Later.cell wr
     refine wp_region_ext (by kernel_rfl) (by kernel_rfl) ?_
     repeat (go_big_quiet_step ((go_at_call 18;exact Calls.quiet_ext (HDF.out _))))
     refine wpQuiet_nil ?_
     intro w9 hb9
     have HB9 := Hh hb9
     clear hcx  hb9
     have P0 := HB9.out.cell p0
     have P1 := HB9.out.cell p1
     have Y0 := HB9.out.cell y0
     have Y1 := HB9.out.cell y1
     have HR9 := Hh (owns_ext HR.out HB9.out)
     have f0 := HR9.out.frozenAt (i * 2)
     have f1 := HR9.out.frozenAt (i * 2 + 1)
     have f2 := HR9.out.frozenAt ((i - 1) / 2 * 2)
     have f3 := HR9.out.frozenAt ((i - 1) / 2 * 2 + 1)
     have hb9 : b < w9.heap.size := lt_of_cell P0
     clear p0 p1 y0 y1 hbl
     have hq3 : IntKind.i64.wrap (((i - 1 : Nat) : Int) / 2) = ((i - 1 : Nat) : Int) / 2 := IntWalk.i64_in _ ⟨by omega,by omega⟩
     have hin2 : (i : Int) < (n : Int) + 1 := by omega
     have hq4 : (0 : Int) ≤ ((i - 1 : Nat) : Int) / 2 := by omega
     have hq5 : ((i - 1 : Nat) : Int) / 2 < (n : Int) + 1 := by omega
     have hq6 : (((i - 1 : Nat) : Int) / 2).toNat = (i - 1) / 2 := by omega
     go_upto_region 7 with fail
     go_region_law (fail)
     all_goals
      have HW := Hh (show ((((w9.setCell ⟨b,i * 2,none⟩ (.int .i64 y.At)).setCell ⟨b,i * 2 + 1,none⟩ (.int .i64 y.Id)).setCell ⟨b,(i - 1) / 2 * 2,none⟩ (.int .i64 x.At)).setCell ⟨b,(i - 1) / 2 * 2 + 1,none⟩ (.int .i64 x.Id)).drew.ownsRow W.heap.size 42 2 (.slice (some ⟨b,0,none⟩) (n + 1) c7) (n + 1) ((swapD hs i ((i - 1) / 2)).flatMap Due.enc) from by
       have h0 := HR9.out
       rw [← HL.out] at h0
       have hli : i < hs.length := by rw [HL.out];exact hin
       have hlp : (i - 1) / 2 < hs.length := by rw [HL.out];exact hpn
       have e1 := owns_put (k := i) (j := 0) (x' := (⟨y.At,x.Id⟩ : Due)) Due.size (by omega) HX.out (u := .int .i64 y.At) rfl h0
       have g1 : (hs.set i ⟨y.At,x.Id⟩)[i]? = some ⟨y.At,x.Id⟩ := by rw [List.getElem?_set_self hli]
       have e2 := owns_put (k := i) (j := 1) (x' := y) Due.size (by omega) g1 (u := .int .i64 y.Id) rfl e1
       rw [List.set_set] at e2
       have g2 : (hs.set i y)[(i - 1) / 2]? = some y := by rw [List.getElem?_set_ne (by omega)];exact HY.out
       have e3 := owns_put (k := (i - 1) / 2) (j := 0) (x' := (⟨x.At,y.Id⟩ : Due)) Due.size (by omega) g2 (u := .int .i64 x.At) rfl e2
       have g3 : ((hs.set i y).set ((i - 1) / 2) ⟨x.At,y.Id⟩)[(i - 1) / 2]? = some ⟨x.At,y.Id⟩ := by rw [List.getElem?_set_self (by rw [List.length_set];exact hlp)]
       have e4 := owns_put (k := (i - 1) / 2) (j := 1) (x' := x) Due.size (by omega) g3 (u := .int .i64 x.Id) rfl e3
       rw [List.set_set] at e4
       have e5 : swapD hs i ((i - 1) / 2) = (hs.set i y).set ((i - 1) / 2) x := by unfold swapD;rw [HNX.out,HNY.out]
       rw [show ((hs.set i y).set ((i - 1) / 2) x).length = n + 1 by rw [List.length_set,List.length_set];exact HL.out] at e4
       rw [e5]
       simp only [Nat.add_zero] at e4
       exact owns_ext e4 ((Ext.refl _).drew))
      have HXW := Hh (show Ext W ((((w9.setCell ⟨b,i * 2,none⟩ (.int .i64 y.At)).setCell ⟨b,i * 2 + 1,none⟩ (.int .i64 y.Id)).setCell ⟨b,(i - 1) / 2 * 2,none⟩ (.int .i64 x.At)).setCell ⟨b,(i - 1) / 2 * 2 + 1,none⟩ (.int .i64 x.Id)).drew from Ext.drew (Ext.setCell (Ext.setCell (Ext.setCell (Ext.setCell (HBW.out.trans HB9.out) hb0 _) hb0 _) hb0 _) hb0 _))
      have HMW := Hh (show ∀ z,z ∈ swapD hs i ((i - 1) / 2) ↔ z ∈ xs ∨ z = d from fun z => by rw [HSM.out z];exact HM.out z)
      have HOW := Hh (show ∀ z ∈ swapD hs i ((i - 1) / 2),z.ok from fun z hz => HO.out z ((HSM.out z).1 hz))
      have HLW := Hh (show (swapD hs i ((i - 1) / 2)).length = n + 1 by rw [swap_len];exact HL.out)
      generalize swapD hs i ((i - 1) / 2) = hs2 at *
      clear P0 P1 Y0 Y1 f0 f1 f2 f3 HR9 HR
      generalize ((((w9.setCell ⟨b,i * 2,none⟩ (.int .i64 y.At)).setCell ⟨b,i * 2 + 1,none⟩ (.int .i64 y.Id)).setCell ⟨b,(i - 1) / 2 * 2,none⟩ (.int .i64 x.At)).setCell ⟨b,(i - 1) / 2 * 2 + 1,none⟩ (.int .i64 x.Id)) = w10 at *
      go_wp2
      go_roundw
      case rel => exact ⟨(i - 1) / 2,hs2,by omega,by first | rfl | go_num | (simp;done),HLW,HUP,HMW,HOW,HW,HXW.out⟩
      case measure => simp [intOf];omega
def RetHeap (w : World) (xs : List Due) : Ending → World → Prop := fun e w' => ∃ (A : Option Addr) (n c : Nat) (hs : List Due),e = .returned (.tuple #[.slice A n c,.bool true]) ∧ SlAt RDue 2 w' A n hs ∧ n ≤ c ∧ n = xs.length ∧ heapB hs = true ∧ (∀ x,x ∈ hs ↔ x ∈ xs) ∧ Ext w w'
theorem HeapOf_c (xs : List Due) (A : Option Addr) (n c : Nat) (w : World) (h : SlAt RDue 2 w A n xs) (hd : ∀ x ∈ xs,dueB x = true) (hn : n ≤ 200) : Calls Tryz.prog 5 #[.slice A n c] w (RetHeap w xs) := by
 have HN := Hh h.len
 have H := Hh (fun (u : World) (e : Ext w u) => h.ext (Flat.mono Due.enc Due.ok) e)
 have HD := Hh hd
 clear h hd
 go_enter Tryz.func5,Tryz.ntmps5
 go_wp2
 go_loopw [4,12] (fun l iv wr => ∃ (k : Nat) (A6 : Option Addr) (c6 : Nat) (hs : List Due),k ≤ n ∧ iv = .int .i64 k ∧ l = .slice A6 k c6 ∧ k ≤ c6 ∧ Hid (SlAt RDue 2 wr A6 k hs) ∧ Hid (heapB hs = true) ∧ Hid (∀ x,x ∈ hs ↔ x ∈ xs.take k) ∧ Ext w wr) (fun _ iv _ => n - (intOf iv).toNat)
 case atStart => exact ⟨0,_,0,[],Nat.zero_le _,rfl,rfl,Nat.le_refl _,Hh (SlAt.nil _),Hh rfl,Hh (fun x => by simp),(Ext.refl _).alloc _⟩
 case round =>
  obtain ⟨k,A6,c6,hs,hk,rfl,rfl,hkc,HS,HB,HM,hb⟩ := hrel
  by_cases hlt : k < n
  ·obtain ⟨b,o,x,cs,rfl,hbw,hx,_,hc,rfl,hok⟩ := (H.out wr hb).at_ hlt
   have g0 := hc 0 _ rfl
   have g1 := hc 1 _ rfl
   simp only [Nat.add_zero] at g0
   have HX := Hh (HD.out x (List.mem_of_getElem? hx))
   have HT := Hh (take_succ hx)
   have HP := Hh (fun (u : World) (e : Ext wr u) => HeapPush_c hs x A6 k c6 u (HS.out.ext (Flat.mono _ _) e) HB.out HX.out (by omega) hok)
   have HL := Hh HS.out.len
   clear hc hx hok
   go_wp2_with fail
   refine (HP.out _ ((Ext.refl _).alloc _)).mono ?_
   rintro e w4 ⟨A7,n7,c7,hs7,rfl,hs,hc7,hn7,hh7,hm7,hb7⟩
   obtain rfl : n7 = k + 1 := by rw [hn7,HL.out]
   have HS7 := Hh hs
   have HM7 := Hh hm7
   have HH7 := Hh hh7
   clear hs hn7 hm7 hh7
   go_wp2
   go_roundw
   case rel => exact ⟨k + 1,A7,c7,hs7,by omega,by go_num,rfl,hc7,HS7,HH7,Hh (fun z => by rw [HM7.out z,HT.out,List.mem_append,HM.out z,List.mem_singleton]),hb.trans (((Ext.refl _).alloc _).trans hb7)⟩
   case measure => simp [intOf];omega
  ·obtain rfl : k = n := by omega
   have HMF := Hh (show ∀ x,x ∈ hs ↔ x ∈ xs from fun x => by rw [HM.out x,List.take_of_length_le (by rw [HN.out];exact Nat.le_refl _)])
   go_wp2
   exact bodyPost_ret (by simp [results,Tryz.results5,go_sem, *]) rfl ⟨A6,k,c6,hs,rfl,HS.out,hkc,HN.out.symm,HB.out,HMF.out,hb⟩
end Go.Proofs.YtfanjhcdjbnnnaaGreat
