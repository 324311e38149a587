/- Read, Law, Nest, Vecs, Prof, Over, Fits. -/
import Derived.Test.YtfanjhcdjbnnnaaGreatK01
import Derived.ProofKit
import Derived.OpenShut
import Derived.Deep.Slices
import Derived.Laws.StructEq
namespace Go.Proofs.YtfanjhcdjbnnnaaGreat
set_option maxHeartbeats 8000000
set_option maxRecDepth 10000
open Go.RowKit Go.ChangeShapes Go.WideShapes Go.Deep
section
variable {H : Type} {enc : TypeId × Value → H} {P : Program} {W : World}
def Rd {α : Type} (enc : TypeId × Value → H) (P : Program) (W : World) (t : TypeId) (R : Rel α) : Prop :=
 ∀ fuel cs x,DataW.trod enc P W 0 (fun _ => true) true fuel t cs = some x → ∃ a,R W cs a
def RSl {α : Type} (R : Rel α) (sz : Nat) : Rel (List α) := fun w cs xs => ∃ A n c,cs = [.slice A n c] ∧ SlAt R sz w A n xs ∧ n ≤ maxLen
def RU8 : Rel Int := fun _ cs n => cs = [.int .u8 n]
theorem rd_u8 {t : TypeId} (ht : P.underlying t = some (.int .u8)) : Rd enc P W t RU8 := by
 intro fuel cs x h
 obtain ⟨n,rfl,_,hw⟩ := DataW.trod_int ht h
 exact ⟨n,rfl⟩
theorem spot_none {w : World} {a : Addr} {v : Value} (h : w.cell? a = some v) : a = ⟨a.block,a.off,none⟩ := by
 obtain ⟨b,o,s⟩ := a
 cases s with
 | none => rfl
 | some k => simp [World.cell?] at h;split at h <;> simp at h
theorem rd_slice {α : Type} {R : Rel α} {t e : TypeId} {sz : Nat} (ht : P.underlying t = some (.slice e)) (hc : P.cellsOf e = sz) (hsz : 0 < sz) (hR : Rd enc P W e R) : Rd enc P W t (RSl R sz) := by
 intro fuel cs x h
 rcases open_slice ht h with ⟨rfl,_⟩ | ⟨a,len,cap,m,n,D,Pl,rfl,hb,hl,hm,hmm,_,hx⟩
 ·exact ⟨[],none,0,0,rfl,SlAt.nil none,by unfold maxLen;omega⟩
 ·have hmc : m = cap := by rw [hmm];rfl
  have hlen : ∀ i,i < len → ∃ y : α,∃ cs',W.cells? 0 (a.add (i * sz)) sz = some cs' ∧ R W cs' y := by
   intro i hi
   obtain ⟨cs',h1,h2⟩ := hx i (by omega)
   rw [hc] at h1
   obtain ⟨y,hy⟩ := hR _ _ _ h2
   exact ⟨y,cs',h1,hy⟩
  rcases Nat.eq_zero_or_pos len with h0 | h0
  ·subst h0
   exact ⟨[],some a,0,cap,rfl,SlAt.nil _,by omega⟩
  ·obtain ⟨y0,_⟩ := hlen 0 h0
   haveI : Inhabited α := ⟨y0⟩
   obtain ⟨f,hf⟩ := choose_lt hlen
   have ha : a = ⟨a.block,a.off,none⟩ ∧ a.block < W.heap.size := by
    obtain ⟨cs',h1,_⟩ := hf 0 h0
    obtain ⟨_,h2,h3⟩ := World.cells?_some h1
    have h4 := h3 0 hsz
    rw [List.getElem?_eq_getElem (by omega)] at h4
    simp only [Nat.zero_mul,Addr.add,if_true] at h4
    exact ⟨spot_none h4,lt_of_cell h4⟩
   obtain ⟨hae,hab⟩ := ha
   refine ⟨(List.range len).map f,some a,len,cap,rfl,⟨by simp,fun _ => ⟨a.block,a.off,by rw [← hae],hab,fun k y hy => ?_⟩⟩,by omega⟩
   have hk : k < len := by have := (List.getElem?_eq_some_iff.1 hy).1;simpa using this
   obtain ⟨cs',h1,h2⟩ := hf k hk
   obtain ⟨_,h3,h4⟩ := World.cells?_some h1
   have hyf : y = f k := by simp [hk] at hy;exact hy.symm
   subst hyf
   refine ⟨cs',h3,fun j u hu => ?_,h2⟩
   have hj : j < sz := by have := (List.getElem?_eq_some_iff.1 hu).1;omega
   rw [← hu,← h4 j hj]
   rw [hae]
   unfold Addr.add
   by_cases e1 : k * sz = 0 <;> by_cases e2 : j = 0 <;> simp [e1,e2,Nat.add_assoc]
theorem open_sl {α : Type} {R : Rel α} {sz : Nat} {t e : TypeId} {r : Reach} {b : Nat} {v : Value} {d : DataW H} {p : List MemPlace} (ht : P.underlying t = some (.slice e)) (hv : Value.okWide P W r b t v)
  (h : DataW.Trod enc P W 0 (fun _ => true) true t v d p) (hR : Rd enc P W t (RSl R sz)) : ∃ A n c xs,v = .slice A n c ∧ SlAt R sz W A n xs ∧ n ≤ maxLen := by
 obtain ⟨A,n,c,rfl⟩ := okWide_slice ht hv
 obtain ⟨fuel,hf⟩ := h
 obtain ⟨xs,A',n',c',he,h1,h2⟩ := hR _ _ _ hf
 simp only [Value.cells,List.cons.injEq,Value.slice.injEq,and_true] at he
 obtain ⟨rfl,rfl,rfl⟩ := he
 exact ⟨A,n,c,xs,rfl,h1,h2⟩
end
end Go.Proofs.YtfanjhcdjbnnnaaGreat
namespace Go.Proofs.YtfanjhcdjbnnnaaGreat
set_option maxHeartbeats 8000000
set_option maxRecDepth 10000
open Go.RowKit
theorem law_box (w : World) (cs : List Value) (e : TypeId) (j : Nat) (u : Value) (h : cs[j]? = some u) : (w.alloc (.cells cs.toArray e)).cell? ⟨w.heap.size,j,none⟩ = some u := by
 rw [cell_of_row _ _ _ cs.toArray e (0,0) (heap_alloc_new w _)];simpa using h
structure Turned (lo hi : Nat) (w w' : World) : Prop where
 os : w'.os = w.os
 tape : w'.tape = w.tape
 output : w'.output = w.output
 size : w.heap.size ≤ w'.heap.size
 block : ∀ k,k < w.heap.size → (k < lo ∨ hi ≤ k) → w'.heap[k]? = w.heap[k]?
theorem Ext.turned {w w' : World} (h : Ext w w') (lo hi : Nat) : Turned lo hi w w' := ⟨h.os,h.tape,h.output,h.size,fun k hk _ => h.block k hk⟩
theorem Turned.refl (lo hi : Nat) (w : World) : Turned lo hi w w := (Ext.refl w).turned lo hi
theorem Turned.trans {lo hi : Nat} {w w1 w2 : World} (h : Turned lo hi w w1) (k : Turned lo hi w1 w2) : Turned lo hi w w2 :=
 ⟨k.os.trans h.os,k.tape.trans h.tape,k.output.trans h.output,Nat.le_trans h.size k.size,fun b hb hr => (k.block b (Nat.lt_of_lt_of_le hb h.size) hr).trans (h.block b hb hr)⟩
theorem ext_turned {lo hi : Nat} {w w1 w2 : World} (h : Ext w w1) (k : Turned lo hi w1 w2) (hl : w.heap.size ≤ lo) : Ext w w2 :=
 ⟨k.os.trans h.os,k.tape.trans h.tape,k.output.trans h.output,Nat.le_trans h.size k.size,fun b hb => (k.block b (Nat.lt_of_lt_of_le hb h.size) (.inl (Nat.lt_of_lt_of_le hb hl))).trans (h.block b hb)⟩
theorem Turned.le {lo hi : Nat} {w w' : World} (h : Turned lo hi w w') : w.heap.size ≤ w'.heap.size := h.size
section
variable {α : Type} {enc : α → List Value} {ok : α → Prop} {e : TypeId} {sz lo hi lo' hi' : Nat} {w w' : World} {v : Value} {xs : List α}
end
end Go.Proofs.YtfanjhcdjbnnnaaGreat
namespace Go.Proofs.YtfanjhcdjbnnnaaGreat
open Go.RowKit
set_option linter.unusedVariables false
set_option maxHeartbeats 8000000
set_option maxRecDepth 10000
end Go.Proofs.YtfanjhcdjbnnnaaGreat
namespace Go.Proofs.YtfanjhcdjbnnnaaGreat
set_option maxHeartbeats 8000000
set_option maxRecDepth 10000
open Go.RowKit
theorem run_vec_eq (w : World) (a b c a' b' c' : Int) : (binOp .eql 29 (.agg #[.int .i64 a,.int .i64 b,.int .i64 c]) (.agg #[.int .i64 a',.int .i64 b',.int .i64 c'])).run Tryz.prog w = .ok (.bool (a == a' && (b == b' && c == c'))) w := by
 simp [go_sem,Tryz.underlying29,Tryz.underlying3]
 by_cases h1 : a = a' <;> by_cases h2 : b = b' <;> by_cases h3 : c = c' <;> simp [h1,h2,h3]
theorem vec_guard : Tryz.prog.eqGuardType Tryz.prog.depth 29 = false := by kernel_rfl
theorem run_vec_guard (w : World) (op : BinOp) (x y : Operand) (xs ys : Array Value) : (eqGuard op 29 x y (.agg xs) (.agg ys)).run Tryz.prog w = .ok () w := run_eqGuard_agg w op _ x y xs ys vec_guard
end Go.Proofs.YtfanjhcdjbnnnaaGreat
namespace Go.Proofs.YtfanjhcdjbnnnaaGreat
set_option maxHeartbeats 8000000
set_option maxRecDepth 10000
open Go.RowKit
set_option linter.unusedVariables false
theorem cell_box (w : World) (cs : List Value) (e : TypeId) (j : Nat) (u : Value) (h : cs[j]? = some u) : (w.alloc (.cells cs.toArray e)).cell? ⟨w.heap.size,j,none⟩ = some u := by
 rw [cell_of_row _ _ _ cs.toArray e (0,0) (heap_alloc_new w _)];simpa using h
theorem profB_short {l : List Pt} (h : ¬ (1 ≤ l.length ∧ l.length ≤ 200)) : profB l = false := by
 unfold profB;rw [decide_eq_false h];rfl
theorem profB_first {l : List Pt} {x : Pt} (h : l[0]? = some x) (hx : x.At ≠ 0) : profB l = false := by
 unfold profB
 cases l with
 | nil => simp at h
 | cons y r => simp at h;subst h;simp [hx]
theorem profB_rest {l : List Pt} {x : Pt} (h : l[0]? = some x) (hx : x.At = 0) (hl : 1 ≤ l.length ∧ l.length ≤ 200) : profB l = chainGo ptB ptLt none l := by
 unfold profB
 rw [decide_eq_true hl]
 cases l with
 | nil => simp at h
 | cons y r => simp at h;subst h;simp [hx]
attribute [local go_sem ↓] run_vec_eq run_vec_guard
theorem ProfOk_c (xs : List Pt) (A : Option Addr) (n c : Nat) (w : World) (h : SlAt RPt 4 w A n xs) (hl : n ≤ maxLen) : Calls Tryz.prog 80 #[.agg #[.slice A n c]] w (Ret w (.bool (profB xs))) := by
 unfold maxLen at hl
 have HN := Hh h.len
 have HM := Hh (Flat.mono Pt.enc Pt.ok)
 rcases (Bool.eq_false_or_eq_true (withinB n 1 200)).symm with g1 | g1
 ·have HF := Hh (show profB xs = false from profB_short (by rw [HN.out];unfold withinB at g1;rw [decide_eq_false_iff_not] at g1;omega))
  go_enter Tryz.func80,Tryz.ntmps80
  go_wp2_with fail
  refine (within_c _ _ _ _).mono ?_
  rintro e w1 ⟨rfl,rfl⟩
  go_wp2
  exact ret_bool rfl rfl rfl HF.out.symm Ext.go
 have hn8 : 1 ≤ n ∧ n ≤ 200 := by unfold withinB at g1;rw [decide_eq_true_iff] at g1;omega
 obtain ⟨b0,o0,x0,cs0,rfl,hbw0,hx0,_,hc0,rfl,_⟩ := h.at_ (show 0 < n by omega)
 have e0 := hc0 0 _ rfl
 simp only [Nat.zero_mul,Nat.add_zero] at e0
 have hz1 : b0 < w.heap.size + 1 := by omega
 by_cases g2 : x0.At = 0
 rotate_left
 ·have HF := Hh (profB_first hx0 g2)
  have g3 : (x0.At != 0) = true := by simpa using g2
  clear g2
  go_enter Tryz.func80,Tryz.ntmps80
  go_wp2_with fail
  refine (within_c _ _ _ _).mono ?_
  rintro e w1 ⟨rfl,rfl⟩
  go_wp2
  exact ret_bool rfl rfl rfl HF.out.symm Ext.go
 have HF := Hh (profB_rest hx0 g2 (by rw [HN.out];omega))
 rw [g2] at e0
 clear g2 hx0 hc0
 go_enter Tryz.func80,Tryz.ntmps80
 go_wp2_with fail
 refine (within_c _ _ _ _).mono ?_
 rintro e w1 ⟨rfl,rfl⟩
 go_wp2
 clear e0
 go_loopw [21] (fun i wr => ∃ (k : Nat),k ≤ n ∧ i = .int .i64 k ∧ Ext (w.alloc (.cells #[.slice (some ⟨b0,o0,none⟩) n c] 71)) wr ∧ Hid (chainGo ptB ptLt none xs = chainGo ptB ptLt (prevOf xs k) (xs.drop k))) (fun i _ => n - (intOf i).toNat)
 case atStart => exact ⟨0,Nat.zero_le _,rfl,Ext.refl _,Hh rfl⟩
 case round =>
  obtain ⟨k,hk,rfl,hb0,HCH⟩ := hrel
  have hb : Ext w wr := ((Ext.refl w).alloc _).trans hb0
  have q0 := hb0.cell (cell_box w [.slice (some ⟨b0,o0,none⟩) n c] 71 0 _ rfl)
  have hwz := hb0.le
  simp at hwz
  have HE := Hh (show profB xs = chainGo ptB ptLt (prevOf xs k) (xs.drop k) by rw [HF.out,HCH.out])
  by_cases hlt : k < n
  ·obtain ⟨b,o,d,cs,e,hbw,hx,_,hc,rfl,hok⟩ := (h.ext HM.out hb).at_ hlt
   simp only [Option.some.injEq,Addr.mk.injEq,and_true] at e
   obtain ⟨rfl,rfl⟩ := e
   have c0 := hc 0 _ rfl
   have c1 := hc 1 _ rfl
   have c2 := hc 2 _ rfl
   have c3 := hc 3 _ rfl
   simp only [Nat.add_zero] at c0
   have HX := Hh hx;have HB := Hh hb
   have HDe := Hh (fun (hb : ptB d = false) => chain_bad (lt := ptLt) (prevOf xs k) hb (xs.drop (k + 1)))
   have hbw2 : b0 < wr.heap.size + 1 := by omega
   have hbw3 : w.heap.size < wr.heap.size + 1 := by omega
   have hbw4 : w.heap.size < wr.heap.size := by omega
   have hcx := @Later.cell (wr.alloc (.cells #[.int .i64 d.At,.int .i64 d.Free.A,.int .i64 d.Free.B,.int .i64 d.Free.C] 133))
   rcases (Bool.eq_false_or_eq_true (timeB d.At)).symm with h1 | h1
   ·have HQ := Hh h1
    clear hc hx hb h
    go_wp2
    refine wp_region_ext (by kernel_rfl) (by kernel_rfl) ?_
    repeat (go_big_quiet_step ((go_at_call 43;exact Calls.quiet_ext ((Same.ret (isTime_c _ _))))))
    refine wpQuiet_nil ?_
    intro w1 hb1
    have HB1 := Hh hb1
    clear hcx c0 c1 c2 c3 q0 hb1
    go_wp2
    refine ret_bool rfl rfl rfl ?_ ((HB.out.alloc _).trans HB1.out)
    rw [HE.out,drop_cons HX.out,HDe.out (by unfold ptB;rw [HQ.out];rfl)] <;> rfl
   rcases (Bool.eq_false_or_eq_true (vecB d.Free)).symm with h2 | h2
   ·have HQ := Hh h2
    clear hc hx hb h
    go_wp2
    refine wp_region_ext (by kernel_rfl) (by kernel_rfl) ?_
    repeat (go_big_quiet_step (first | ((go_at_call 43;exact Calls.quiet_ext ((Same.ret (isTime_c _ _))))) | ((go_at_call 45;exact Calls.quiet_ext ((VecOk_c d.Free _))))))
    refine wpQuiet_nil ?_
    intro w1 hb1
    have HB1 := Hh hb1
    clear hcx c0 c1 c2 c3 q0 hb1
    go_wp2
    refine ret_bool rfl rfl rfl ?_ ((HB.out.alloc _).trans HB1.out)
    rw [HE.out,drop_cons HX.out,HDe.out (by unfold ptB;rw [h1,HQ.out];rfl)] <;> rfl
   have HOK := Hh (show ptB d = true by unfold ptB;rw [h1,h2];rfl)
   by_cases hk0 : k = 0
   ·have ht : decide (0 < k) = false := by rw [decide_eq_false_iff_not];omega
    have HG := Hh (chain_first (ok := ptB) (lt := ptLt) (l := xs) hk0 d (xs.drop (k + 1)))
    clear hc hx hb h hk0
    go_wp2
    refine wp_region_ext (by kernel_rfl) (by kernel_rfl) ?_
    repeat (go_big_quiet_step (first | ((go_at_call 43;exact Calls.quiet_ext ((Same.ret (isTime_c _ _))))) | ((go_at_call 45;exact Calls.quiet_ext ((VecOk_c d.Free _))))))
    refine wpQuiet_nil ?_
    intro w1 hb1
    have HB1 := Hh hb1
    clear hcx c0 c1 c2 c3 q0 hb1
    go_wp2
    go_roundw
    case rel => exact ⟨k + 1,by omega,by go_num,(hb0.alloc _).trans HB1.out,Hh (by rw [HCH.out,drop_cons HX.out,HG.out,prevOf_succ HX.out,HOK.out,Bool.true_and])⟩
    case measure => simp [intOf];omega
   ·have ht : decide (0 < k) = true := by rw [decide_eq_true_iff];omega
    obtain ⟨b',o',q,cs',e,_,hx',_,hc',rfl,_⟩ := (h.ext HM.out hb).at_ (show k - 1 < n by omega)
    simp only [Option.some.injEq,Addr.mk.injEq,and_true] at e
    obtain ⟨rfl,rfl⟩ := e
    have d0 := hc' 0 _ rfl
    have d1 := hc' 1 _ rfl
    have d2 := hc' 2 _ rfl
    have d3 := hc' 3 _ rfl
    simp only [Nat.add_zero] at d0
    have hk1 : 0 < k := by omega
    have hprev : prevOf xs k = some q := by rw [prevOf,if_neg hk0,hx']
    have HP := Hh hprev
    rcases Bool.eq_false_or_eq_true (decide (d.At ≤ q.At)) with h5 | h5
    ·have H5 := Hh (show ptLt q d = false by unfold ptLt;rw [decide_eq_true_iff] at h5;rw [decide_eq_false (by omega)];rfl)
     clear hc hx hb h hc' hx' hprev hk0
     go_wp2
     refine wp_region_ext (by kernel_rfl) (by kernel_rfl) ?_
     repeat (go_big_quiet_step (first | ((go_at_call 43;exact Calls.quiet_ext ((Same.ret (isTime_c _ _))))) | ((go_at_call 45;exact Calls.quiet_ext ((VecOk_c d.Free _))))))
     refine wpQuiet_nil ?_
     intro w1 hb1
     have HB1 := Hh hb1
     clear hcx c0 c1 c2 c3 q0 d0 d1 d2 d3 hb1
     clear h5 ht h1 h2
     go_wp2
     exact ret_bool rfl rfl rfl (by rw [HE.out,drop_cons HX.out,chain_ge HP.out H5.out]) ((HB.out.alloc _).trans HB1.out)
    rcases (Bool.eq_false_or_eq_true (q.Free.A == d.Free.A)).symm with e1 | e1
    ·have H5 := Hh (show ptLt q d = true by unfold ptLt;rw [decide_eq_false_iff_not] at h5;rw [decide_eq_true (by omega),decide_eq_false (fun hh => by simp [hh.1] at e1)];rfl)
     clear hc hx hb h hc' hx' hprev hk0
     go_wp2
     refine wp_region_ext (by kernel_rfl) (by kernel_rfl) ?_
     repeat (go_big_quiet_step (first | ((go_at_call 43;exact Calls.quiet_ext ((Same.ret (isTime_c _ _))))) | ((go_at_call 45;exact Calls.quiet_ext ((VecOk_c d.Free _))))))
     refine wpQuiet_nil ?_
     intro w1 hb1
     have HB1 := Hh hb1
     clear hcx c0 c1 c2 c3 q0 d0 d1 d2 d3 hb1
     clear e1 h5 ht h1 h2
     go_wp2
     go_roundw
     case rel => exact ⟨k + 1,by omega,by go_num,(hb0.alloc _).trans HB1.out,Hh (by rw [HCH.out,drop_cons HX.out,chain_lt HP.out H5.out,prevOf_succ HX.out,HOK.out,Bool.true_and])⟩
     case measure => simp [intOf];omega
    rcases (Bool.eq_false_or_eq_true (q.Free.B == d.Free.B)).symm with e2 | e2
    ·have H5 := Hh (show ptLt q d = true by unfold ptLt;rw [decide_eq_false_iff_not] at h5;rw [decide_eq_true (by omega),decide_eq_false (fun hh => by simp [hh.2.1] at e2)];rfl)
     clear hc hx hb h hc' hx' hprev hk0
     go_wp2
     refine wp_region_ext (by kernel_rfl) (by kernel_rfl) ?_
     repeat (go_big_quiet_step (first | ((go_at_call 43;exact Calls.quiet_ext ((Same.ret (isTime_c _ _))))) | ((go_at_call 45;exact Calls.quiet_ext ((VecOk_c d.Free _))))))
     refine wpQuiet_nil ?_
     intro w1 hb1
     have HB1 := Hh hb1
     clear hcx c0 c1 c2 c3 q0 d0 d1 d2 d3 hb1
     clear e1 e2 h5 ht h1 h2
     go_wp2
     go_roundw
     case rel => exact ⟨k + 1,by omega,by go_num,(hb0.alloc _).trans HB1.out,Hh (by rw [HCH.out,drop_cons HX.out,chain_lt HP.out H5.out,prevOf_succ HX.out,HOK.out,Bool.true_and])⟩
     case measure => simp [intOf];omega
    rcases (Bool.eq_false_or_eq_true (q.Free.C == d.Free.C)).symm with e3 | e3
    ·have H5 := Hh (show ptLt q d = true by unfold ptLt;rw [decide_eq_false_iff_not] at h5;rw [decide_eq_true (by omega),decide_eq_false (fun hh => by simp [hh.2.2] at e3)];rfl)
     clear hc hx hb h hc' hx' hprev hk0
     go_wp2
     refine wp_region_ext (by kernel_rfl) (by kernel_rfl) ?_
     repeat (go_big_quiet_step (first | ((go_at_call 43;exact Calls.quiet_ext ((Same.ret (isTime_c _ _))))) | ((go_at_call 45;exact Calls.quiet_ext ((VecOk_c d.Free _))))))
     refine wpQuiet_nil ?_
     intro w1 hb1
     have HB1 := Hh hb1
     clear hcx c0 c1 c2 c3 q0 d0 d1 d2 d3 hb1
     clear e1 e2 e3 h5 ht h1 h2
     go_wp2
     go_roundw
     case rel => exact ⟨k + 1,by omega,by go_num,(hb0.alloc _).trans HB1.out,Hh (by rw [HCH.out,drop_cons HX.out,chain_lt HP.out H5.out,prevOf_succ HX.out,HOK.out,Bool.true_and])⟩
     case measure => simp [intOf];omega
    ·have H5 := Hh (show ptLt q d = false by unfold ptLt;simp only [beq_iff_eq] at e1 e2 e3;rw [decide_eq_true (show q.Free.A = d.Free.A ∧ q.Free.B = d.Free.B ∧ q.Free.C = d.Free.C from ⟨e1,e2,e3⟩)];simp)
     clear hc hx hb h hc' hx' hprev hk0
     go_wp2
     refine wp_region_ext (by kernel_rfl) (by kernel_rfl) ?_
     repeat (go_big_quiet_step (first | ((go_at_call 43;exact Calls.quiet_ext ((Same.ret (isTime_c _ _))))) | ((go_at_call 45;exact Calls.quiet_ext ((VecOk_c d.Free _))))))
     refine wpQuiet_nil ?_
     intro w1 hb1
     have HB1 := Hh hb1
     clear hcx c0 c1 c2 c3 q0 d0 d1 d2 d3 hb1
     clear e1 e2 e3 h5 ht h1 h2
     go_wp2
     exact ret_bool rfl rfl rfl (by rw [HE.out,drop_cons HX.out,chain_ge HP.out H5.out]) ((HB.out.alloc _).trans HB1.out)
  ·clear h
   go_wp2
   refine ret_bool rfl rfl rfl ?_ hb
   rw [HE.out,List.drop_eq_nil_of_le (by have := HN.out;omega),chain_end]
theorem sProfOk_c (xs : List Pt) (A : Option Addr) (n c : Nat) (w : World) (h : SlAt RPt 4 w A n xs) (hl : n ≤ maxLen) : Calls Tryz.prog 108 #[.agg #[.slice A n c]] w (Ret w (.bool (profB xs))) := by
 unfold maxLen at hl
 have HN := Hh h.len
 have HM := Hh (Flat.mono Pt.enc Pt.ok)
 rcases (Bool.eq_false_or_eq_true (withinB n 1 200)).symm with g1 | g1
 ·have HF := Hh (show profB xs = false from profB_short (by rw [HN.out];unfold withinB at g1;rw [decide_eq_false_iff_not] at g1;omega))
  have hz : n = 0 ∨ 200 < n := by unfold withinB at g1;rw [decide_eq_false_iff_not] at g1;omega
  clear g1
  rcases hz with rfl | hz
  all_goals
   go_enter Tryz.func108,Tryz.ntmps108
   go_wp2
   exact ret_bool rfl rfl rfl HF.out.symm Ext.go
 have hn8 : 1 ≤ n ∧ n ≤ 200 := by unfold withinB at g1;rw [decide_eq_true_iff] at g1;omega
 obtain ⟨b0,o0,x0,cs0,rfl,hbw0,hx0,_,hc0,rfl,_⟩ := h.at_ (show 0 < n by omega)
 have e0 := hc0 0 _ rfl
 simp only [Nat.zero_mul,Nat.add_zero] at e0
 have hz1 : b0 < w.heap.size + 1 := by omega
 by_cases g2 : x0.At = 0
 rotate_left
 ·have HF := Hh (profB_first hx0 g2)
  have g3 : (x0.At != 0) = true := by simpa using g2
  clear g2
  go_enter Tryz.func108,Tryz.ntmps108
  go_wp2
  exact ret_bool rfl rfl rfl HF.out.symm Ext.go
 have HF := Hh (profB_rest hx0 g2 (by rw [HN.out];omega))
 rw [g2] at e0
 clear g2 hx0 hc0
 go_enter Tryz.func108,Tryz.ntmps108
 go_wp2
 clear e0
 go_loopw [26] (fun i wr => ∃ (k : Nat),k ≤ n ∧ i = .int .i64 k ∧ Ext (w.alloc (.cells #[.slice (some ⟨b0,o0,none⟩) n c] 71)) wr ∧ Hid (chainGo ptB ptLt none xs = chainGo ptB ptLt (prevOf xs k) (xs.drop k))) (fun i _ => n - (intOf i).toNat)
 case atStart => exact ⟨0,Nat.zero_le _,rfl,Ext.refl _,Hh rfl⟩
 case round =>
  obtain ⟨k,hk,rfl,hb0,HCH⟩ := hrel
  have hb : Ext w wr := ((Ext.refl w).alloc _).trans hb0
  have q0 := hb0.cell (cell_box w [.slice (some ⟨b0,o0,none⟩) n c] 71 0 _ rfl)
  have hwz := hb0.le
  simp at hwz
  have HE := Hh (show profB xs = chainGo ptB ptLt (prevOf xs k) (xs.drop k) by rw [HF.out,HCH.out])
  by_cases hlt : k < n
  ·obtain ⟨b,o,d,cs,e,hbw,hx,_,hc,rfl,hok⟩ := (h.ext HM.out hb).at_ hlt
   simp only [Option.some.injEq,Addr.mk.injEq,and_true] at e
   obtain ⟨rfl,rfl⟩ := e
   have c0 := hc 0 _ rfl
   have c1 := hc 1 _ rfl
   have c2 := hc 2 _ rfl
   have c3 := hc 3 _ rfl
   simp only [Nat.add_zero] at c0
   have HX := Hh hx;have HB := Hh hb
   have HDe := Hh (fun (hb : ptB d = false) => chain_bad (lt := ptLt) (prevOf xs k) hb (xs.drop (k + 1)))
   have hbw2 : b0 < wr.heap.size + 1 := by omega
   have hbw3 : w.heap.size < wr.heap.size + 1 := by omega
   have hbw4 : w.heap.size < wr.heap.size := by omega
   have hcx := @Later.cell (wr.alloc (.cells #[.int .i64 d.At,.int .i64 d.Free.A,.int .i64 d.Free.B,.int .i64 d.Free.C] 133))
   rcases (Bool.eq_false_or_eq_true (timeB d.At)).symm with h1 | h1
   ·have HQ := Hh h1
    clear hc hx hb h
    go_wp2
    refine wp_region_ext (by kernel_rfl) (by kernel_rfl) ?_
    repeat (go_big_quiet_step ((go_at_call 58;exact Calls.quiet_ext ((Same.ret (sTime_c _ _))))))
    refine wpQuiet_nil ?_
    intro w1 hb1
    have HB1 := Hh hb1
    clear hcx c0 c1 c2 c3 q0 hb1
    go_wp2
    refine ret_bool rfl rfl rfl ?_ ((HB.out.alloc _).trans HB1.out)
    rw [HE.out,drop_cons HX.out,HDe.out (by unfold ptB;rw [HQ.out];rfl)] <;> rfl
   rcases (Bool.eq_false_or_eq_true (vecB d.Free)).symm with h2 | h2
   ·have HQ := Hh h2
    clear hc hx hb h
    go_wp2
    refine wp_region_ext (by kernel_rfl) (by kernel_rfl) ?_
    repeat (go_big_quiet_step (first | ((go_at_call 58;exact Calls.quiet_ext ((Same.ret (sTime_c _ _))))) | ((go_at_call 88;exact Calls.quiet_ext ((sVecOk_c d.Free _))))))
    refine wpQuiet_nil ?_
    intro w1 hb1
    have HB1 := Hh hb1
    clear hcx c0 c1 c2 c3 q0 hb1
    go_wp2
    refine ret_bool rfl rfl rfl ?_ ((HB.out.alloc _).trans HB1.out)
    rw [HE.out,drop_cons HX.out,HDe.out (by unfold ptB;rw [h1,HQ.out];rfl)] <;> rfl
   have HOK := Hh (show ptB d = true by unfold ptB;rw [h1,h2];rfl)
   by_cases hk0 : k = 0
   ·have ht : decide (0 < k) = false := by rw [decide_eq_false_iff_not];omega
    have HG := Hh (chain_first (ok := ptB) (lt := ptLt) (l := xs) hk0 d (xs.drop (k + 1)))
    clear hc hx hb h hk0
    go_wp2
    refine wp_region_ext (by kernel_rfl) (by kernel_rfl) ?_
    repeat (go_big_quiet_step (first | ((go_at_call 58;exact Calls.quiet_ext ((Same.ret (sTime_c _ _))))) | ((go_at_call 88;exact Calls.quiet_ext ((sVecOk_c d.Free _))))))
    refine wpQuiet_nil ?_
    intro w1 hb1
    have HB1 := Hh hb1
    clear hcx c0 c1 c2 c3 q0 hb1
    go_wp2
    go_roundw
    case rel => exact ⟨k + 1,by omega,by go_num,(hb0.alloc _).trans HB1.out,Hh (by rw [HCH.out,drop_cons HX.out,HG.out,prevOf_succ HX.out,HOK.out,Bool.true_and])⟩
    case measure => simp [intOf];omega
   ·have ht : decide (0 < k) = true := by rw [decide_eq_true_iff];omega
    obtain ⟨b',o',q,cs',e,_,hx',_,hc',rfl,_⟩ := (h.ext HM.out hb).at_ (show k - 1 < n by omega)
    simp only [Option.some.injEq,Addr.mk.injEq,and_true] at e
    obtain ⟨rfl,rfl⟩ := e
    have d0 := hc' 0 _ rfl
    have d1 := hc' 1 _ rfl
    have d2 := hc' 2 _ rfl
    have d3 := hc' 3 _ rfl
    simp only [Nat.add_zero] at d0
    have hk1 : 0 < k := by omega
    have hprev : prevOf xs k = some q := by rw [prevOf,if_neg hk0,hx']
    have HP := Hh hprev
    rcases Bool.eq_false_or_eq_true (decide (d.At ≤ q.At)) with h5 | h5
    ·have H5 := Hh (show ptLt q d = false by unfold ptLt;rw [decide_eq_true_iff] at h5;rw [decide_eq_false (by omega)];rfl)
     clear hc hx hb h hc' hx' hprev hk0
     go_wp2
     refine wp_region_ext (by kernel_rfl) (by kernel_rfl) ?_
     repeat (go_big_quiet_step (first | ((go_at_call 58;exact Calls.quiet_ext ((Same.ret (sTime_c _ _))))) | ((go_at_call 88;exact Calls.quiet_ext ((sVecOk_c d.Free _))))))
     refine wpQuiet_nil ?_
     intro w1 hb1
     have HB1 := Hh hb1
     clear hcx c0 c1 c2 c3 q0 d0 d1 d2 d3 hb1
     clear h5 ht h1 h2
     go_wp2
     exact ret_bool rfl rfl rfl (by rw [HE.out,drop_cons HX.out,chain_ge HP.out H5.out]) ((HB.out.alloc _).trans HB1.out)
    rcases (Bool.eq_false_or_eq_true (q.Free.A == d.Free.A)).symm with e1 | e1
    ·have H5 := Hh (show ptLt q d = true by unfold ptLt;rw [decide_eq_false_iff_not] at h5;rw [decide_eq_true (by omega),decide_eq_false (fun hh => by simp [hh.1] at e1)];rfl)
     clear hc hx hb h hc' hx' hprev hk0
     go_wp2
     refine wp_region_ext (by kernel_rfl) (by kernel_rfl) ?_
     repeat (go_big_quiet_step (first | ((go_at_call 58;exact Calls.quiet_ext ((Same.ret (sTime_c _ _))))) | ((go_at_call 88;exact Calls.quiet_ext ((sVecOk_c d.Free _))))))
     refine wpQuiet_nil ?_
     intro w1 hb1
     have HB1 := Hh hb1
     clear hcx c0 c1 c2 c3 q0 d0 d1 d2 d3 hb1
     clear e1 h5 ht h1 h2
     go_wp2
     go_roundw
     case rel => exact ⟨k + 1,by omega,by go_num,(hb0.alloc _).trans HB1.out,Hh (by rw [HCH.out,drop_cons HX.out,chain_lt HP.out H5.out,prevOf_succ HX.out,HOK.out,Bool.true_and])⟩
     case measure => simp [intOf];omega
    rcases (Bool.eq_false_or_eq_true (q.Free.B == d.Free.B)).symm with e2 | e2
    ·have H5 := Hh (show ptLt q d = true by unfold ptLt;rw [decide_eq_false_iff_not] at h5;rw [decide_eq_true (by omega),decide_eq_false (fun hh => by simp [hh.2.1] at e2)];rfl)
     clear hc hx hb h hc' hx' hprev hk0
     go_wp2
     refine wp_region_ext (by kernel_rfl) (by kernel_rfl) ?_
     repeat (go_big_quiet_step (first | ((go_at_call 58;exact Calls.quiet_ext ((Same.ret (sTime_c _ _))))) | ((go_at_call 88;exact Calls.quiet_ext ((sVecOk_c d.Free _))))))
     refine wpQuiet_nil ?_
     intro w1 hb1
     have HB1 := Hh hb1
     clear hcx c0 c1 c2 c3 q0 d0 d1 d2 d3 hb1
     clear e1 e2 h5 ht h1 h2
     go_wp2
     go_roundw
     case rel => exact ⟨k + 1,by omega,by go_num,(hb0.alloc _).trans HB1.out,Hh (by rw [HCH.out,drop_cons HX.out,chain_lt HP.out H5.out,prevOf_succ HX.out,HOK.out,Bool.true_and])⟩
     case measure => simp [intOf];omega
    rcases (Bool.eq_false_or_eq_true (q.Free.C == d.Free.C)).symm with e3 | e3
    ·have H5 := Hh (show ptLt q d = true by unfold ptLt;rw [decide_eq_false_iff_not] at h5;rw [decide_eq_true (by omega),decide_eq_false (fun hh => by simp [hh.2.2] at e3)];rfl)
     clear hc hx hb h hc' hx' hprev hk0
     go_wp2
     refine wp_region_ext (by kernel_rfl) (by kernel_rfl) ?_
     repeat (go_big_quiet_step (first | ((go_at_call 58;exact Calls.quiet_ext ((Same.ret (sTime_c _ _))))) | ((go_at_call 88;exact Calls.quiet_ext ((sVecOk_c d.Free _))))))
     refine wpQuiet_nil ?_
     intro w1 hb1
     have HB1 := Hh hb1
     clear hcx c0 c1 c2 c3 q0 d0 d1 d2 d3 hb1
     clear e1 e2 e3 h5 ht h1 h2
     go_wp2
     go_roundw
     case rel => exact ⟨k + 1,by omega,by go_num,(hb0.alloc _).trans HB1.out,Hh (by rw [HCH.out,drop_cons HX.out,chain_lt HP.out H5.out,prevOf_succ HX.out,HOK.out,Bool.true_and])⟩
     case measure => simp [intOf];omega
    ·have H5 := Hh (show ptLt q d = false by unfold ptLt;simp only [beq_iff_eq] at e1 e2 e3;rw [decide_eq_true (show q.Free.A = d.Free.A ∧ q.Free.B = d.Free.B ∧ q.Free.C = d.Free.C from ⟨e1,e2,e3⟩)];simp)
     clear hc hx hb h hc' hx' hprev hk0
     go_wp2
     refine wp_region_ext (by kernel_rfl) (by kernel_rfl) ?_
     repeat (go_big_quiet_step (first | ((go_at_call 58;exact Calls.quiet_ext ((Same.ret (sTime_c _ _))))) | ((go_at_call 88;exact Calls.quiet_ext ((sVecOk_c d.Free _))))))
     refine wpQuiet_nil ?_
     intro w1 hb1
     have HB1 := Hh hb1
     clear hcx c0 c1 c2 c3 q0 d0 d1 d2 d3 hb1
     clear e1 e2 e3 h5 ht h1 h2
     go_wp2
     exact ret_bool rfl rfl rfl (by rw [HE.out,drop_cons HX.out,chain_ge HP.out H5.out]) ((HB.out.alloc _).trans HB1.out)
  ·clear h
   go_wp2
   refine ret_bool rfl rfl rfl ?_ hb
   rw [HE.out,List.drop_eq_nil_of_le (by have := HN.out;omega),chain_end]
end Go.Proofs.YtfanjhcdjbnnnaaGreat
namespace Go.Proofs.YtfanjhcdjbnnnaaGreat
open Go.RowKit
set_option linter.unusedVariables false
set_option maxHeartbeats 8000000
set_option maxRecDepth 10000
def spanB (a b : Int) : Bool := timeB a && timeB b && decide (a < b)
theorem isSpan_c (a b : Int) (w : World) : Calls Tryz.prog 81 #[.int .i64 a,.int .i64 b] w (Same w (.bool (spanB a b))) := by
 rcases (Bool.eq_false_or_eq_true (timeB a)).symm with h1 | h1
 ·have HF := Hh (show spanB a b = false by unfold spanB;rw [h1];rfl)
  go_enter Tryz.func81,Tryz.ntmps81
  go_wp2_with fail
  refine (isTime_c _ _).mono ?_
  rintro e w1 ⟨rfl,rfl⟩
  go_wp2
  exact same_bool rfl rfl rfl HF.out.symm
 rcases (Bool.eq_false_or_eq_true (timeB b)).symm with h2 | h2
 ·have HF := Hh (show spanB a b = false by unfold spanB;rw [h1,h2];rfl)
  go_enter Tryz.func81,Tryz.ntmps81
  go_wp2_with fail
  refine (isTime_c _ _).mono ?_
  rintro e w1 ⟨rfl,rfl⟩
  go_wp2_with fail
  refine (isTime_c _ _).mono ?_
  rintro e w2 ⟨rfl,rfl⟩
  go_wp2
  exact same_bool rfl rfl rfl HF.out.symm
 have HF := Hh (show spanB a b = decide (a < b) by unfold spanB;rw [h1,h2];rfl)
 go_enter Tryz.func81,Tryz.ntmps81
 go_wp2_with fail
 refine (isTime_c _ _).mono ?_
 rintro e w1 ⟨rfl,rfl⟩
 go_wp2_with fail
 refine (isTime_c _ _).mono ?_
 rintro e w2 ⟨rfl,rfl⟩
 go_wp2
 all_goals (refine same_bool rfl rfl rfl ?_;rw [HF.out];try (first | (symm;rw [decide_eq_true_iff];omega) | (symm;rw [decide_eq_false_iff_not];omega)))
theorem cell_box_at (w : World) (b : Nat) (hb : w.heap.size = b) (cs : List Value) (e : TypeId) (j : Nat) (u : Value) (h : cs[j]? = some u) : (w.alloc (.cells cs.toArray e)).cell? ⟨b,j,none⟩ = some u := by
 subst hb;exact cell_box w cs e j u h
theorem frozen_box_at (w : World) (b : Nat) (hb : w.heap.size = b) (cs : Array Value) (e : TypeId) (j : Nat) : (w.alloc (.cells cs e)).frozen? ⟨b,j,none⟩ = false := by
 subst hb;simp
section
variable {u : World}
theorem bc1 (w : World) (b : Nat) (v0 : Value) (T : TypeId) (h : Ext (w.alloc (.cells #[v0] T)) u) (hb : w.heap.size = b) : u.cell? ⟨b, 0, none⟩ = some v0 := h.cell (cell_box_at w b hb [v0] T 0 _ rfl)
theorem bc2 (w : World) (b : Nat) (v0 v1 : Value) (T : TypeId) (h : Ext (w.alloc (.cells #[v0, v1] T)) u) (hb : w.heap.size = b) : u.cell? ⟨b, 0, none⟩ = some v0 ∧ u.cell? ⟨b, 1, none⟩ = some v1 := ⟨h.cell (cell_box_at w b hb [v0, v1] T 0 _ rfl), h.cell (cell_box_at w b hb [v0, v1] T 1 _ rfl)⟩
theorem bc3 (w : World) (b : Nat) (v0 v1 v2 : Value) (T : TypeId) (h : Ext (w.alloc (.cells #[v0, v1, v2] T)) u) (hb : w.heap.size = b) : u.cell? ⟨b, 0, none⟩ = some v0 ∧ u.cell? ⟨b, 1, none⟩ = some v1 ∧ u.cell? ⟨b, 2, none⟩ = some v2 := ⟨h.cell (cell_box_at w b hb [v0, v1, v2] T 0 _ rfl), h.cell (cell_box_at w b hb [v0, v1, v2] T 1 _ rfl), h.cell (cell_box_at w b hb [v0, v1, v2] T 2 _ rfl)⟩
theorem bc4 (w : World) (b : Nat) (v0 v1 v2 v3 : Value) (T : TypeId) (h : Ext (w.alloc (.cells #[v0, v1, v2, v3] T)) u) (hb : w.heap.size = b) : u.cell? ⟨b, 0, none⟩ = some v0 ∧ u.cell? ⟨b, 1, none⟩ = some v1 ∧ u.cell? ⟨b, 2, none⟩ = some v2 ∧ u.cell? ⟨b, 3, none⟩ = some v3 := ⟨h.cell (cell_box_at w b hb [v0, v1, v2, v3] T 0 _ rfl), h.cell (cell_box_at w b hb [v0, v1, v2, v3] T 1 _ rfl), h.cell (cell_box_at w b hb [v0, v1, v2, v3] T 2 _ rfl), h.cell (cell_box_at w b hb [v0, v1, v2, v3] T 3 _ rfl)⟩
theorem bc5 (w : World) (b : Nat) (v0 v1 v2 v3 v4 : Value) (T : TypeId) (h : Ext (w.alloc (.cells #[v0, v1, v2, v3, v4] T)) u) (hb : w.heap.size = b) : u.cell? ⟨b, 0, none⟩ = some v0 ∧ u.cell? ⟨b, 1, none⟩ = some v1 ∧ u.cell? ⟨b, 2, none⟩ = some v2 ∧ u.cell? ⟨b, 3, none⟩ = some v3 ∧ u.cell? ⟨b, 4, none⟩ = some v4 := ⟨h.cell (cell_box_at w b hb [v0, v1, v2, v3, v4] T 0 _ rfl), h.cell (cell_box_at w b hb [v0, v1, v2, v3, v4] T 1 _ rfl), h.cell (cell_box_at w b hb [v0, v1, v2, v3, v4] T 2 _ rfl), h.cell (cell_box_at w b hb [v0, v1, v2, v3, v4] T 3 _ rfl), h.cell (cell_box_at w b hb [v0, v1, v2, v3, v4] T 4 _ rfl)⟩
theorem bc11 (w : World) (b : Nat) (v0 v1 v2 v3 v4 v5 v6 v7 v8 v9 v10 : Value) (T : TypeId) (h : Ext (w.alloc (.cells #[v0, v1, v2, v3, v4, v5, v6, v7, v8, v9, v10] T)) u) (hb : w.heap.size = b) : u.cell? ⟨b, 0, none⟩ = some v0 ∧ u.cell? ⟨b, 1, none⟩ = some v1 ∧ u.cell? ⟨b, 2, none⟩ = some v2 ∧ u.cell? ⟨b, 3, none⟩ = some v3 ∧ u.cell? ⟨b, 4, none⟩ = some v4 ∧ u.cell? ⟨b, 5, none⟩ = some v5 ∧ u.cell? ⟨b, 6, none⟩ = some v6 ∧ u.cell? ⟨b, 7, none⟩ = some v7 ∧ u.cell? ⟨b, 8, none⟩ = some v8 ∧ u.cell? ⟨b, 9, none⟩ = some v9 ∧ u.cell? ⟨b, 10, none⟩ = some v10 := ⟨h.cell (cell_box_at w b hb [v0, v1, v2, v3, v4, v5, v6, v7, v8, v9, v10] T 0 _ rfl), h.cell (cell_box_at w b hb [v0, v1, v2, v3, v4, v5, v6, v7, v8, v9, v10] T 1 _ rfl), h.cell (cell_box_at w b hb [v0, v1, v2, v3, v4, v5, v6, v7, v8, v9, v10] T 2 _ rfl), h.cell (cell_box_at w b hb [v0, v1, v2, v3, v4, v5, v6, v7, v8, v9, v10] T 3 _ rfl), h.cell (cell_box_at w b hb [v0, v1, v2, v3, v4, v5, v6, v7, v8, v9, v10] T 4 _ rfl), h.cell (cell_box_at w b hb [v0, v1, v2, v3, v4, v5, v6, v7, v8, v9, v10] T 5 _ rfl), h.cell (cell_box_at w b hb [v0, v1, v2, v3, v4, v5, v6, v7, v8, v9, v10] T 6 _ rfl), h.cell (cell_box_at w b hb [v0, v1, v2, v3, v4, v5, v6, v7, v8, v9, v10] T 7 _ rfl), h.cell (cell_box_at w b hb [v0, v1, v2, v3, v4, v5, v6, v7, v8, v9, v10] T 8 _ rfl), h.cell (cell_box_at w b hb [v0, v1, v2, v3, v4, v5, v6, v7, v8, v9, v10] T 9 _ rfl), h.cell (cell_box_at w b hb [v0, v1, v2, v3, v4, v5, v6, v7, v8, v9, v10] T 10 _ rfl)⟩
theorem bf1 (w : World) (b : Nat) (v0 : Value) (T : TypeId) (h : Ext (w.alloc (.cells #[v0] T)) u) (hb : w.heap.size = b) : u.frozen? ⟨b, 0, none⟩ = false := (h.frozenEq (a := ⟨b, 0, none⟩) (by simp [hb])).trans (frozen_box_at w b hb #[v0] T 0)
theorem bf2 (w : World) (b : Nat) (v0 v1 : Value) (T : TypeId) (h : Ext (w.alloc (.cells #[v0, v1] T)) u) (hb : w.heap.size = b) : u.frozen? ⟨b, 0, none⟩ = false ∧ u.frozen? ⟨b, 1, none⟩ = false := ⟨(h.frozenEq (a := ⟨b, 0, none⟩) (by simp [hb])).trans (frozen_box_at w b hb #[v0, v1] T 0), (h.frozenEq (a := ⟨b, 1, none⟩) (by simp [hb])).trans (frozen_box_at w b hb #[v0, v1] T 1)⟩
theorem bf3 (w : World) (b : Nat) (v0 v1 v2 : Value) (T : TypeId) (h : Ext (w.alloc (.cells #[v0, v1, v2] T)) u) (hb : w.heap.size = b) : u.frozen? ⟨b, 0, none⟩ = false ∧ u.frozen? ⟨b, 1, none⟩ = false ∧ u.frozen? ⟨b, 2, none⟩ = false := ⟨(h.frozenEq (a := ⟨b, 0, none⟩) (by simp [hb])).trans (frozen_box_at w b hb #[v0, v1, v2] T 0), (h.frozenEq (a := ⟨b, 1, none⟩) (by simp [hb])).trans (frozen_box_at w b hb #[v0, v1, v2] T 1), (h.frozenEq (a := ⟨b, 2, none⟩) (by simp [hb])).trans (frozen_box_at w b hb #[v0, v1, v2] T 2)⟩
theorem bf4 (w : World) (b : Nat) (v0 v1 v2 v3 : Value) (T : TypeId) (h : Ext (w.alloc (.cells #[v0, v1, v2, v3] T)) u) (hb : w.heap.size = b) : u.frozen? ⟨b, 0, none⟩ = false ∧ u.frozen? ⟨b, 1, none⟩ = false ∧ u.frozen? ⟨b, 2, none⟩ = false ∧ u.frozen? ⟨b, 3, none⟩ = false := ⟨(h.frozenEq (a := ⟨b, 0, none⟩) (by simp [hb])).trans (frozen_box_at w b hb #[v0, v1, v2, v3] T 0), (h.frozenEq (a := ⟨b, 1, none⟩) (by simp [hb])).trans (frozen_box_at w b hb #[v0, v1, v2, v3] T 1), (h.frozenEq (a := ⟨b, 2, none⟩) (by simp [hb])).trans (frozen_box_at w b hb #[v0, v1, v2, v3] T 2), (h.frozenEq (a := ⟨b, 3, none⟩) (by simp [hb])).trans (frozen_box_at w b hb #[v0, v1, v2, v3] T 3)⟩
theorem bf5 (w : World) (b : Nat) (v0 v1 v2 v3 v4 : Value) (T : TypeId) (h : Ext (w.alloc (.cells #[v0, v1, v2, v3, v4] T)) u) (hb : w.heap.size = b) : u.frozen? ⟨b, 0, none⟩ = false ∧ u.frozen? ⟨b, 1, none⟩ = false ∧ u.frozen? ⟨b, 2, none⟩ = false ∧ u.frozen? ⟨b, 3, none⟩ = false ∧ u.frozen? ⟨b, 4, none⟩ = false := ⟨(h.frozenEq (a := ⟨b, 0, none⟩) (by simp [hb])).trans (frozen_box_at w b hb #[v0, v1, v2, v3, v4] T 0), (h.frozenEq (a := ⟨b, 1, none⟩) (by simp [hb])).trans (frozen_box_at w b hb #[v0, v1, v2, v3, v4] T 1), (h.frozenEq (a := ⟨b, 2, none⟩) (by simp [hb])).trans (frozen_box_at w b hb #[v0, v1, v2, v3, v4] T 2), (h.frozenEq (a := ⟨b, 3, none⟩) (by simp [hb])).trans (frozen_box_at w b hb #[v0, v1, v2, v3, v4] T 3), (h.frozenEq (a := ⟨b, 4, none⟩) (by simp [hb])).trans (frozen_box_at w b hb #[v0, v1, v2, v3, v4] T 4)⟩
theorem bf11 (w : World) (b : Nat) (v0 v1 v2 v3 v4 v5 v6 v7 v8 v9 v10 : Value) (T : TypeId) (h : Ext (w.alloc (.cells #[v0, v1, v2, v3, v4, v5, v6, v7, v8, v9, v10] T)) u) (hb : w.heap.size = b) : u.frozen? ⟨b, 0, none⟩ = false ∧ u.frozen? ⟨b, 1, none⟩ = false ∧ u.frozen? ⟨b, 2, none⟩ = false ∧ u.frozen? ⟨b, 3, none⟩ = false ∧ u.frozen? ⟨b, 4, none⟩ = false ∧ u.frozen? ⟨b, 5, none⟩ = false ∧ u.frozen? ⟨b, 6, none⟩ = false ∧ u.frozen? ⟨b, 7, none⟩ = false ∧ u.frozen? ⟨b, 8, none⟩ = false ∧ u.frozen? ⟨b, 9, none⟩ = false ∧ u.frozen? ⟨b, 10, none⟩ = false := ⟨(h.frozenEq (a := ⟨b, 0, none⟩) (by simp [hb])).trans (frozen_box_at w b hb #[v0, v1, v2, v3, v4, v5, v6, v7, v8, v9, v10] T 0), (h.frozenEq (a := ⟨b, 1, none⟩) (by simp [hb])).trans (frozen_box_at w b hb #[v0, v1, v2, v3, v4, v5, v6, v7, v8, v9, v10] T 1), (h.frozenEq (a := ⟨b, 2, none⟩) (by simp [hb])).trans (frozen_box_at w b hb #[v0, v1, v2, v3, v4, v5, v6, v7, v8, v9, v10] T 2), (h.frozenEq (a := ⟨b, 3, none⟩) (by simp [hb])).trans (frozen_box_at w b hb #[v0, v1, v2, v3, v4, v5, v6, v7, v8, v9, v10] T 3), (h.frozenEq (a := ⟨b, 4, none⟩) (by simp [hb])).trans (frozen_box_at w b hb #[v0, v1, v2, v3, v4, v5, v6, v7, v8, v9, v10] T 4), (h.frozenEq (a := ⟨b, 5, none⟩) (by simp [hb])).trans (frozen_box_at w b hb #[v0, v1, v2, v3, v4, v5, v6, v7, v8, v9, v10] T 5), (h.frozenEq (a := ⟨b, 6, none⟩) (by simp [hb])).trans (frozen_box_at w b hb #[v0, v1, v2, v3, v4, v5, v6, v7, v8, v9, v10] T 6), (h.frozenEq (a := ⟨b, 7, none⟩) (by simp [hb])).trans (frozen_box_at w b hb #[v0, v1, v2, v3, v4, v5, v6, v7, v8, v9, v10] T 7), (h.frozenEq (a := ⟨b, 8, none⟩) (by simp [hb])).trans (frozen_box_at w b hb #[v0, v1, v2, v3, v4, v5, v6, v7, v8, v9, v10] T 8), (h.frozenEq (a := ⟨b, 9, none⟩) (by simp [hb])).trans (frozen_box_at w b hb #[v0, v1, v2, v3, v4, v5, v6, v7, v8, v9, v10] T 9), (h.frozenEq (a := ⟨b, 10, none⟩) (by simp [hb])).trans (frozen_box_at w b hb #[v0, v1, v2, v3, v4, v5, v6, v7, v8, v9, v10] T 10)⟩
end
theorem l03At_c (xs : List Pt) (t : Int) (A : Option Addr) (n c : Nat) (w : World) (h : SlAt RPt 4 w A n xs) (hl : n ≤ maxLen) : Calls Tryz.prog 115 #[.agg #[.slice A n c],.int .i64 t] w (Ret w (.agg #[.int .i64 (freeAt xs t).A,.int .i64 (freeAt xs t).B,.int .i64 (freeAt xs t).C])) := by
 unfold maxLen at hl
 have HN := Hh h.len
 have HM := Hh (Flat.mono Pt.enc Pt.ok)
 have HF := Hh (show freeAt xs t = freeAt xs t from rfl)
 have H0 := Hh (show freeAt xs t = xs.foldl (stepF t) ⟨0,0,0⟩ from rfl)
 generalize freeAt xs t = r at *
 go_enter Tryz.func115,Tryz.ntmps115
 go_wp2
 go_loopw [12] (fun i wr => ∃ (k : Nat) (v : Vec),k ≤ n ∧ i = .int .i64 k ∧ Hid (r = (xs.drop k).foldl (stepF t) v) ∧ wr.cell? ⟨w.heap.size + 1 + 1,0,none⟩ = some (.int .i64 v.A) ∧ wr.cell? ⟨w.heap.size + 1 + 1,1,none⟩ = some (.int .i64 v.B) ∧ wr.cell? ⟨w.heap.size + 1 + 1,2,none⟩ = some (.int .i64 v.C) ∧ wr.frozen? ⟨w.heap.size + 1 + 1,0,none⟩ = false ∧ wr.frozen? ⟨w.heap.size + 1 + 1,1,none⟩ = false ∧ wr.frozen? ⟨w.heap.size + 1 + 1,2,none⟩ = false ∧ Ext ((w.alloc (.cells #[.slice A n c] 71)).alloc (.cells #[.int .i64 0,.int .i64 0,.int .i64 0] 29)) wr ∧ w.heap.size + 1 + 1 < wr.heap.size) (fun i _ => n - (intOf i).toNat)
 case atStart => exact ⟨0,⟨0,0,0⟩,Nat.zero_le _,rfl,H0,(cell_box_at ((w.alloc (.cells #[.slice A n c] 71)).alloc (.cells #[.int .i64 0,.int .i64 0,.int .i64 0] 29)) (w.heap.size + 1 + 1) (by simp) [.int .i64 0,.int .i64 0,.int .i64 0] 29 0 _ rfl),(cell_box_at ((w.alloc (.cells #[.slice A n c] 71)).alloc (.cells #[.int .i64 0,.int .i64 0,.int .i64 0] 29)) (w.heap.size + 1 + 1) (by simp) [.int .i64 0,.int .i64 0,.int .i64 0] 29 1 _ rfl),(cell_box_at ((w.alloc (.cells #[.slice A n c] 71)).alloc (.cells #[.int .i64 0,.int .i64 0,.int .i64 0] 29)) (w.heap.size + 1 + 1) (by simp) [.int .i64 0,.int .i64 0,.int .i64 0] 29 2 _ rfl),(frozen_box_at _ _ (by simp) _ _ _),(frozen_box_at _ _ (by simp) _ _ _),(frozen_box_at _ _ (by simp) _ _ _),Ext.go,by simp⟩
 case round =>
  obtain ⟨k,v,hk,rfl,HR,c0,c1,c2,f0,f1,f2,hbr,hzr⟩ := hrel
  have hb : Ext w wr := (((Ext.refl w).alloc _).alloc _).trans hbr
  by_cases hlt : k < n
  ·obtain ⟨b,o,x,cs,rfl,hbw,hx,_,hc,rfl,_⟩ := (h.ext HM.out hb).at_ hlt
   have g0 := hc 0 _ rfl
   have g1 := hc 1 _ rfl
   have g2 := hc 2 _ rfl
   have g3 := hc 3 _ rfl
   simp only [Nat.add_zero] at g0
   have HS := Hh (show (xs.drop k).foldl (stepF t) v = (xs.drop (k + 1)).foldl (stepF t) (if x.At ≤ t then x.Free else v) by rw [drop_cons hx,List.foldl_cons];rfl)
   clear hc hx h
   by_cases h1 : x.At ≤ t
   ·rw [if_pos h1] at HS
    go_wp2
    go_roundw
    case rel => exact ⟨k + 1,x.Free,by omega,by go_num,Hh (HR.out.trans HS.out),by go_simp,by go_simp,by go_simp,by go_simp,by go_simp,by go_simp,Ext.go,by simp;omega⟩
    case measure => simp [intOf];omega
   ·rw [if_neg h1] at HS
    go_wp2
    go_roundw
    case rel => exact ⟨k + 1,v,by omega,by go_num,Hh (HR.out.trans HS.out),by go_simp,by go_simp,by go_simp,by go_simp,by go_simp,by go_simp,Ext.go,by simp;omega⟩
    case measure => simp [intOf];omega
  ·have HZ := Hh (show r = v by rw [HR.out,List.drop_eq_nil_of_le (by have := HN.out;omega)];rfl)
   obtain ⟨q0,q1,q2⟩ := bc3 (w.alloc (.cells #[.slice A n c] 71)) (w.heap.size + 1) (.int .i64 0) (.int .i64 0) (.int .i64 0) 29 (hbr) (by simp)
   have p0 := (hbr.frozenEq (a := ⟨w.heap.size + 1,0,none⟩) (by simp)).trans (by simp : _ = false)
   have p1 := (hbr.frozenEq (a := ⟨w.heap.size + 1,1,none⟩) (by simp)).trans (by simp : _ = false)
   have p2 := (hbr.frozenEq (a := ⟨w.heap.size + 1,2,none⟩) (by simp)).trans (by simp : _ = false)
   clear h
   go_wp2
   rw [HZ.out]
   exact ret_is (by simp [results,Tryz.results115,go_sem, *]) rfl Ext.go
def fitsB (a b : Vec) : Bool := vecB a && vecB b && decide (a.A ≤ b.A ∧ a.B ≤ b.B ∧ a.C ≤ b.C)
def subV (a b : Vec) : Vec := if fitsB b a = true then ⟨a.A - b.A,a.B - b.B,a.C - b.C⟩ else ⟨0,0,0⟩
theorem vecB_iff {v : Vec} : vecB v = true ↔ (0 ≤ v.A ∧ v.A ≤ 1000000) ∧ (0 ≤ v.B ∧ v.B ≤ 1000000) ∧ (0 ≤ v.C ∧ v.C ≤ 1000000) := by unfold vecB;rw [decide_eq_true_iff]
theorem fits_iff {a b : Vec} : fitsB a b = true ↔ vecB a = true ∧ vecB b = true ∧ a.A ≤ b.A ∧ a.B ≤ b.B ∧ a.C ≤ b.C := by
 unfold fitsB;simp only [Bool.and_eq_true,decide_eq_true_iff,and_assoc]
theorem sVecFits_c (a b : Vec) (w : World) : Calls Tryz.prog 135 #[.agg #[.int .i64 a.A,.int .i64 a.B,.int .i64 a.C],.agg #[.int .i64 b.A,.int .i64 b.B,.int .i64 b.C]] w (Ret w (.bool (fitsB a b))) := by
 rcases (Bool.eq_false_or_eq_true (vecB a)).symm with h1 | h1
 ·have HF := Hh (show fitsB a b = false by unfold fitsB;rw [h1];rfl)
  go_enter Tryz.func135,Tryz.ntmps135
  go_wp2_with fail
  refine (sVecOk_c a _).mono ?_
  rintro e w1 ⟨rfl,hb1⟩
  obtain ⟨hcr1,hfr1,hz1⟩ := hb1.rules
  (try simp at hz1)
  have hy1_w0 : w.heap.size < w1.heap.size := (by omega)
  have hy1_w1 : w.heap.size + 1 < w1.heap.size := (by omega)
  go_wp2
  exact ret_bool rfl rfl rfl HF.out.symm Ext.go
 rcases (Bool.eq_false_or_eq_true (vecB b)).symm with h2 | h2
 ·have HF := Hh (show fitsB a b = false by unfold fitsB;rw [h1,h2];rfl)
  go_enter Tryz.func135,Tryz.ntmps135
  go_wp2_with fail
  refine (sVecOk_c a _).mono ?_
  rintro e w1 ⟨rfl,hb1⟩
  obtain ⟨hcr1,hfr1,hz1⟩ := hb1.rules
  (try simp at hz1)
  have hy1_w0 : w.heap.size < w1.heap.size := (by omega)
  have hy1_w1 : w.heap.size + 1 < w1.heap.size := (by omega)
  go_wp2_with fail
  refine (sVecOk_c b _).mono ?_
  rintro e w2 ⟨rfl,hb2⟩
  obtain ⟨hcr2,hfr2,hz2⟩ := hb2.rules
  (try simp at hz2)
  have hy2_w0 : w.heap.size < w2.heap.size := (by omega)
  have hy2_w1 : w.heap.size + 1 < w2.heap.size := (by omega)
  go_wp2
  exact ret_bool rfl rfl rfl HF.out.symm Ext.go
 ·have HF := Hh (show fitsB a b = decide (a.A ≤ b.A ∧ a.B ≤ b.B ∧ a.C ≤ b.C) by unfold fitsB;rw [h1,h2];rfl)
  go_enter Tryz.func135,Tryz.ntmps135
  go_wp2_with fail
  refine (sVecOk_c a _).mono ?_
  rintro e w1 ⟨rfl,hb1⟩
  obtain ⟨hcr1,hfr1,hz1⟩ := hb1.rules
  (try simp at hz1)
  have hy1_w0 : w.heap.size < w1.heap.size := (by omega)
  have hy1_w1 : w.heap.size + 1 < w1.heap.size := (by omega)
  go_wp2_with fail
  refine (sVecOk_c b _).mono ?_
  rintro e w2 ⟨rfl,hb2⟩
  obtain ⟨hcr2,hfr2,hz2⟩ := hb2.rules
  (try simp at hz2)
  have hy2_w0 : w.heap.size < w2.heap.size := (by omega)
  have hy2_w1 : w.heap.size + 1 < w2.heap.size := (by omega)
  go_wp2
  all_goals (refine ret_bool rfl rfl rfl ?_ Ext.go;rw [HF.out];first | (symm;rw [decide_eq_true_iff];omega) | (symm;rw [decide_eq_false_iff_not];omega) | (rw [decide_eq_decide];omega))
end Go.Proofs.YtfanjhcdjbnnnaaGreat
