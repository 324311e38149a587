/- Base, Data, Help, Small, Chain, Area. -/
import Derived.WalkKit
import Derived.WalkSpells
import Derived.WalkLawsBesides
import Derived.Lib.Hide
import Derived.BigQuiet
import Derived.Test.YtfanjhcdjbnnnaaGreatRows
import Derived.Deep.Light
namespace Go.Proofs.YtfanjhcdjbnnnaaGreat
open Go.RowKit
def Ext (w w' : World) : Prop := Below w.heap.size w w'
section
variable {w w' w0 w1 w2 : World}
theorem Ext.refl (w : World) : Ext w w := Below.refl _ _
theorem Ext.trans (h : Ext w w1) (k : Ext w1 w2) : Ext w w2 := Below.trans h (Below.mono k h.size)
theorem Ext.alloc (h : Ext w0 w) (o : Obj) : Ext w0 (w.alloc o) := Below.alloc h h.size o
theorem Ext.drew (h : Ext w0 w) : Ext w0 w.drew := Below.drew h
theorem Ext.drewN (h : Ext w0 w) (n : Nat) : Ext w0 (w.drewN n) := ⟨h.os,h.tape,h.output,h.size,h.block⟩
theorem Ext.setCell (h : Ext w0 w) {p : Addr} (hp : w0.heap.size ≤ p.block) (u : Value) : Ext w0 (w.setCell p u) := Below.setCell h hp u
theorem Ext.le (h : Ext w w') : w.heap.size ≤ w'.heap.size := h.size
theorem lt_of_cell {a : Addr} {v : Value} (h : w.cell? a = some v) : a.block < w.heap.size := by
 rcases Nat.lt_or_ge a.block w.heap.size with hl | hl
 ·exact hl
 ·unfold World.cell? at h;rw [Array.getElem?_eq_none hl] at h;cases h
theorem Ext.cell (h : Ext w w') {a : Addr} {v : Value} (hc : w.cell? a = some v) : w'.cell? a = some v := (Below.cell h (lt_of_cell hc)).trans hc
theorem Ext.cellEq (h : Ext w w') {a : Addr} (hc : a.block < w.heap.size) : w'.cell? a = w.cell? a := Below.cell h hc
theorem Ext.frozenEq (h : Ext w w') {a : Addr} (hc : a.block < w.heap.size) : w'.frozen? a = w.frozen? a := Below.frozen h hc
end
theorem Ext.rules {w w' : World} (h : Ext w w') : (∀ b o,b < w.heap.size → w'.cell? ⟨b,o,none⟩ = w.cell? ⟨b,o,none⟩) ∧ (∀ b o,b < w.heap.size → w'.frozen? ⟨b,o,none⟩ = w.frozen? ⟨b,o,none⟩) ∧ w.heap.size ≤ w'.heap.size :=
 ⟨fun b o hb => h.cellEq (a := ⟨b,o,none⟩) hb,fun b o hb => h.frozenEq (a := ⟨b,o,none⟩) hb,h.le⟩
def Ret (w : World) (v : Value) : Ending → World → Prop := fun e w' => e = .returned v ∧ Ext w w'
theorem ret_val {w w0 : World} {P : Program} {fn : Func} {a : Act} {t : Tmp} {v : Value} (hr : fn.results = #[.tmp t]) (hv : a.tmps.getD t undef = v) (hd : a.defers = []) (hb : Ext w0 w) : bodyPost P fn (Ret w0 v) .ret a w :=
 bodyPost_ret (results_tmp hr _ _ _) hd ⟨by rw [hv],hb⟩
theorem ret_bool {w w0 : World} {P : Program} {fn : Func} {a : Act} {b b' : Bool} {t : Tmp} (hr : fn.results = #[.tmp t]) (hv : a.tmps.getD t undef = .bool b) (hd : a.defers = []) (e : b = b') (hb : Ext w0 w) : bodyPost P fn (Ret w0 (.bool b')) .ret a w :=
 ret_val hr (by rw [hv,e]) hd hb
theorem ret_int {w w0 : World} {P : Program} {fn : Func} {a : Act} {b b' : Int} {t : Tmp} (hr : fn.results = #[.tmp t]) (hv : a.tmps.getD t undef = .int .i64 b) (hd : a.defers = []) (e : b = b') (hb : Ext w0 w) : bodyPost P fn (Ret w0 (.int .i64 b')) .ret a w :=
 ret_val hr (by rw [hv,e]) hd hb
theorem ret_is {w w0 : World} {P : Program} {fn : Func} {a : Act} {v : Value} (hr : (results fn a.tmps).run P w = .ok v w) (hd : a.defers = []) (hb : Ext w0 w) : bodyPost P fn (Ret w0 v) .ret a w :=
 bodyPost_ret hr hd ⟨rfl,hb⟩
structure Later (w : World) where
 world : World
 ext : Ext w world
instance (w : World) : Nonempty (Later w) := ⟨⟨w,Ext.refl _⟩⟩
theorem Later.cell {w : World} (x : Later w) {b o : Nat} (h : b < w.heap.size) : x.world.cell? ⟨b,o,none⟩ = w.cell? ⟨b,o,none⟩ := x.ext.cellEq (a := ⟨b,o,none⟩) h
theorem wp_region_ext {P : Program} {id : Nat} {Q : Exit → Act → World → Prop} {a : Act} {w : World} {l : List Oper}
  (hm : P.follows .mixedOrders = true) (hB : Region.lexB .any l.toArray = true)
  (h : wpQuiet P l.toArray (fun w' => ∃ x : Later w,w' = x.world) (fun a' => ∀ w',Ext w w' → Q .normal a' w') l a) : (Code.region id l.toArray true).wp P Q a w :=
 wp_region_quiet (C := fun w' => ∃ x : Later w,w' = x.world) hm hB ⟨⟨_,(Ext.refl w).drew⟩,rfl⟩ (by
  have e : (fun a' => ∀ w',Ext w w' → Q .normal a' w') = (fun a' => ∀ w',(∃ x : Later w,w' = x.world) → Q .normal a' w') := by
   funext a';exact propext ⟨fun h w' ⟨x,hx⟩ => hx ▸ h _ x.ext,fun h w' hb => h w' ⟨⟨w',hb⟩,rfl⟩⟩
  rw [e] at h;simpa using h)
theorem Calls.quiet_ext {P : Program} {f : FuncId} {args : Array Value} {w : World} {v : Value} {x : Later w}
  (h : Calls P f args x.world (Ret x.world v)) :
  Calls P f args x.world fun e w'' => e = .returned v ∧ ∃ y : Later w,w'' = y.world :=
 h.mono fun _ _ ⟨he,hb⟩ => ⟨he,⟨_,x.ext.trans hb⟩,rfl⟩
def In64 (n : Int) : Prop := -9223372036854775808 ≤ n ∧ n ≤ 9223372036854775807
instance (n : Int) : Decidable (In64 n) := inferInstanceAs (Decidable (_ ∧ _))
section
variable {α : Type}
abbrev Rel (α : Type) := World → List Value → α → Prop
def Rel.Mono (R : Rel α) : Prop := ∀ (w w' : World) (cs : List Value) (x : α),Ext w w' → R w cs x → R w' cs x
def SlAt (R : Rel α) (sz : Nat) (w : World) (A : Option Addr) (n : Nat) (xs : List α) : Prop :=
 xs.length = n ∧ (0 < n → ∃ b o,A = some ⟨b,o,none⟩ ∧ b < w.heap.size ∧ ∀ k x,xs[k]? = some x → ∃ cs,cs.length = sz ∧
  (∀ j u,cs[j]? = some u → w.cell? ⟨b,o + k * sz + j,none⟩ = some u) ∧ R w cs x)
variable {R : Rel α} {sz n : Nat} {w w' : World} {A : Option Addr} {xs : List α}
theorem SlAt.len (h : SlAt R sz w A n xs) : xs.length = n := h.1
theorem SlAt.nil (A : Option Addr) : SlAt R sz w A 0 [] := ⟨rfl,fun h => absurd h (by omega)⟩
theorem SlAt.at_ (h : SlAt R sz w A n xs) {k : Nat} (hk : k < n) : ∃ b o x cs,A = some ⟨b,o,none⟩ ∧ b < w.heap.size ∧ xs[k]? = some x ∧ cs.length = sz ∧
  (∀ j u,cs[j]? = some u → w.cell? ⟨b,o + k * sz + j,none⟩ = some u) ∧ R w cs x := by
 obtain ⟨b,o,e,hb,hc⟩ := h.2 (by omega)
 have hl : k < xs.length := by rw [h.1];exact hk
 obtain ⟨cs,h1,h2,h3⟩ := hc k _ (List.getElem?_eq_getElem hl)
 exact ⟨b,o,_,cs,e,hb,List.getElem?_eq_getElem hl,h1,h2,h3⟩
theorem SlAt.ext (hm : R.Mono) (h : SlAt R sz w A n xs) (hb : Ext w w') : SlAt R sz w' A n xs := by
 refine ⟨h.1,fun hn => ?_⟩
 obtain ⟨b,o,e,hbl,hc⟩ := h.2 hn
 refine ⟨b,o,e,Nat.lt_of_lt_of_le hbl hb.le,fun k x hx => ?_⟩
 obtain ⟨cs,h1,h2,h3⟩ := hc k x hx
 exact ⟨cs,h1,fun j u hu => hb.cell (h2 j u hu),hm _ _ _ _ hb h3⟩
end
def Flat {α : Type} (enc : α → List Value) (ok : α → Prop) : Rel α := fun _ cs x => cs = enc x ∧ ok x
theorem Flat.mono {α : Type} (enc : α → List Value) (ok : α → Prop) : (Flat enc ok).Mono := fun _ _ _ _ _ h => h
theorem drop_cons {α : Type} {l : List α} {k : Nat} {x : α} (h : l[k]? = some x) : l.drop k = x :: l.drop (k + 1) := by
 obtain ⟨hk,rfl⟩ := List.getElem?_eq_some_iff.1 h
 exact List.drop_eq_getElem_cons hk
theorem take_succ {α : Type} {l : List α} {k : Nat} {x : α} (h : l[k]? = some x) : l.take (k + 1) = l.take k ++ [x] := by
 rw [List.take_add_one,h];rfl
def setCells (w : World) (g p : Nat) : List Value → World
 | [] => w
 | u :: us => setCells (w.setCell ⟨g,p,none⟩ u) g (p + 1) us
def setAll (L : List Value) (p : Nat) : List Value → List Value
 | [] => L
 | u :: us => setAll (L.set p u) (p + 1) us
theorem length_setAll (us : List Value) : ∀ (L : List Value) (p : Nat),(setAll L p us).length = L.length := by
 induction us with
 | nil => intro L p;rfl
 | cons u us ih => intro L p;simp [setAll,ih]
theorem take_setAll (us : List Value) : ∀ (L : List Value) (p : Nat),p + us.length ≤ L.length → (setAll L p us).take (p + us.length) = L.take p ++ us := by
 induction us with
 | nil => intro L p _;simp [setAll]
 | cons u us ih =>
  intro L p h
  simp only [List.length_cons] at h ⊢
  have h1 := ih (L.set p u) (p + 1) (by simp;omega)
  rw [setAll,show p + (us.length + 1) = p + 1 + us.length by omega,h1]
  rw [List.take_add_one,List.take_set_of_le (by omega),List.getElem?_set_self (by omega)]
  simp
section
variable {w w' w0 : World} {base : Nat} {e : TypeId} {size : Nat} {v : Value} {n : Nat} {xs : List Value} {g cap : Nat}
theorem owns_ext (h : w.ownsRow base e size v n xs) (hb : Ext w w') : w'.ownsRow base e size v n xs := by
 obtain ⟨h1,h2⟩ := h
 refine ⟨h1, ?_⟩
 rcases h2 with h2 | ⟨g,cap,cur,hv,hg,hh,r⟩
 ·exact Or.inl h2
 ·refine Or.inr ⟨g,cap,cur,hv,hg, ?_,r⟩
  have : g < w.heap.size := by
   rcases Nat.lt_or_ge g w.heap.size with hl | hl
   ·exact hl
   ·rw [Array.getElem?_eq_none hl] at hh;cases hh
  rw [hb.block g this];exact hh
theorem owns_puts (us : List Value) : ∀ (w : World) (L : List Value) (p : Nat),w.ownsRow base e size (.slice (some ⟨g,0,none⟩) n cap) n L →
  (setCells w g p us).ownsRow base e size (.slice (some ⟨g,0,none⟩) n cap) n (setAll L p us) := by
 induction us with
 | nil => intro w L p h;exact h
 | cons u us ih => intro w L p h;exact ih _ _ _ (h.stored p u).1
theorem Ext.puts (us : List Value) : ∀ (w : World) (p : Nat),Ext w0 w → w0.heap.size ≤ g → Ext w0 (setCells w g p us) := by
 induction us with
 | nil => intro w p h _;exact h
 | cons u us ih => intro w p h hg;exact ih _ _ (h.setCell hg u) hg
theorem owns_cell (h : w.ownsRow base e size (.slice (some ⟨g,0,none⟩) n cap) n xs) {j : Nat} (hj : j < n * size) : ∃ u,w.cell? ⟨g,j,none⟩ = some u :=
 ⟨xs[j]'(by rw [h.1];exact hj),by rw [h.cellAt j hj,List.getElem?_eq_getElem]⟩
theorem owns_lt (h : w.ownsRow base e size (.slice (some ⟨g,0,none⟩) n cap) n xs) : base ≤ g ∧ g < w.heap.size := h.lt g rfl
end
def OwnAt {α : Type} (R : Rel α) (e : TypeId) (sz : Nat) (w : World) (base : Nat) (v : Value) (xs : List α) : Prop :=
 ∃ L,w.ownsRow base e sz v xs.length L ∧ ∀ k x,xs[k]? = some x → R w ((L.drop (k * sz)).take sz) x
section
variable {α : Type} {R : Rel α} {e : TypeId} {sz n base : Nat} {w w' : World} {v : Value} {xs : List α}
theorem OwnAt.sl (h : OwnAt R e sz w base v xs) : ∃ A c,v = .slice A xs.length c ∧ SlAt R sz w A xs.length xs := by
 obtain ⟨L,⟨hlen,h1⟩,h2⟩ := h
 rcases h1 with ⟨rfl,h0⟩ | ⟨g,cap,cur,rfl,hg,hh,hnc,hcm,hcs,htake⟩
 ·have : xs = [] := List.eq_nil_of_length_eq_zero h0
  subst this
  exact ⟨none,0,rfl,SlAt.nil none⟩
 ·refine ⟨_,cap,rfl,rfl,fun hn => ⟨g,0,rfl, ?_,fun k x hx => ⟨_, ?_, ?_,h2 k x hx⟩⟩⟩
  ·rcases Nat.lt_or_ge g w.heap.size with hl | hl
   ·exact hl
   ·rw [Array.getElem?_eq_none hl] at hh;cases hh
  ·have hk : k < xs.length := (List.getElem?_eq_some_iff.1 hx).1
   have : (k + 1) * sz ≤ xs.length * sz := Nat.mul_le_mul_right _ hk
   rw [Nat.add_mul] at this
   simp [hlen];omega
  ·intro j u hu
   have hj : j < sz := by
    have := (List.getElem?_eq_some_iff.1 hu).1
    simp at this;omega
   rw [List.getElem?_take,if_pos hj,List.getElem?_drop] at hu
   rw [cell_of_row w g _ cur e (0,0) hh,Nat.zero_add]
   rw [← htake,List.getElem?_take] at hu
   split at hu
   ·simpa using hu
   ·cases hu
theorem OwnAt.flat {enc : α → List Value} {ok : α → Prop} (hsz : ∀ x,(enc x).length = sz) (hok : ∀ x ∈ xs,ok x) (h : w.ownsRow base e sz v xs.length (xs.flatMap enc)) : OwnAt (Flat enc ok) e sz w base v xs := by
 refine ⟨_,h,fun k x hx => ⟨?_,hok x (List.mem_of_getElem? hx)⟩⟩
 clear h hok
 induction xs generalizing k with
 | nil => simp at hx
 | cons y ys ih =>
  cases k with
  | zero =>
   simp at hx;subst hx
   simp [List.flatMap_cons,← hsz y]
  | succ k =>
   simp at hx
   rw [← ih k hx,List.flatMap_cons,show (k + 1) * sz = (enc y).length + k * sz by rw [hsz,Nat.add_mul];omega,List.drop_append]
   rw [List.drop_eq_nil_of_le (by omega),List.nil_append,Nat.add_sub_cancel_left]
end
theorem SlAt.all {α : Type} {enc : α → List Value} {ok : α → Prop} {sz n : Nat} {w : World} {A : Option Addr} {xs : List α} (h : SlAt (Flat enc ok) sz w A n xs) : ∀ x ∈ xs,ok x := by
 intro x hx
 obtain ⟨k,hk,rfl⟩ := List.getElem_of_mem hx
 obtain ⟨_,_,_,_,hc⟩ := h.2 (by rw [← h.1];omega)
 obtain ⟨_,_,_,_,hok⟩ := hc k _ (List.getElem?_eq_getElem hk)
 exact hok
def RetOwn {α : Type} (R : Rel α) (e : TypeId) (sz : Nat) (w : World) (xs : List α) : Ending → World → Prop :=
 fun en w' => ∃ A c,en = .returned (.slice A xs.length c) ∧ OwnAt R e sz w' w.heap.size (.slice A xs.length c) xs ∧ Ext w w'
def RetSl {α : Type} (R : Rel α) (sz : Nat) (w : World) (xs : List α) : Ending → World → Prop :=
 fun en w' => ∃ A c,en = .returned (.slice A xs.length c) ∧ SlAt R sz w' A xs.length xs ∧ Ext w w'
theorem RetOwn.sl {α : Type} {R : Rel α} {e : TypeId} {sz : Nat} {w : World} {xs : List α} {P : Program} {f : FuncId} {args : Array Value} (h : Calls P f args w (RetOwn R e sz w xs)) : Calls P f args w (RetSl R sz w xs) :=
 h.mono fun en w' ⟨A,c,he,ho,hb⟩ => by
  obtain ⟨A',c',e1,h1⟩ := ho.sl
  injection e1 with e2 e3 e4
  subst e2 e4
  exact ⟨A,c,he,h1,hb⟩
theorem cell_boxed (w : World) (cs : List Value) (e : TypeId) : ∀ j u,cs[j]? = some u → (w.alloc (.cells cs.toArray e)).cell? ((⟨w.heap.size,0,none⟩ : Addr).add j) = some u := by
 intro j u hu
 have : ((⟨w.heap.size,0,none⟩ : Addr).add j) = ⟨w.heap.size,j,none⟩ := by unfold Addr.add;split <;> simp_all
 rw [this,cell_of_row _ _ _ cs.toArray e (0,0) (heap_alloc_new w _)]
 simpa using hu
theorem wpList_append_one {P : Program} {w w0 : World} {ops : Array Oper} {rest : List Oper} {o : Oper} {a : Act} {Q : Exit → Act → World → Prop} (s x : Operand) (t : TypeId)
  (base : Nat) (e : TypeId) (i : TypeInfo) (z : Value) (size bytes : Nat) (v : Value) (n : Nat) (L cs : List Value) (hgd : o.guard = none)
  (ho : o.op = .call { callee := .builtin .append,args := #[s,x],argTypes := #[t,t] })
  (ht : P.underlying t = some (.slice e)) (hi : P.info? e = some i) (hz : i.zero = some z)
  (hsize : i.size = size) (hby : i.bytes = bytes) (hzs : z.cells.size = size) (hsz : 0 < size)
  (hs : a.eval s = v) (hown : w.ownsRow base e size v n L)
  (p : Nat) (hx : a.eval x = .slice (some ⟨p,0,none⟩) 1 1) (hp : p = w.heap.size) (hl : cs.length = size) (h1 : ∀ u ∈ cs,u.oneCell' = true)
  (h63 : n + 1 ≤ maxLen) (hbytes : (n + 1) * bytes ≤ 140737488355328) (hext : Ext w0 w) (hb0 : w0.heap.size ≤ base)
  (hbw : base ≤ w.heap.size)
  (h : ∀ A c w',w'.ownsRow base e size (.slice A (n + 1) c) (n + 1) (L ++ cs) → Ext w0 w' → w'.heap.size ≥ w.heap.size → wpList P ops Q rest (a.put o.dst (.slice A (n + 1) c)) w') : wpList P ops Q (o :: rest) a (w.alloc (.cells cs.toArray e)) := by
 subst hp
 refine wpList_append_own _ hgd s x t ho base e i z size bytes ht hi hz hsize hby hzs hsz v n L hs (hown.alloc _) ⟨w.heap.size,0,none⟩ 1 1 cs hx (by rw [hl,Nat.one_mul]) (cell_boxed w cs e) h1 h63 hbytes (by simp;omega) ?_
 intro v' w' ho' hg' _
 have hb' : Ext w0 w' := Below.grown (Ext.alloc hext _) hg' (by have := hext.le;simp;omega) (fun k hk => by
  have := (hown.alloc (.cells cs.toArray e)).lt k hk;omega)
 have hsz' := hg'.size
 simp at hsz'
 obtain ⟨hlen,⟨_,h0⟩ | ⟨g,cap,cur,rfl,r⟩⟩ := ho'
 ·omega
 ·exact h _ _ _ ⟨hlen,.inr ⟨g,cap,cur,rfl,r⟩⟩ hb' (by omega)
theorem run_append_of_nil {P : Program} (w : World) (base : Nat) (t ty e : TypeId) (i : TypeInfo) (size : Nat) (ht : P.underlying t = some (.slice e)) (hi : P.info? e = some i)
  (v : Value) (n : Nat) (xs : List Value) (hown : w.ownsRow base e size v n xs) (c : Nat) : (Builtin.append_ #[t,t] ty #[v,.slice none 0 c]).run P w = .ok v w := by
 rcases hown.2 with ⟨rfl,rfl⟩ | ⟨g,cap,cur,rfl,_,_,hnc,_⟩
 ·simp [Builtin.append_,run_underlying ht,sizeOf,typeInfo,hi,Builtin.lenOf,Builtin.firstCells]
 ·simp [Builtin.append_,run_underlying ht,sizeOf,typeInfo,hi,Builtin.lenOf,Builtin.firstCells,hnc,storeCells]
theorem SlAt.flatCells {α : Type} {enc : α → List Value} {ok : α → Prop} {sz n : Nat} {w : World} {A : Option Addr} {ys : List α} (h : SlAt (Flat enc ok) sz w A n ys) (hsz : ∀ x,(enc x).length = sz) (hn : 0 < n) :
  ∃ b o,A = some ⟨b,o,none⟩ ∧ b < w.heap.size ∧ ∀ j u,(ys.flatMap enc)[j]? = some u → w.cell? ⟨b,o + j,none⟩ = some u := by
 obtain ⟨b,o,rfl,hb,hc⟩ := h.2 hn
 refine ⟨b,o,rfl,hb, ?_⟩
 have key : ∀ (zs : List α) (off : Nat),(∀ k x,zs[k]? = some x → ∀ j u,(enc x)[j]? = some u → w.cell? ⟨b,o + (off + k * sz + j),none⟩ = some u) → ∀ j u,(zs.flatMap enc)[j]? = some u → w.cell? ⟨b,o + (off + j),none⟩ = some u := by
  intro zs
  induction zs with
  | nil => intro off _ j u hu;simp at hu
  | cons z zs ih =>
   intro off hz j u hu
   rw [List.flatMap_cons] at hu
   by_cases hj : j < sz
   ·rw [List.getElem?_append_left (by rw [hsz];exact hj)] at hu
    have := hz 0 z rfl j u hu
    rw [Nat.zero_mul,Nat.add_zero] at this;exact this
   ·rw [List.getElem?_append_right (by rw [hsz];omega),hsz] at hu
    have := ih (off + sz) (fun k x hx j u hu => by
     have := hz (k + 1) x (by simpa using hx) j u hu
     rw [Nat.add_mul,Nat.one_mul] at this
     rw [show off + sz + k * sz + j = off + (k * sz + sz) + j by omega];exact this) (j - sz) u hu
    rw [show off + sz + (j - sz) = off + j by omega] at this;exact this
 intro j u hu
 have := key ys 0 (fun k x hx j u hu => by
  obtain ⟨cs,_,h2,rfl,_⟩ := hc k x hx
  have := h2 j u hu
  rw [Nat.zero_add,← Nat.add_assoc];exact this) j u hu
 rw [Nat.zero_add] at this;exact this
theorem ret_own2 {α : Type} {w w0 : World} {P : Program} {fn : Func} {a : Act} {t : Tmp} {enc : α → List Value} {ok : α → Prop} {e : TypeId} {sz n c : Nat} {A : Option Addr} {ys : List α} (hr : fn.results = #[.tmp t])
  (hown : w.ownsRow w0.heap.size e sz (.slice A n c) n (ys.flatMap enc)) (hlen : ys.length = n) (hsz : ∀ x,(enc x).length = sz) (hok : ∀ x ∈ ys,ok x)
  (hb : Ext w0 w) (hv : a.tmps.getD t undef = .slice A n c := by rfl) (hd : a.defers = [] := by rfl) : bodyPost P fn (RetOwn (Flat enc ok) e sz w0 ys) .ret a w := by
 subst hlen
 exact bodyPost_ret (results_tmp hr _ _ _) hd ⟨A,c,by rw [hv],OwnAt.flat hsz hok hown,hb⟩
theorem flatMap_set {α : Type} {enc : α → List Value} {sz j : Nat} (hsz : ∀ y,(enc y).length = sz) (hj : j < sz) {x x' : α} {u : Value} (he : enc x' = (enc x).set j u) (post : List α) : ∀ pre : List α,
  ((pre ++ x :: post).flatMap enc).set (pre.length * sz + j) u = (pre ++ x' :: post).flatMap enc := by
 intro pre
 induction pre with
 | nil =>
  simp only [List.nil_append,List.length_nil,Nat.zero_mul,Nat.zero_add,List.flatMap_cons]
  rw [List.set_append_left _ _ (by rw [hsz];exact hj),he]
 | cons p pre ih =>
  simp only [List.cons_append,List.flatMap_cons,List.length_cons]
  rw [List.set_append_right _ _ (by rw [hsz,Nat.add_mul];omega),hsz,show (pre.length + 1) * sz + j - sz = pre.length * sz + j by rw [Nat.add_mul];omega,ih]
theorem flatMap_get {α : Type} {enc : α → List Value} {sz j : Nat} (hsz : ∀ y,(enc y).length = sz) (hj : j < sz) {xs : List α} {k : Nat} {x : α} (hx : xs[k]? = some x) : (xs.flatMap enc)[k * sz + j]? = (enc x)[j]? := by
 induction xs generalizing k with
 | nil => simp at hx
 | cons y ys ih =>
  cases k with
  | zero =>
   simp at hx;subst hx
   rw [List.flatMap_cons,List.getElem?_append_left (by rw [hsz];omega)];simp
  | succ k =>
   simp at hx
   rw [List.flatMap_cons,List.getElem?_append_right (by rw [hsz,Nat.add_mul];omega),hsz,show (k + 1) * sz + j - sz = k * sz + j by rw [Nat.add_mul];omega,ih hx]
theorem split_at {α : Type} {xs : List α} {k : Nat} {x : α} (hx : xs[k]? = some x) : xs = xs.take k ++ x :: xs.drop (k + 1) := by
 rw [← drop_cons hx,List.take_append_drop]
theorem owns_empty (w : World) (e : TypeId) (sz : Nat) : (w.alloc (.cells #[] e)).ownsRow w.heap.size e sz (.slice (some ⟨w.heap.size,0,none⟩) 0 0) 0 [] :=
 World.ownsRow_lit w #[] 0 (Nat.le_refl _) (by unfold maxLen;omega) (by simp)
theorem own_form {w : World} {base : Nat} {e : TypeId} {size n : Nat} {v : Value} {L : List Value} (h : w.ownsRow base e size v n L) (hn : 0 < n) : ∃ g cap,v = .slice (some ⟨g,0,none⟩) n cap ∧ base ≤ g ∧ g < w.heap.size := by
 have h' := h
 obtain ⟨_,⟨_,h0⟩ | ⟨g,cap,cur,rfl,hb,r⟩⟩ := h
 ·omega
 ·exact ⟨g,cap,rfl,hb,(owns_lt h').2⟩
theorem owns_base {w : World} {base base' : Nat} {e : TypeId} {size n : Nat} {v : Value} {L : List Value} (h : w.ownsRow base e size v n L) (hb : base' ≤ base) : w.ownsRow base' e size v n L := by
 obtain ⟨h1,h3⟩ := h
 refine ⟨h1, ?_⟩
 rcases h3 with h3 | ⟨g,cap,cur,hv,hg,r⟩
 ·exact .inl h3
 ·exact .inr ⟨g,cap,cur,hv,Nat.le_trans hb hg,r⟩
theorem OwnAt.slAt {α : Type} {R : Rel α} {e : TypeId} {sz base c : Nat} {A : Option Addr} {w : World} {xs : List α} (h : OwnAt R e sz w base (.slice A xs.length c) xs) : SlAt R sz w A xs.length xs := by
 obtain ⟨A',c',e1,h1⟩ := h.sl
 injection e1 with e2 e3 e4
 subst e2
 exact h1
theorem Hh {p : Prop} (h : p) : Hid p := Lib.hid h
theorem Ext.go {w w' : World} (h : Ext w w' := by repeat (first | exact Ext.refl _ | assumption | apply Ext.alloc | apply Ext.drewN | apply Ext.drew | (refine Ext.setCell ?_ (by first | (simp; done) | (simp; omega) | omega) _) | (refine Ext.trans ?_ (by assumption)))) : Ext w w' := h
end Go.Proofs.YtfanjhcdjbnnnaaGreat
namespace Go.Proofs.YtfanjhcdjbnnnaaGreat
open Go.RowKit
structure Vec where
 A : Int
 B : Int
 C : Int
def Vec.ok (x : Vec) : Prop := In64 x.A ∧ In64 x.B ∧ In64 x.C
theorem Vec.eq_iff {x y : Vec} : x = y ↔ x.A = y.A ∧ x.B = y.B ∧ x.C = y.C := by cases x;cases y;simp
instance : DecidableEq Vec := fun x y => decidable_of_iff (x.A = y.A ∧ x.B = y.B ∧ x.C = y.C) Vec.eq_iff.symm
structure Dep where
 Id : Int
 For : Int
theorem Dep.eq_iff {x y : Dep} : x = y ↔ x.Id = y.Id ∧ x.For = y.For := by cases x;cases y;simp
instance : DecidableEq Dep := fun x y => decidable_of_iff (x.Id = y.Id ∧ x.For = y.For) Dep.eq_iff.symm
structure Account where
 Name : ByteArray
 Share : Int
 Used : Int
theorem Account.eq_iff {x y : Account} : x = y ↔ x.Name = y.Name ∧ x.Share = y.Share ∧ x.Used = y.Used := by cases x;cases y;simp
instance : DecidableEq Account := fun x y => decidable_of_iff (x.Name = y.Name ∧ x.Share = y.Share ∧ x.Used = y.Used) Account.eq_iff.symm
structure Bill where
 Id : Int
 From : Int
 To : Int
 Nodes : Int
 Need : Vec
theorem Bill.eq_iff {x y : Bill} : x = y ↔ x.Id = y.Id ∧ x.From = y.From ∧ x.To = y.To ∧ x.Nodes = y.Nodes ∧ x.Need = y.Need := by cases x;cases y;simp
instance : DecidableEq Bill := fun x y => decidable_of_iff (x.Id = y.Id ∧ x.From = y.From ∧ x.To = y.To ∧ x.Nodes = y.Nodes ∧ x.Need = y.Need) Bill.eq_iff.symm
structure Owner where
 Id : Int
 Name : ByteArray
theorem Owner.eq_iff {x y : Owner} : x = y ↔ x.Id = y.Id ∧ x.Name = y.Name := by cases x;cases y;simp
instance : DecidableEq Owner := fun x y => decidable_of_iff (x.Id = y.Id ∧ x.Name = y.Name) Owner.eq_iff.symm
structure Span where
 Lo : Int
 Hi : Int
 Step : Int
theorem Span.eq_iff {x y : Span} : x = y ↔ x.Lo = y.Lo ∧ x.Hi = y.Hi ∧ x.Step = y.Step := by cases x;cases y;simp
instance : DecidableEq Span := fun x y => decidable_of_iff (x.Lo = y.Lo ∧ x.Hi = y.Hi ∧ x.Step = y.Step) Span.eq_iff.symm
structure Job where
 Id : Int
 Prio : Int
 Nodes : Int
 Need : Vec
 Lic : Vec
 Wall : Int
 Level : Int
def Job.enc (x : Job) : List Value := [.int .i64 x.Id,.int .i64 x.Prio,.int .i64 x.Nodes,.int .i64 x.Need.A,.int .i64 x.Need.B,.int .i64 x.Need.C,.int .i64 x.Lic.A,.int .i64 x.Lic.B,.int .i64 x.Lic.C,.int .i64 x.Wall,.int .i64 x.Level]
def Job.ok (x : Job) : Prop := In64 x.Id ∧ In64 x.Prio ∧ In64 x.Nodes ∧ In64 x.Need.A ∧ In64 x.Need.B ∧ In64 x.Need.C ∧ In64 x.Lic.A ∧ In64 x.Lic.B ∧ In64 x.Lic.C ∧ In64 x.Wall ∧ In64 x.Level
theorem Job.size (x : Job) : x.enc.length = 11 := rfl
abbrev RJob : Rel Job := Flat Job.enc Job.ok
theorem Job.eq_iff {x y : Job} : x = y ↔ x.Id = y.Id ∧ x.Prio = y.Prio ∧ x.Nodes = y.Nodes ∧ x.Need = y.Need ∧ x.Lic = y.Lic ∧ x.Wall = y.Wall ∧ x.Level = y.Level := by cases x;cases y;simp
instance : DecidableEq Job := fun x y => decidable_of_iff (x.Id = y.Id ∧ x.Prio = y.Prio ∧ x.Nodes = y.Nodes ∧ x.Need = y.Need ∧ x.Lic = y.Lic ∧ x.Wall = y.Wall ∧ x.Level = y.Level) Job.eq_iff.symm
structure Node where
 Leaf : Int
 Cap : Vec
def Node.enc (x : Node) : List Value := [.int .i64 x.Leaf,.int .i64 x.Cap.A,.int .i64 x.Cap.B,.int .i64 x.Cap.C]
def Node.ok (x : Node) : Prop := In64 x.Leaf ∧ In64 x.Cap.A ∧ In64 x.Cap.B ∧ In64 x.Cap.C
theorem Node.size (x : Node) : x.enc.length = 4 := rfl
abbrev RNode : Rel Node := Flat Node.enc Node.ok
theorem Node.eq_iff {x y : Node} : x = y ↔ x.Leaf = y.Leaf ∧ x.Cap = y.Cap := by cases x;cases y;simp
instance : DecidableEq Node := fun x y => decidable_of_iff (x.Leaf = y.Leaf ∧ x.Cap = y.Cap) Node.eq_iff.symm
structure Pt where
 At : Int
 Free : Vec
def Pt.enc (x : Pt) : List Value := [.int .i64 x.At,.int .i64 x.Free.A,.int .i64 x.Free.B,.int .i64 x.Free.C]
def Pt.ok (x : Pt) : Prop := In64 x.At ∧ In64 x.Free.A ∧ In64 x.Free.B ∧ In64 x.Free.C
theorem Pt.size (x : Pt) : x.enc.length = 4 := rfl
abbrev RPt : Rel Pt := Flat Pt.enc Pt.ok
theorem Pt.eq_iff {x y : Pt} : x = y ↔ x.At = y.At ∧ x.Free = y.Free := by cases x;cases y;simp
instance : DecidableEq Pt := fun x y => decidable_of_iff (x.At = y.At ∧ x.Free = y.Free) Pt.eq_iff.symm
structure End where
 Id : Int
 At : Int
 Why : Int
def End.enc (x : End) : List Value := [.int .i64 x.Id,.int .i64 x.At,.int .i64 x.Why]
def End.ok (x : End) : Prop := In64 x.Id ∧ In64 x.At ∧ In64 x.Why
theorem End.size (x : End) : x.enc.length = 3 := rfl
abbrev REnd : Rel End := Flat End.enc End.ok
theorem End.eq_iff {x y : End} : x = y ↔ x.Id = y.Id ∧ x.At = y.At ∧ x.Why = y.Why := by cases x;cases y;simp
instance : DecidableEq End := fun x y => decidable_of_iff (x.Id = y.Id ∧ x.At = y.At ∧ x.Why = y.Why) End.eq_iff.symm
structure Use3 where
 A : Int
 B : Int
 C : Int
theorem Use3.eq_iff {x y : Use3} : x = y ↔ x.A = y.A ∧ x.B = y.B ∧ x.C = y.C := by cases x;cases y;simp
instance : DecidableEq Use3 := fun x y => decidable_of_iff (x.A = y.A ∧ x.B = y.B ∧ x.C = y.C) Use3.eq_iff.symm
structure Quota where
 Name : ByteArray
 Jobs : Int
 Nodes : Int
 Res : Vec
theorem Quota.eq_iff {x y : Quota} : x = y ↔ x.Name = y.Name ∧ x.Jobs = y.Jobs ∧ x.Nodes = y.Nodes ∧ x.Res = y.Res := by cases x;cases y;simp
instance : DecidableEq Quota := fun x y => decidable_of_iff (x.Name = y.Name ∧ x.Jobs = y.Jobs ∧ x.Nodes = y.Nodes ∧ x.Res = y.Res) Quota.eq_iff.symm
structure Hold where
 Name : ByteArray
 Job : Job
theorem Hold.eq_iff {x y : Hold} : x = y ↔ x.Name = y.Name ∧ x.Job = y.Job := by cases x;cases y;simp
instance : DecidableEq Hold := fun x y => decidable_of_iff (x.Name = y.Name ∧ x.Job = y.Job) Hold.eq_iff.symm
structure Spec where
 Spans : List Span
 Most : Int
theorem Spec.eq_iff {x y : Spec} : x = y ↔ x.Spans = y.Spans ∧ x.Most = y.Most := by cases x;cases y;simp
instance : DecidableEq Spec := fun x y => decidable_of_iff (x.Spans = y.Spans ∧ x.Most = y.Most) Spec.eq_iff.symm
structure Window where
 From : Int
 To : Int
 Nodes : List Int
theorem Window.eq_iff {x y : Window} : x = y ↔ x.From = y.From ∧ x.To = y.To ∧ x.Nodes = y.Nodes := by cases x;cases y;simp
instance : DecidableEq Window := fun x y => decidable_of_iff (x.From = y.From ∧ x.To = y.To ∧ x.Nodes = y.Nodes) Window.eq_iff.symm
structure Prof where
 Pts : List Pt
theorem Prof.eq_iff {x y : Prof} : x = y ↔ x.Pts = y.Pts := by cases x;cases y;simp
instance : DecidableEq Prof := fun x y => decidable_of_iff (x.Pts = y.Pts) Prof.eq_iff.symm
structure Topo where
 Parents : List Int
 Nodes : List Node
theorem Topo.eq_iff {x y : Topo} : x = y ↔ x.Parents = y.Parents ∧ x.Nodes = y.Nodes := by cases x;cases y;simp
instance : DecidableEq Topo := fun x y => decidable_of_iff (x.Parents = y.Parents ∧ x.Nodes = y.Nodes) Topo.eq_iff.symm
structure Run where
 Job : Job
 At : Int
 Nodes : List Int
theorem Run.eq_iff {x y : Run} : x = y ↔ x.Job = y.Job ∧ x.At = y.At ∧ x.Nodes = y.Nodes := by cases x;cases y;simp
instance : DecidableEq Run := fun x y => decidable_of_iff (x.Job = y.Job ∧ x.At = y.At ∧ x.Nodes = y.Nodes) Run.eq_iff.symm
structure Room where
 Topo : Topo
 Up : List Bool
 Profs : List Prof
 Lics : Prof
theorem Room.eq_iff {x y : Room} : x = y ↔ x.Topo = y.Topo ∧ x.Up = y.Up ∧ x.Profs = y.Profs ∧ x.Lics = y.Lics := by cases x;cases y;simp
instance : DecidableEq Room := fun x y => decidable_of_iff (x.Topo = y.Topo ∧ x.Up = y.Up ∧ x.Profs = y.Profs ∧ x.Lics = y.Lics) Room.eq_iff.symm
structure State where
 Topo : Topo
 Up : List Bool
 Lic : Vec
 Depth : Int
 Now : Int
 Queue : List Job
 Runs : List Run
 Ends : List End
theorem State.eq_iff {x y : State} : x = y ↔ x.Topo = y.Topo ∧ x.Up = y.Up ∧ x.Lic = y.Lic ∧ x.Depth = y.Depth ∧ x.Now = y.Now ∧ x.Queue = y.Queue ∧ x.Runs = y.Runs ∧ x.Ends = y.Ends := by cases x;cases y;simp
instance : DecidableEq State := fun x y => decidable_of_iff (x.Topo = y.Topo ∧ x.Up = y.Up ∧ x.Lic = y.Lic ∧ x.Depth = y.Depth ∧ x.Now = y.Now ∧ x.Queue = y.Queue ∧ x.Runs = y.Runs ∧ x.Ends = y.Ends) State.eq_iff.symm
def encInt (n : Int) : List Value := [.int .i64 n]
theorem encInt_size (n : Int) : (encInt n).length = 1 := rfl
abbrev RInt : Rel Int := Flat encInt In64
end Go.Proofs.YtfanjhcdjbnnnaaGreat
namespace Go.Proofs.YtfanjhcdjbnnnaaGreat
open Go.RowKit
end Go.Proofs.YtfanjhcdjbnnnaaGreat
namespace Go.Proofs.YtfanjhcdjbnnnaaGreat
open Go.RowKit
def withinB (x lo hi : Int) : Bool := decide (lo ≤ x ∧ x ≤ hi)
def timeB (x : Int) : Bool := decide (0 ≤ x ∧ x ≤ 1000000000)
def vecB (v : Vec) : Bool := decide ((0 ≤ v.A ∧ v.A ≤ 1000000) ∧ (0 ≤ v.B ∧ v.B ≤ 1000000) ∧ (0 ≤ v.C ∧ v.C ≤ 1000000))
def Same (w : World) (v : Value) : Ending → World → Prop := fun e w' => e = .returned v ∧ w = w'
theorem Same.ret {P : Program} {f : FuncId} {args : Array Value} {w : World} {v : Value} (h : Calls P f args w (Same w v)) : Calls P f args w (Ret w v) :=
 h.mono fun _ _ ⟨he,hw⟩ => ⟨he,hw ▸ Ext.refl _⟩
theorem same_bool {w : World} {P : Program} {fn : Func} {a : Act} {b b' : Bool} {t : Tmp} (hr : fn.results = #[.tmp t]) (hv : a.tmps.getD t undef = .bool b) (hd : a.defers = []) (e : b = b') : bodyPost P fn (Same w (.bool b')) .ret a w :=
 bodyPost_ret (results_tmp hr _ _ _) hd ⟨by rw [hv,e],rfl⟩
theorem same_int {w : World} {P : Program} {fn : Func} {a : Act} {b b' : Int} {t : Tmp} (hr : fn.results = #[.tmp t]) (hv : a.tmps.getD t undef = .int .i64 b) (hd : a.defers = []) (e : b = b') : bodyPost P fn (Same w (.int .i64 b')) .ret a w :=
 bodyPost_ret (results_tmp hr _ _ _) hd ⟨by rw [hv,e],rfl⟩
theorem within_c (x lo hi : Int) (w : World) : Calls Tryz.prog 27 #[.int .i64 x,.int .i64 lo,.int .i64 hi] w (Same w (.bool (withinB x lo hi))) := by
 go_enter Tryz.func27,Tryz.ntmps27
 go_wp2
 all_goals (refine same_bool rfl rfl rfl ?_;unfold withinB;first | (symm;rw [decide_eq_true_iff];omega) | (symm;rw [decide_eq_false_iff_not];omega) | (rw [decide_eq_decide];omega))
theorem isTime_c (x : Int) (w : World) : Calls Tryz.prog 43 #[.int .i64 x] w (Same w (.bool (timeB x))) := by
 go_enter Tryz.func43,Tryz.ntmps43
 go_wp2
 all_goals (refine same_bool rfl rfl rfl ?_;unfold timeB;first | (symm;rw [decide_eq_true_iff];omega) | (symm;rw [decide_eq_false_iff_not];omega) | (rw [decide_eq_decide];omega))
theorem sTime_c (x : Int) (w : World) : Calls Tryz.prog 58 #[.int .i64 x] w (Same w (.bool (timeB x))) := by
 go_enter Tryz.func58,Tryz.ntmps58
 go_wp2
 all_goals (refine same_bool rfl rfl rfl ?_;unfold timeB;first | (symm;rw [decide_eq_true_iff];omega) | (symm;rw [decide_eq_false_iff_not];omega) | (rw [decide_eq_decide];omega))
theorem VecOk_c (v : Vec) (w : World) : Calls Tryz.prog 45 #[.agg #[.int .i64 v.A,.int .i64 v.B,.int .i64 v.C]] w (Ret w (.bool (vecB v))) := by
 go_enter Tryz.func45,Tryz.ntmps45
 go_wp2
 all_goals (refine ret_bool rfl rfl rfl ?_ Ext.go;unfold vecB;first | (symm;rw [decide_eq_true_iff];omega) | (symm;rw [decide_eq_false_iff_not];omega) | (rw [decide_eq_decide];omega))
theorem sVecOk_c (v : Vec) (w : World) : Calls Tryz.prog 88 #[.agg #[.int .i64 v.A,.int .i64 v.B,.int .i64 v.C]] w (Ret w (.bool (vecB v))) := by
 go_enter Tryz.func88,Tryz.ntmps88
 go_wp2
 all_goals (refine ret_bool rfl rfl rfl ?_ Ext.go;unfold vecB;first | (symm;rw [decide_eq_true_iff];omega) | (symm;rw [decide_eq_false_iff_not];omega) | (rw [decide_eq_decide];omega))
end Go.Proofs.YtfanjhcdjbnnnaaGreat
namespace Go.Proofs.YtfanjhcdjbnnnaaGreat
open Go.RowKit
def chainGo {α : Type} (ok : α → Bool) (lt : α → α → Bool) : Option α → List α → Bool
 | _,[] => true
 | none,d :: r => ok d && chainGo ok lt (some d) r
 | some q,d :: r => ok d && lt q d && chainGo ok lt (some d) r
def prevOf {α : Type} (l : List α) (k : Nat) : Option α := if k = 0 then none else l[k - 1]?
theorem prevOf_succ {α : Type} {l : List α} {k : Nat} {x : α} (h : l[k]? = some x) : prevOf l (k + 1) = some x := by simp [prevOf,h]
theorem chain_first {α : Type} {ok : α → Bool} {lt : α → α → Bool} {l : List α} {k : Nat} (h : k = 0) (d : α) (r : List α) : chainGo ok lt (prevOf l k) (d :: r) = (ok d && chainGo ok lt (some d) r) := by subst h;rfl
theorem chain_lt {α : Type} {ok : α → Bool} {lt : α → α → Bool} {l : List α} {k : Nat} {q d : α} (h : prevOf l k = some q) (hl : lt q d = true) (r : List α) : chainGo ok lt (prevOf l k) (d :: r) = (ok d && chainGo ok lt (some d) r) := by rw [h];simp [chainGo,hl]
theorem chain_ge {α : Type} {ok : α → Bool} {lt : α → α → Bool} {l : List α} {k : Nat} {q d : α} (h : prevOf l k = some q) (hl : lt q d = false) (r : List α) : chainGo ok lt (prevOf l k) (d :: r) = false := by rw [h];simp [chainGo,hl]
theorem chain_bad {α : Type} {ok : α → Bool} {lt : α → α → Bool} {d : α} (p : Option α) (h : ok d = false) (r : List α) : chainGo ok lt p (d :: r) = false := by cases p <;> simp [chainGo,h]
theorem chain_end {α : Type} {ok : α → Bool} {lt : α → α → Bool} (p : Option α) : chainGo ok lt p [] = true := by cases p <;> rfl
theorem chain_all {α : Type} {ok : α → Bool} {lt : α → α → Bool} (l : List α) : ∀ p : Option α,chainGo ok lt p l = true → ∀ x ∈ l,ok x = true := by
 induction l with
 | nil => intro p _ x hx;cases hx
 | cons a r ih =>
  intro p h x hx
  have h' : ok a = true ∧ chainGo ok lt (some a) r = true := by
   cases p <;> simp [chainGo] at h
   ·exact h
   ·exact ⟨h.1.1,h.2⟩
  rcases List.mem_cons.1 hx with rfl | hx
  ·exact h'.1
  ·exact ih _ h'.2 x hx
end Go.Proofs.YtfanjhcdjbnnnaaGreat
namespace Go.Proofs.YtfanjhcdjbnnnaaGreat
open Go.RowKit
set_option linter.unusedVariables false
def ptB (x : Pt) : Bool := timeB x.At && vecB x.Free
def ptLt (a b : Pt) : Bool := decide (a.At < b.At) && !decide (a.Free.A = b.Free.A ∧ a.Free.B = b.Free.B ∧ a.Free.C = b.Free.C)
def profB (l : List Pt) : Bool := decide (1 ≤ l.length ∧ l.length ≤ 200) && decide ((l.head?.map Pt.At) = some 0) && chainGo ptB ptLt none l
def stepF (t : Int) (v : Vec) (x : Pt) : Vec := if x.At ≤ t then x.Free else v
def freeAt (l : List Pt) (t : Int) : Vec := l.foldl (stepF t) ⟨0,0,0⟩
theorem chain_pair {l : List Pt} : ∀ p : Option Pt,chainGo ptB ptLt p l = true → l.Pairwise (fun a b => a.At < b.At) ∧ ∀ q,p = some q → ∀ x ∈ l,q.At < x.At := by
 induction l with
 | nil => intro p _;exact ⟨List.Pairwise.nil,fun q _ x hx => by cases hx⟩
 | cons a r ih =>
  intro p h
  have h' : chainGo ptB ptLt (some a) r = true ∧ ∀ q,p = some q → q.At < a.At := by
   cases p with
   | none => simp [chainGo] at h;exact ⟨h.2,fun q e => by cases e⟩
   | some q =>
    simp [chainGo] at h
    refine ⟨h.2,fun q' e => ?_⟩
    injection e with e;subst e
    have := h.1.2
    unfold ptLt at this
    simp only [Bool.and_eq_true,decide_eq_true_iff] at this
    exact this.1
  obtain ⟨h1,h2⟩ := ih _ h'.1
  refine ⟨List.Pairwise.cons (fun x hx => h2 a rfl x hx) h1,fun q e x hx => ?_⟩
  rcases List.mem_cons.1 hx with rfl | hx
  ·exact h'.2 q e
  ·have := h'.2 q e;have := h2 a rfl x hx;omega
theorem profB_parts {l : List Pt} (h : profB l = true) : 1 ≤ l.length ∧ l.length ≤ 200 ∧ (∃ x r,l = x :: r ∧ x.At = 0) ∧ l.Pairwise (fun a b => a.At < b.At) ∧ ∀ x ∈ l,ptB x = true := by
 unfold profB at h
 simp only [Bool.and_eq_true,decide_eq_true_iff] at h
 refine ⟨h.1.1.1,h.1.1.2, ?_,(chain_pair none h.2).1,chain_all l none h.2⟩
 cases l with
 | nil => simp at h
 | cons x r => exact ⟨x,r,rfl,by simpa using h.1.2⟩
theorem ptB_parts {x : Pt} (h : ptB x = true) : (0 ≤ x.At ∧ x.At ≤ 1000000000) ∧ (0 ≤ x.Free.A ∧ x.Free.A ≤ 1000000) ∧ (0 ≤ x.Free.B ∧ x.Free.B ≤ 1000000) ∧ (0 ≤ x.Free.C ∧ x.Free.C ≤ 1000000) := by
 unfold ptB timeB vecB at h
 simp only [Bool.and_eq_true,decide_eq_true_iff] at h
 exact ⟨h.1,h.2.1,h.2.2.1,h.2.2.2⟩
def vecR (v : Vec) : Prop := (0 ≤ v.A ∧ v.A ≤ 1000000) ∧ (0 ≤ v.B ∧ v.B ≤ 1000000) ∧ (0 ≤ v.C ∧ v.C ≤ 1000000)
theorem freeAt_in {l : List Pt} (h : ∀ x ∈ l,ptB x = true) (t : Int) : vecR (freeAt l t) := by
 unfold freeAt
 have h0 : vecR ⟨0,0,0⟩ := by unfold vecR;simp
 generalize (⟨0,0,0⟩ : Vec) = v at h0
 induction l generalizing v with
 | nil => exact h0
 | cons a r ih =>
  rw [List.foldl_cons]
  refine ih (fun x hx => h x (List.mem_cons_of_mem _ hx)) _ ?_
  unfold stepF;split
  ·exact (ptB_parts (h a (List.mem_cons_self ..))).2
  ·exact h0
theorem ats_sorted {l : List Pt} (h : l.Pairwise (fun a b => a.At < b.At)) : (l.map Pt.At).Pairwise (· < ·) := List.Pairwise.map _ (fun _ _ h => h) h
def insGo (t : Int) : Bool → List Int → List Int
 | d,[] => if d = true then [] else [t]
 | d,x :: r => (if d = false ∧ t ≤ x then [t] else []) ++ (if x = t then [] else [x]) ++ insGo t (d || decide (t ≤ x)) r
theorem insGo_true (t : Int) : ∀ r,insGo t true r = r.filter (fun x => x ≠ t) := by
 intro r
 induction r with
 | nil => rfl
 | cons a r ih =>
  rw [insGo,if_neg (by simp),Bool.true_or,ih,List.filter_cons]
  by_cases h : a = t <;> simp [h]
theorem insGo_mem (t : Int) : ∀ (r : List Int) (y : Int),y ∈ insGo t false r ↔ y = t ∨ y ∈ r := by
 intro r
 induction r with
 | nil => intro y;simp [insGo]
 | cons a r ih =>
  intro y
  rw [insGo]
  by_cases h : t ≤ a
  ·rw [if_pos ⟨rfl,h⟩,show (false || decide (t ≤ a)) = true by simpa using h,insGo_true]
   by_cases h2 : a = t
   ·rw [if_pos h2];subst h2;simp;by_cases hy : y = a <;> simp [hy]
   ·rw [if_neg h2];simp
    by_cases hy : y = t
    ·simp [hy]
    ·simp [hy]
  ·rw [if_neg (by simp;omega),show (false || decide (t ≤ a)) = false by simpa using h,if_neg (by omega)]
   simp [ih];constructor
   ·rintro (h | h | h) <;> simp [h]
   ·rintro (h | h | h) <;> simp [h]
theorem insGo_sorted (t : Int) : ∀ r : List Int,r.Pairwise (· < ·) → (insGo t false r).Pairwise (· < ·) := by
 intro r
 induction r with
 | nil => intro _;simp [insGo]
 | cons a r ih =>
  intro h
  rw [List.pairwise_cons] at h
  rw [insGo]
  by_cases h1 : t ≤ a
  ·rw [if_pos ⟨rfl,h1⟩,show (false || decide (t ≤ a)) = true by simpa using h1,insGo_true]
   by_cases h2 : a = t
   ·rw [if_pos h2];subst h2
    simp only [List.append_nil,List.cons_append,List.nil_append]
    exact List.pairwise_cons.2 ⟨fun x hx => h.1 x ((List.mem_filter.1 hx).1),h.2.filter _⟩
   ·rw [if_neg h2]
    simp only [List.cons_append,List.nil_append]
    refine List.pairwise_cons.2 ⟨fun x hx => ?_,List.pairwise_cons.2 ⟨fun x hx => h.1 x ((List.mem_filter.1 hx).1),h.2.filter _⟩⟩
    rcases List.mem_cons.1 hx with rfl | hx
    ·omega
    ·have := h.1 x ((List.mem_filter.1 hx).1);omega
  ·rw [if_neg (by simp;omega),show (false || decide (t ≤ a)) = false by simpa using h1,if_neg (by omega)]
   simp only [List.cons_append,List.nil_append]
   refine List.pairwise_cons.2 ⟨fun x hx => ?_,ih h.2⟩
   rcases (insGo_mem t r x).1 hx with rfl | hx
   ·omega
   ·exact h.1 x hx
theorem insGo_len (t : Int) : ∀ (r : List Int) (d : Bool),(insGo t d r).length ≤ r.length + 1 := by
 intro r
 induction r with
 | nil => intro d;cases d <;> simp [insGo]
 | cons a r ih =>
  intro d
  cases d with
  | true => rw [insGo_true];exact Nat.le_trans (List.length_filter_le _ _) (by omega)
  | false =>
   rw [insGo]
   by_cases h1 : t ≤ a
   ·rw [show (false || decide (t ≤ a)) = true by simpa using h1,insGo_true,if_pos ⟨rfl,h1⟩]
    have h3 := List.length_filter_le (fun x => decide (x ≠ t)) r
    by_cases h2 : a = t
    ·rw [if_pos h2];simp only [List.append_nil,List.length_append,List.length_cons,List.length_nil] at *;omega
    ·rw [if_neg h2];simp only [List.length_append,List.length_cons,List.length_nil] at *;omega
   ·rw [show (false || decide (t ≤ a)) = false by simpa using h1,if_neg (by simp;omega),if_neg (by omega)]
    have := ih false
    simp only [List.nil_append,List.length_append,List.length_cons,List.length_nil];omega
def timesL (l : List Pt) (fr to : Int) : List Int := insGo to false (insGo fr false (l.map Pt.At))
theorem timesL_len (l : List Pt) (fr to : Int) : (timesL l fr to).length ≤ l.length + 2 := by
 unfold timesL
 have := insGo_len to (insGo fr false (l.map Pt.At)) false
 have := insGo_len fr (l.map Pt.At) false
 rw [List.length_map] at this;omega
theorem timesL_sorted {l : List Pt} (fr to : Int) (h : l.Pairwise (fun a b => a.At < b.At)) : (timesL l fr to).Pairwise (· < ·) := insGo_sorted _ _ (insGo_sorted _ _ (ats_sorted h))
theorem timesL_mem {l : List Pt} {fr to y : Int} : y ∈ timesL l fr to ↔ y = to ∨ y = fr ∨ ∃ x ∈ l,x.At = y := by
 unfold timesL;rw [insGo_mem,insGo_mem];simp
end Go.Proofs.YtfanjhcdjbnnnaaGreat
