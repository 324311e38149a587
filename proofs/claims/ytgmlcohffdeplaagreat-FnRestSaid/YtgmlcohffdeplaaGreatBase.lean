/- Words for memory and for regions that draw their order: plain lemmas, no program. -/
import Derived.WalkKit
import Derived.WalkSpells
import Derived.WalkLawsBesides
import Derived.Lib.Hide
import Derived.BigQuiet
namespace Go.Proofs.YtgmlcohffdeplaaGreat
open Go.RowKit

/-! ### The world has grown: nothing that was there has turned -/
def Ext (w w' : World) : Prop := Below w.heap.size w w'

section
variable {w w' w0 w1 w2 : World}
theorem Ext.refl (w : World) : Ext w w := Below.refl _ _
theorem Ext.trans (h : Ext w w1) (k : Ext w1 w2) : Ext w w2 := Below.trans h (Below.mono k h.size)
theorem Ext.alloc (h : Ext w0 w) (o : Obj) : Ext w0 (w.alloc o) := Below.alloc h h.size o
theorem Ext.drew (h : Ext w0 w) : Ext w0 w.drew := Below.drew h
theorem Ext.drewN (h : Ext w0 w) (n : Nat) : Ext w0 (w.drewN n) := ⟨h.os, h.tape, h.output, h.size, h.block⟩
theorem Ext.setCell (h : Ext w0 w) {p : Addr} (hp : w0.heap.size ≤ p.block) (u : Value) : Ext w0 (w.setCell p u) := Below.setCell h hp u
theorem Ext.le (h : Ext w w') : w.heap.size ≤ w'.heap.size := h.size
theorem lt_of_cell {a : Addr} {v : Value} (h : w.cell? a = some v) : a.block < w.heap.size := by
  rcases Nat.lt_or_ge a.block w.heap.size with hl | hl
  · exact hl
  · unfold World.cell? at h; rw [Array.getElem?_eq_none hl] at h; cases h
theorem Ext.cell (h : Ext w w') {a : Addr} {v : Value} (hc : w.cell? a = some v) : w'.cell? a = some v := (Below.cell h (lt_of_cell hc)).trans hc
theorem Ext.cellEq (h : Ext w w') {a : Addr} (hc : a.block < w.heap.size) : w'.cell? a = w.cell? a := Below.cell h hc
theorem Ext.frozenEq (h : Ext w w') {a : Addr} (hc : a.block < w.heap.size) : w'.frozen? a = w.frozen? a := Below.frozen h hc
end

/-- What a walk wants to know of a world that has grown. -/
theorem Ext.rules {w w' : World} (h : Ext w w') : (∀ b o, b < w.heap.size → w'.cell? ⟨b, o, none⟩ = w.cell? ⟨b, o, none⟩) ∧ (∀ b o, b < w.heap.size → w'.frozen? ⟨b, o, none⟩ = w.frozen? ⟨b, o, none⟩) ∧ w.heap.size ≤ w'.heap.size :=
  ⟨fun b o hb => h.cellEq (a := ⟨b, o, none⟩) hb, fun b o hb => h.frozenEq (a := ⟨b, o, none⟩) hb, h.le⟩

/-- What a call hands back, and that nothing old has turned. -/
def Ret (w : World) (v : Value) : Ending → World → Prop := fun e w' => e = .returned v ∧ Ext w w'

theorem Ret.out {w : World} {v : Value} {e : Ending} {w' : World} (h : Ret w v e w') : e = .returned v ∧ Ext w w' := h

theorem ret_val {w w0 : World} {P : Program} {fn : Func} {a : Act} {t : Tmp} {v : Value} (hr : fn.results = #[.tmp t]) (hv : a.tmps.getD t undef = v) (hd : a.defers = []) (hb : Ext w0 w) : bodyPost P fn (Ret w0 v) .ret a w :=
  bodyPost_ret (results_tmp hr _ _ _) hd ⟨by rw [hv], hb⟩
theorem ret_bool {w w0 : World} {P : Program} {fn : Func} {a : Act} {b b' : Bool} {t : Tmp} (hr : fn.results = #[.tmp t]) (hv : a.tmps.getD t undef = .bool b) (hd : a.defers = []) (e : b = b') (hb : Ext w0 w) : bodyPost P fn (Ret w0 (.bool b')) .ret a w :=
  ret_val hr (by rw [hv, e]) hd hb
theorem ret_int {w w0 : World} {P : Program} {fn : Func} {a : Act} {b b' : Int} {t : Tmp} (hr : fn.results = #[.tmp t]) (hv : a.tmps.getD t undef = .int .i64 b) (hd : a.defers = []) (e : b = b') (hb : Ext w0 w) : bodyPost P fn (Ret w0 (.int .i64 b')) .ret a w :=
  ret_val hr (by rw [hv, e]) hd hb
theorem ret_any {w w0 : World} {P : Program} {fn : Func} {a : Act} {v v' : Value} (hr : (results fn a.tmps).run P w = .ok v w) (hd : a.defers = []) (e : v = v') (hb : Ext w0 w) : bodyPost P fn (Ret w0 v') .ret a w :=
  bodyPost_ret hr hd ⟨by rw [e], hb⟩

theorem ret_is {w w0 : World} {P : Program} {fn : Func} {a : Act} {v : Value} (hr : (results fn a.tmps).run P w = .ok v w) (hd : a.defers = []) (hb : Ext w0 w) : bodyPost P fn (Ret w0 v) .ret a w :=
  bodyPost_ret hr hd ⟨rfl, hb⟩

/-! ### Regions that draw their order, whose calls only make new memory -/
structure Later (w : World) where
  world : World
  ext : Ext w world

instance (w : World) : Nonempty (Later w) := ⟨⟨w, Ext.refl _⟩⟩

theorem Later.cell {w : World} (x : Later w) {b o : Nat} (h : b < w.heap.size) : x.world.cell? ⟨b, o, none⟩ = w.cell? ⟨b, o, none⟩ := x.ext.cellEq (a := ⟨b, o, none⟩) h

theorem wp_region_ext {P : Program} {id : Nat} {Q : Exit → Act → World → Prop} {a : Act} {w : World} {l : List Oper}
    (hm : P.follows .mixedOrders = true) (hB : Region.lexB .any l.toArray = true)
    (h : wpQuiet P l.toArray (fun w' => ∃ x : Later w, w' = x.world) (fun a' => ∀ w', Ext w w' → Q .normal a' w') l a) : (Code.region id l.toArray true).wp P Q a w :=
  wp_region_quiet (C := fun w' => ∃ x : Later w, w' = x.world) hm hB ⟨⟨_, (Ext.refl w).drew⟩, rfl⟩ (by
    have e : (fun a' => ∀ w', Ext w w' → Q .normal a' w') = (fun a' => ∀ w', (∃ x : Later w, w' = x.world) → Q .normal a' w') := by
      funext a'; exact propext ⟨fun h w' ⟨x, hx⟩ => hx ▸ h _ x.ext, fun h w' hb => h w' ⟨⟨w', hb⟩, rfl⟩⟩
    rw [e] at h; simpa using h)

theorem Calls.quiet_ext {P : Program} {f : FuncId} {args : Array Value} {w : World} {v : Value} {x : Later w}
    (h : Calls P f args x.world (Ret x.world v)) :
    Calls P f args x.world fun e w'' => e = .returned v ∧ ∃ y : Later w, w'' = y.world :=
  h.mono fun _ _ ⟨he, hb⟩ => ⟨he, ⟨_, x.ext.trans hb⟩, rfl⟩

/-! ### Numbers -/
def In64 (n : Int) : Prop := -9223372036854775808 ≤ n ∧ n ≤ 9223372036854775807
instance (n : Int) : Decidable (In64 n) := inferInstanceAs (Decidable (_ ∧ _))

/-! ### A slice that reads as a list -/
section
variable {α : Type}
/-- What cells stand for. -/
abbrev Rel (α : Type) := World → List Value → α → Prop
def Rel.Mono (R : Rel α) : Prop := ∀ (w w' : World) (cs : List Value) (x : α), Ext w w' → R w cs x → R w' cs x

def SlAt (R : Rel α) (sz : Nat) (w : World) (A : Option Addr) (n : Nat) (xs : List α) : Prop :=
  xs.length = n ∧ (0 < n → ∃ b o, A = some ⟨b, o, none⟩ ∧ b < w.heap.size ∧ ∀ k x, xs[k]? = some x → ∃ cs, cs.length = sz ∧
    (∀ j u, cs[j]? = some u → w.cell? ⟨b, o + k * sz + j, none⟩ = some u) ∧ R w cs x)

variable {R : Rel α} {sz n : Nat} {w w' : World} {A : Option Addr} {xs : List α}
theorem SlAt.len (h : SlAt R sz w A n xs) : xs.length = n := h.1
theorem SlAt.nil (A : Option Addr) : SlAt R sz w A 0 [] := ⟨rfl, fun h => absurd h (by omega)⟩
theorem SlAt.at_ (h : SlAt R sz w A n xs) {k : Nat} (hk : k < n) : ∃ b o x cs, A = some ⟨b, o, none⟩ ∧ b < w.heap.size ∧ xs[k]? = some x ∧ cs.length = sz ∧
    (∀ j u, cs[j]? = some u → w.cell? ⟨b, o + k * sz + j, none⟩ = some u) ∧ R w cs x := by
  obtain ⟨b, o, e, hb, hc⟩ := h.2 (by omega)
  have hl : k < xs.length := by rw [h.1]; exact hk
  obtain ⟨cs, h1, h2, h3⟩ := hc k _ (List.getElem?_eq_getElem hl)
  exact ⟨b, o, _, cs, e, hb, List.getElem?_eq_getElem hl, h1, h2, h3⟩
theorem SlAt.ext (hm : R.Mono) (h : SlAt R sz w A n xs) (hb : Ext w w') : SlAt R sz w' A n xs := by
  refine ⟨h.1, fun hn => ?_⟩
  obtain ⟨b, o, e, hbl, hc⟩ := h.2 hn
  refine ⟨b, o, e, Nat.lt_of_lt_of_le hbl hb.le, fun k x hx => ?_⟩
  obtain ⟨cs, h1, h2, h3⟩ := hc k x hx
  exact ⟨cs, h1, fun j u hu => hb.cell (h2 j u hu), hm _ _ _ _ hb h3⟩
end

/-- Cells that hang on the datum alone. -/
def Flat {α : Type} (enc : α → List Value) (ok : α → Prop) : Rel α := fun _ cs x => cs = enc x ∧ ok x
theorem Flat.mono {α : Type} (enc : α → List Value) (ok : α → Prop) : (Flat enc ok).Mono := fun _ _ _ _ _ h => h

theorem drop_cons {α : Type} {l : List α} {k : Nat} {x : α} (h : l[k]? = some x) : l.drop k = x :: l.drop (k + 1) := by
  obtain ⟨hk, rfl⟩ := List.getElem?_eq_some_iff.1 h
  exact List.drop_eq_getElem_cons hk

theorem take_succ {α : Type} {l : List α} {k : Nat} {x : α} (h : l[k]? = some x) : l.take (k + 1) = l.take k ++ [x] := by
  rw [List.take_add_one, h]; rfl

/-! ### A row of the call's own -/
def setCells (w : World) (g p : Nat) : List Value → World
  | [] => w
  | u :: us => setCells (w.setCell ⟨g, p, none⟩ u) g (p + 1) us
def setAll (L : List Value) (p : Nat) : List Value → List Value
  | [] => L
  | u :: us => setAll (L.set p u) (p + 1) us
theorem length_setAll (us : List Value) : ∀ (L : List Value) (p : Nat), (setAll L p us).length = L.length := by
  induction us with
  | nil => intro L p; rfl
  | cons u us ih => intro L p; simp [setAll, ih]
theorem take_setAll_low (us : List Value) : ∀ (L : List Value) (p q : Nat), q ≤ p → (setAll L p us).take q = L.take q := by
  induction us with
  | nil => intro L p q _; rfl
  | cons u us ih =>
    intro L p q h
    rw [setAll, ih _ _ _ (by omega), List.take_set_of_le (by omega)]
theorem take_setAll (us : List Value) : ∀ (L : List Value) (p : Nat), p + us.length ≤ L.length → (setAll L p us).take (p + us.length) = L.take p ++ us := by
  induction us with
  | nil => intro L p _; simp [setAll]
  | cons u us ih =>
    intro L p h
    simp only [List.length_cons] at h ⊢
    have h1 := ih (L.set p u) (p + 1) (by simp; omega)
    rw [setAll, show p + (us.length + 1) = p + 1 + us.length by omega, h1]
    rw [List.take_add_one, List.take_set_of_le (by omega), List.getElem?_set_self (by omega)]
    simp
section
variable {w w' w0 : World} {base : Nat} {e : TypeId} {size : Nat} {v : Value} {n : Nat} {xs : List Value} {g cap : Nat}
theorem owns_ext (h : w.ownsRow base e size v n xs) (hb : Ext w w') : w'.ownsRow base e size v n xs := by
  obtain ⟨h1, h2⟩ := h
  refine ⟨h1, ?_⟩
  rcases h2 with h2 | ⟨g, cap, cur, hv, hg, hh, r⟩
  · exact Or.inl h2
  · refine Or.inr ⟨g, cap, cur, hv, hg, ?_, r⟩
    have : g < w.heap.size := by
      rcases Nat.lt_or_ge g w.heap.size with hl | hl
      · exact hl
      · rw [Array.getElem?_eq_none hl] at hh; cases hh
    rw [hb.block g this]; exact hh
theorem owns_puts (us : List Value) : ∀ (w : World) (L : List Value) (p : Nat), w.ownsRow base e size (.slice (some ⟨g, 0, none⟩) n cap) n L →
    (setCells w g p us).ownsRow base e size (.slice (some ⟨g, 0, none⟩) n cap) n (setAll L p us) := by
  induction us with
  | nil => intro w L p h; exact h
  | cons u us ih => intro w L p h; exact ih _ _ _ (h.stored p u).1
theorem Ext.puts (us : List Value) : ∀ (w : World) (p : Nat), Ext w0 w → w0.heap.size ≤ g → Ext w0 (setCells w g p us) := by
  induction us with
  | nil => intro w p h _; exact h
  | cons u us ih => intro w p h hg; exact ih _ _ (h.setCell hg u) hg
theorem owns_cell (h : w.ownsRow base e size (.slice (some ⟨g, 0, none⟩) n cap) n xs) {j : Nat} (hj : j < n * size) : ∃ u, w.cell? ⟨g, j, none⟩ = some u :=
  ⟨xs[j]'(by rw [h.1]; exact hj), by rw [h.cellAt j hj, List.getElem?_eq_getElem]⟩
theorem owns_lt (h : w.ownsRow base e size (.slice (some ⟨g, 0, none⟩) n cap) n xs) : base ≤ g ∧ g < w.heap.size := h.lt g rfl
end

/-- A slice in new memory (or nil), which reads as xs. -/
def OwnAt {α : Type} (R : Rel α) (e : TypeId) (sz : Nat) (w : World) (base : Nat) (v : Value) (xs : List α) : Prop :=
  ∃ L, w.ownsRow base e sz v xs.length L ∧ ∀ k x, xs[k]? = some x → R w ((L.drop (k * sz)).take sz) x
section
variable {α : Type} {R : Rel α} {e : TypeId} {sz n base : Nat} {w w' : World} {v : Value} {xs : List α}
theorem OwnAt.ext (hm : R.Mono) (h : OwnAt R e sz w base v xs) (hb : Ext w w') : OwnAt R e sz w' base v xs := by
  obtain ⟨L, h1, h2⟩ := h
  exact ⟨L, owns_ext h1 hb, fun k x hx => hm _ _ _ _ hb (h2 k x hx)⟩
theorem OwnAt.mono {base' : Nat} (h : OwnAt R e sz w base v xs) (hb : base' ≤ base) : OwnAt R e sz w base' v xs := by
  obtain ⟨L, ⟨h1, h3⟩, h2⟩ := h
  refine ⟨L, ⟨h1, ?_⟩, h2⟩
  rcases h3 with h3 | ⟨g, cap, cur, hv, hg, r⟩
  · exact .inl h3
  · exact .inr ⟨g, cap, cur, hv, Nat.le_trans hb hg, r⟩
theorem OwnAt.sl (h : OwnAt R e sz w base v xs) : ∃ A c, v = .slice A xs.length c ∧ SlAt R sz w A xs.length xs := by
  obtain ⟨L, ⟨hlen, h1⟩, h2⟩ := h
  rcases h1 with ⟨rfl, h0⟩ | ⟨g, cap, cur, rfl, hg, hh, hnc, hcm, hcs, htake⟩
  · have : xs = [] := List.eq_nil_of_length_eq_zero h0
    subst this
    exact ⟨none, 0, rfl, SlAt.nil none⟩
  · refine ⟨_, cap, rfl, rfl, fun hn => ⟨g, 0, rfl, ?_, fun k x hx => ⟨_, ?_, ?_, h2 k x hx⟩⟩⟩
    · rcases Nat.lt_or_ge g w.heap.size with hl | hl
      · exact hl
      · rw [Array.getElem?_eq_none hl] at hh; cases hh
    · have hk : k < xs.length := (List.getElem?_eq_some_iff.1 hx).1
      have : (k + 1) * sz ≤ xs.length * sz := Nat.mul_le_mul_right _ hk
      rw [Nat.add_mul] at this
      simp [hlen]; omega
    · intro j u hu
      have hj : j < sz := by
        have := (List.getElem?_eq_some_iff.1 hu).1
        simp at this; omega
      rw [List.getElem?_take, if_pos hj, List.getElem?_drop] at hu
      rw [cell_of_row w g _ cur e (0, 0) hh, Nat.zero_add]
      rw [← htake, List.getElem?_take] at hu
      split at hu
      · simpa using hu
      · cases hu
/-- From the row's cells, all laid by the datum. -/
theorem OwnAt.flat {enc : α → List Value} {ok : α → Prop} (hsz : ∀ x, (enc x).length = sz) (hok : ∀ x ∈ xs, ok x) (h : w.ownsRow base e sz v xs.length (xs.flatMap enc)) : OwnAt (Flat enc ok) e sz w base v xs := by
  refine ⟨_, h, fun k x hx => ⟨?_, hok x (List.mem_of_getElem? hx)⟩⟩
  clear h hok
  induction xs generalizing k with
  | nil => simp at hx
  | cons y ys ih =>
    cases k with
    | zero =>
      simp at hx; subst hx
      simp [List.flatMap_cons, ← hsz y]
    | succ k =>
      simp at hx
      rw [← ih k hx, List.flatMap_cons, show (k + 1) * sz = (enc y).length + k * sz by rw [hsz, Nat.add_mul]; omega, List.drop_append]
      rw [List.drop_eq_nil_of_le (by omega), List.nil_append, Nat.add_sub_cancel_left]
end
theorem SlAt.all {α : Type} {enc : α → List Value} {ok : α → Prop} {sz n : Nat} {w : World} {A : Option Addr} {xs : List α} (h : SlAt (Flat enc ok) sz w A n xs) : ∀ x ∈ xs, ok x := by
  intro x hx
  obtain ⟨k, hk, rfl⟩ := List.getElem_of_mem hx
  obtain ⟨_, _, _, _, hc⟩ := h.2 (by rw [← h.1]; omega)
  obtain ⟨_, _, _, _, hok⟩ := hc k _ (List.getElem?_eq_getElem hk)
  exact hok
theorem flat_step {α : Type} {enc : α → List Value} {xs : List α} {L : List Value} {k sz n : Nat} {x : α} (hL : L.take (k * sz) = (xs.take k).flatMap enc) (hlen : L.length = n * sz) (hk : k < n) (hx : xs[k]? = some x) (hsz : (enc x).length = sz) :
    (setAll L (k * sz) (enc x)).take ((k + 1) * sz) = (xs.take (k + 1)).flatMap enc := by
  have h1 := take_setAll (enc x) L (k * sz) (by
    have : (k + 1) * sz ≤ n * sz := Nat.mul_le_mul_right _ hk
    rw [Nat.add_mul] at this; omega)
  rw [hsz] at h1
  rw [Nat.add_mul, Nat.one_mul, h1, hL, take_succ hx]
  simp

/-- A call hands back a slice in new memory that reads as xs. -/
def RetOwn {α : Type} (R : Rel α) (e : TypeId) (sz : Nat) (w : World) (xs : List α) : Ending → World → Prop :=
  fun en w' => ∃ A c, en = .returned (.slice A xs.length c) ∧ OwnAt R e sz w' w.heap.size (.slice A xs.length c) xs ∧ Ext w w'
/-- .. of which only its reading is told. -/
def RetSl {α : Type} (R : Rel α) (sz : Nat) (w : World) (xs : List α) : Ending → World → Prop :=
  fun en w' => ∃ A c, en = .returned (.slice A xs.length c) ∧ SlAt R sz w' A xs.length xs ∧ Ext w w'
theorem RetOwn.sl {α : Type} {R : Rel α} {e : TypeId} {sz : Nat} {w : World} {xs : List α} {P : Program} {f : FuncId} {args : Array Value} (h : Calls P f args w (RetOwn R e sz w xs)) : Calls P f args w (RetSl R sz w xs) :=
  h.mono fun en w' ⟨A, c, he, ho, hb⟩ => by
    obtain ⟨A', c', e1, h1⟩ := ho.sl
    injection e1 with e2 e3 e4
    subst e2 e4
    exact ⟨A, c, he, h1, hb⟩
theorem ret_own {α : Type} {w w0 : World} {P : Program} {fn : Func} {a : Act} {t : Tmp} {enc : α → List Value} {ok : α → Prop} {e : TypeId} {sz n k g c : Nat} {xs : List α} {L : List Value} (hr : fn.results = #[.tmp t])
    (hlen : xs.length = n) (hown : w.ownsRow w0.heap.size e sz (.slice (some ⟨g, 0, none⟩) n c) n L) (hL : L.take (k * sz) = (xs.take k).flatMap enc) (hsz : ∀ x, (enc x).length = sz) (hok : ∀ x ∈ xs, ok x) (hk : k = n)
    (hb : Ext w0 w) (hv : a.tmps.getD t undef = .slice (some ⟨g, 0, none⟩) n c := by rfl) (hd : a.defers = [] := by rfl) : bodyPost P fn (RetOwn (Flat enc ok) e sz w0 xs) .ret a w := by
  subst hlen hk
  refine bodyPost_ret (results_tmp hr _ _ _) hd ⟨some ⟨g, 0, none⟩, c, by rw [hv], ?_, hb⟩
  rw [List.take_of_length_le (by rw [hown.1]; exact Nat.le_refl _), List.take_of_length_le (Nat.le_refl _)] at hL
  exact OwnAt.flat hsz hok (by rw [← hL]; exact hown)

/-- What is left of a budget of values. -/
def szM (n : Nat) (left : Int) : Int := if left - n < 0 then -1 else left - n
theorem szM_ge {n : Nat} {left : Int} (h : ¬ szM n left < 0) : (n : Int) ≤ left ∧ szM n left = left - n := by
  unfold szM at *; split at h <;> constructor <;> omega
theorem szM_cases (n : Nat) (left : Int) : szM n left < 0 ∨ (¬ szM n left < 0 ∧ (n : Int) ≤ left ∧ szM n left = left - n) := by
  unfold szM; split <;> omega

theorem cell_boxed (w : World) (cs : List Value) (e : TypeId) : ∀ j u, cs[j]? = some u → (w.alloc (.cells cs.toArray e)).cell? ((⟨w.heap.size, 0, none⟩ : Addr).add j) = some u := by
  intro j u hu
  have : ((⟨w.heap.size, 0, none⟩ : Addr).add j) = ⟨w.heap.size, j, none⟩ := by unfold Addr.add; split <;> simp_all
  rw [this, cell_of_row _ _ _ cs.toArray e (0, 0) (heap_alloc_new w _)]
  simpa using hu
/-- 'out = append(out, x)': out the call's own (or nil), x one value, laid in a box of its own. -/
theorem wpList_append_one {P : Program} {w w0 : World} {ops : Array Oper} {rest : List Oper} {o : Oper} {a : Act} {Q : Exit → Act → World → Prop} (s x : Operand) (t : TypeId)
    (base : Nat) (e : TypeId) (i : TypeInfo) (z : Value) (size bytes : Nat) (v : Value) (n : Nat) (L cs : List Value) (hgd : o.guard = none)
    (ho : o.op = .call { callee := .builtin .append, args := #[s, x], argTypes := #[t, t] })
    (ht : P.underlying t = some (.slice e)) (hi : P.info? e = some i) (hz : i.zero = some z)
    (hsize : i.size = size) (hby : i.bytes = bytes) (hzs : z.cells.size = size) (hsz : 0 < size)
    (hs : a.eval s = v) (hown : w.ownsRow base e size v n L)
    (p : Nat) (hx : a.eval x = .slice (some ⟨p, 0, none⟩) 1 1) (hp : p = w.heap.size) (hl : cs.length = size) (h1 : ∀ u ∈ cs, u.oneCell' = true)
    (h63 : n + 1 ≤ maxLen) (hbytes : (n + 1) * bytes ≤ 140737488355328) (hext : Ext w0 w) (hb0 : w0.heap.size ≤ base)
    (hbw : base ≤ w.heap.size)
    (h : ∀ A c w', w'.ownsRow base e size (.slice A (n + 1) c) (n + 1) (L ++ cs) → Ext w0 w' → w'.heap.size ≥ w.heap.size → wpList P ops Q rest (a.put o.dst (.slice A (n + 1) c)) w') : wpList P ops Q (o :: rest) a (w.alloc (.cells cs.toArray e)) := by
  subst hp
  refine wpList_append_own _ hgd s x t ho base e i z size bytes ht hi hz hsize hby hzs hsz v n L hs (hown.alloc _) ⟨w.heap.size, 0, none⟩ 1 1 cs hx (by rw [hl, Nat.one_mul]) (cell_boxed w cs e) h1 h63 hbytes (by simp; omega) ?_
  intro v' w' ho' hg' _
  have hb' : Ext w0 w' := Below.grown (Ext.alloc hext _) hg' (by have := hext.le; simp; omega) (fun k hk => by
    have := (hown.alloc (.cells cs.toArray e)).lt k hk; omega)
  have hsz' := hg'.size
  simp at hsz'
  obtain ⟨hlen, ⟨_, h0⟩ | ⟨g, cap, cur, rfl, r⟩⟩ := ho'
  · omega
  · exact h _ _ _ ⟨hlen, .inr ⟨g, cap, cur, rfl, r⟩⟩ hb' (by omega)

theorem bytes_inj {a b : ByteArray} : a.toList = b.toList ↔ a = b := by
  rw [ByteArray.toList_eq, ByteArray.toList_eq]
  constructor
  · intro h; cases a; cases b; simp only [ByteArray.mk.injEq]; exact Array.toList_inj.1 h
  · rintro rfl; rfl

/-- 'string([]byte{c})'. -/
theorem run_byte_string {P : Program} {src dst e : TypeId} (hs : P.underlying src = some (.slice e)) (he : P.underlying e = some (.int .u8)) (hd : P.underlying dst = some .string) (W : World) (n : Int) :
    (convert src dst (.slice (some ⟨W.heap.size, 0, none⟩) 1 1)).run P (W.alloc (.cells #[.int .u8 n] e)) = .ok (.string ⟨#[UInt8.ofNat n.toNat]⟩) (W.alloc (.cells #[.int .u8 n] e)) := by
  rw [run_convert_bytes_string _ src dst e _ _ _ hs he hd, run_bytesToString _ _ _ _ [n] (by simp [go_sem])]
  rfl

theorem cons_bytes (c : UInt8) (out : List UInt8) : (⟨#[c]⟩ : ByteArray) ++ (⟨out.toArray⟩ : ByteArray) = ⟨(c :: out).toArray⟩ := by
  apply bytes_inj.1
  rw [ByteArray.toList_eq, ByteArray.toList_eq]
  simp [ByteArray.data_append]

theorem run_append_of_nil {P : Program} (w : World) (base : Nat) (t ty e : TypeId) (i : TypeInfo) (size : Nat) (ht : P.underlying t = some (.slice e)) (hi : P.info? e = some i)
    (v : Value) (n : Nat) (xs : List Value) (hown : w.ownsRow base e size v n xs) (c : Nat) : (Builtin.append_ #[t, t] ty #[v, .slice none 0 c]).run P w = .ok v w := by
  rcases hown.2 with ⟨rfl, rfl⟩ | ⟨g, cap, cur, rfl, _, _, hnc, _⟩
  · simp [Builtin.append_, run_underlying ht, sizeOf, typeInfo, hi, Builtin.lenOf, Builtin.firstCells]
  · simp [Builtin.append_, run_underlying ht, sizeOf, typeInfo, hi, Builtin.lenOf, Builtin.firstCells, hnc, storeCells]
/-- The cells of a slice whose elements are laid by the datum alone. -/
theorem SlAt.flatCells {α : Type} {enc : α → List Value} {ok : α → Prop} {sz n : Nat} {w : World} {A : Option Addr} {ys : List α} (h : SlAt (Flat enc ok) sz w A n ys) (hsz : ∀ x, (enc x).length = sz) (hn : 0 < n) :
    ∃ b o, A = some ⟨b, o, none⟩ ∧ b < w.heap.size ∧ ∀ j u, (ys.flatMap enc)[j]? = some u → w.cell? ⟨b, o + j, none⟩ = some u := by
  obtain ⟨b, o, rfl, hb, hc⟩ := h.2 hn
  refine ⟨b, o, rfl, hb, ?_⟩
  have key : ∀ (zs : List α) (off : Nat), (∀ k x, zs[k]? = some x → ∀ j u, (enc x)[j]? = some u → w.cell? ⟨b, o + (off + k * sz + j), none⟩ = some u) → ∀ j u, (zs.flatMap enc)[j]? = some u → w.cell? ⟨b, o + (off + j), none⟩ = some u := by
    intro zs
    induction zs with
    | nil => intro off _ j u hu; simp at hu
    | cons z zs ih =>
      intro off hz j u hu
      rw [List.flatMap_cons] at hu
      by_cases hj : j < sz
      · rw [List.getElem?_append_left (by rw [hsz]; exact hj)] at hu
        have := hz 0 z rfl j u hu
        rw [Nat.zero_mul, Nat.add_zero] at this; exact this
      · rw [List.getElem?_append_right (by rw [hsz]; omega), hsz] at hu
        have := ih (off + sz) (fun k x hx j u hu => by
          have := hz (k + 1) x (by simpa using hx) j u hu
          rw [Nat.add_mul, Nat.one_mul] at this
          rw [show off + sz + k * sz + j = off + (k * sz + sz) + j by omega]; exact this) (j - sz) u hu
        rw [show off + sz + (j - sz) = off + j by omega] at this; exact this
  intro j u hu
  have := key ys 0 (fun k x hx j u hu => by
    obtain ⟨cs, _, h2, rfl, _⟩ := hc k x hx
    have := h2 j u hu
    rw [Nat.zero_add, ← Nat.add_assoc]; exact this) j u hu
  rw [Nat.zero_add] at this; exact this
/-- 'out = append(out, ys...)': out the call's own (or nil), ys whatever slice reads as a list. -/
theorem wpList_append_list {P : Program} {w w0 : World} {ops : Array Oper} {rest : List Oper} {o : Oper} {a : Act} {Q : Exit → Act → World → Prop} {α : Type} {enc : α → List Value} {ok : α → Prop} (s x : Operand) (t : TypeId)
    (base : Nat) (e : TypeId) (i : TypeInfo) (z : Value) (size bytes : Nat) (v : Value) (n : Nat) (L : List Value) (A : Option Addr) (m c : Nat) (ys : List α) (hgd : o.guard = none)
    (ho : o.op = .call { callee := .builtin .append, args := #[s, x], argTypes := #[t, t] })
    (ht : P.underlying t = some (.slice e)) (hi : P.info? e = some i) (hz : i.zero = some z)
    (hsize : i.size = size) (hby : i.bytes = bytes) (hzs : z.cells.size = size) (hsz : 0 < size)
    (hs : a.eval s = v) (hown : w.ownsRow base e size v n L)
    (hx : a.eval x = .slice A m c) (hys : SlAt (Flat enc ok) size w A m ys) (hl : ∀ y, (enc y).length = size) (h1 : ∀ y, ∀ u ∈ enc y, u.oneCell' = true)
    (h63 : n + m ≤ maxLen) (hbytes : (n + m) * bytes ≤ 140737488355328) (hext : Ext w0 w) (hb0 : w0.heap.size ≤ base)
    (hbw : base ≤ w.heap.size)
    (h : ∀ A' c' w', (w'.ownsRow base e size (.slice A' (n + m) c') (n + m) (L ++ ys.flatMap enc)) → Ext w0 w' → w'.heap.size ≥ w.heap.size → wpList P ops Q rest (a.put o.dst (.slice A' (n + m) c')) w') : wpList P ops Q (o :: rest) a w := by
  have hshape : ∀ {w' : World} {v' : Value} {L' : List Value}, w'.ownsRow base e size v' (n + m) L' → ∃ A' c', v' = .slice A' (n + m) c' := by
    intro w' v' L' h'
    rcases h'.2 with ⟨rfl, h0⟩ | ⟨g, cap, cur, rfl, _⟩
    · exact ⟨none, 0, by rw [h0]⟩
    · exact ⟨_, _, rfl⟩
  rcases Nat.eq_zero_or_pos m with h0 | h0
  · subst h0
    have hy : ys = [] := List.eq_nil_of_length_eq_zero hys.1
    subst hy
    rcases A with _ | ad
    · refine wpList_plain hgd fun K hK => ?_
      have hrun := run_append_of_nil (P := P) w base t o.type e i size ht hi v n L hown c
      unfold Oper.wp execOp
      simp only [ho, resolve, invoke, builtin, Sem.run_bind, Sem.run_pure, Result.andThen_ok, List.map_toArray, List.map_cons, List.map_nil, hs, hx, hrun]
      obtain ⟨A', c', e1⟩ := hshape (show w.ownsRow base e size v (n + 0) L from hown)
      subst e1
      exact hK _ _ (h A' c' w (by simpa using hown) hext (Nat.le_refl _))
    · refine wpList_append_own w hgd s x t ho base e i z size bytes ht hi hz hsize hby hzs hsz v n L hs hown ad 0 c [] hx (by simp) (fun j u hu => by simp at hu) (fun u hu => by cases hu) h63 hbytes hbw ?_
      intro v' w' ho' hg' _
      obtain ⟨A', c', rfl⟩ := hshape ho'
      exact h A' c' w' (by simpa using ho') (Below.grown hext hg' hext.le (fun k hk => by have := hown.lt k hk; omega)) hg'.size
  · obtain ⟨b, off, rfl, hb, hc⟩ := hys.flatCells hl h0
    have hlen : (ys.flatMap enc).length = m * size := by
      rw [← hys.1]; clear h hc hys hx
      induction ys with
      | nil => simp
      | cons y ys ih => rw [List.flatMap_cons, List.length_append, hl, ih, List.length_cons, Nat.add_mul]; omega
    refine wpList_append_own w hgd s x t ho base e i z size bytes ht hi hz hsize hby hzs hsz v n L hs hown ⟨b, off, none⟩ m c (ys.flatMap enc) hx hlen (fun j u hu => ?_) (fun u hu => ?_) h63 hbytes hbw ?_
    · have := hc j u hu
      unfold Addr.add; split
      · rename_i hj; subst hj; exact this
      · exact this
    · obtain ⟨y, _, hu⟩ := List.mem_flatMap.1 hu; exact h1 y u hu
    · intro v' w' ho' hg' _
      obtain ⟨A', c', rfl⟩ := hshape ho'
      exact h A' c' w' ho' (Below.grown hext hg' hext.le (fun k hk => by have := hown.lt k hk; omega)) hg'.size

/-- What is left of a budget of values and letters. -/
def szOne (n : Nat) (l : Int) : Int := if l - n < 0 then -1 else l - n
def szStr {α : Type} (f : α → Nat) : List α → Int → Int
  | [], l => l
  | a :: r, l => if szOne (f a) l < 0 then -1 else szStr f r (szOne (f a) l)
def szSM {α : Type} (f : α → Nat) (xs : List α) (l : Int) : Int := if l - xs.length < 0 then -1 else szStr f xs (l - xs.length)
theorem szOne_cases (n : Nat) (l : Int) : (szOne n l < 0 ∧ szOne n l = -1) ∨ (¬ szOne n l < 0 ∧ (n : Int) ≤ l ∧ szOne n l = l - n) := by
  unfold szOne; split <;> omega
theorem szStr_le {α : Type} (f : α → Nat) (xs : List α) : ∀ l : Int, szStr f xs l ≤ l ∨ szStr f xs l = -1 := by
  induction xs with
  | nil => intro l; exact .inl (Int.le_refl _)
  | cons a r ih =>
    intro l
    rw [szStr]
    rcases szOne_cases (f a) l with ⟨h, _⟩ | ⟨h, h1, h2⟩
    · rw [if_pos h]; exact .inr rfl
    · rw [if_neg h]; rcases ih (szOne (f a) l) with h3 | h3
      · exact .inl (by omega)
      · exact .inr h3
theorem szSM_cases {α : Type} (f : α → Nat) (xs : List α) (l : Int) : szSM f xs l < 0 ∨ (¬ szSM f xs l < 0 ∧ (xs.length : Int) ≤ l ∧ szSM f xs l ≤ l) := by
  unfold szSM
  split
  · exact .inl (by omega)
  · rename_i h
    rcases szStr_le f xs (l - xs.length) with h1 | h1 <;> omega

theorem ret_own2 {α : Type} {w w0 : World} {P : Program} {fn : Func} {a : Act} {t : Tmp} {enc : α → List Value} {ok : α → Prop} {e : TypeId} {sz n c : Nat} {A : Option Addr} {ys : List α} (hr : fn.results = #[.tmp t])
    (hown : w.ownsRow w0.heap.size e sz (.slice A n c) n (ys.flatMap enc)) (hlen : ys.length = n) (hsz : ∀ x, (enc x).length = sz) (hok : ∀ x ∈ ys, ok x)
    (hb : Ext w0 w) (hv : a.tmps.getD t undef = .slice A n c := by rfl) (hd : a.defers = [] := by rfl) : bodyPost P fn (RetOwn (Flat enc ok) e sz w0 ys) .ret a w := by
  subst hlen
  exact bodyPost_ret (results_tmp hr _ _ _) hd ⟨A, c, by rw [hv], OwnAt.flat hsz hok hown, hb⟩
/-- A call hands back a slice in new memory that reads as xs, and a bool. -/
def RetOwnB {α : Type} (R : Rel α) (e : TypeId) (sz : Nat) (w : World) (xs : List α) (b : Bool) : Ending → World → Prop :=
  fun en w' => ∃ A c, en = .returned (.tuple #[.slice A xs.length c, .bool b]) ∧ OwnAt R e sz w' w.heap.size (.slice A xs.length c) xs ∧ Ext w w'
theorem ret_ownB {α : Type} {w w0 : World} {P : Program} {fn : Func} {a : Act} {t u : Tmp} {enc : α → List Value} {ok : α → Prop} {e : TypeId} {sz n c : Nat} {A : Option Addr} {ys : List α} {b : Bool} (hr : fn.results = #[.tmp t, .tmp u])
    (hown : w.ownsRow w0.heap.size e sz (.slice A n c) n (ys.flatMap enc)) (hlen : ys.length = n) (hsz : ∀ x, (enc x).length = sz) (hok : ∀ x ∈ ys, ok x)
    (hb : Ext w0 w) (hv : a.tmps.getD t undef = .slice A n c := by rfl) (hu : a.tmps.getD u undef = .bool b := by rfl) (hd : a.defers = [] := by rfl) : bodyPost P fn (RetOwnB (Flat enc ok) e sz w0 ys b) .ret a w := by
  subst hlen
  exact bodyPost_ret (results_tmp2 hr _ _ _) hd ⟨A, c, by rw [hv, hu], OwnAt.flat hsz hok hown, hb⟩
theorem flatMap_set {α : Type} {enc : α → List Value} {sz j : Nat} (hsz : ∀ y, (enc y).length = sz) (hj : j < sz) {x x' : α} {u : Value} (he : enc x' = (enc x).set j u) (post : List α) : ∀ pre : List α,
    ((pre ++ x :: post).flatMap enc).set (pre.length * sz + j) u = (pre ++ x' :: post).flatMap enc := by
  intro pre
  induction pre with
  | nil =>
    simp only [List.nil_append, List.length_nil, Nat.zero_mul, Nat.zero_add, List.flatMap_cons]
    rw [List.set_append_left _ _ (by rw [hsz]; exact hj), he]
  | cons p pre ih =>
    simp only [List.cons_append, List.flatMap_cons, List.length_cons]
    rw [List.set_append_right _ _ (by rw [hsz, Nat.add_mul]; omega), hsz, show (pre.length + 1) * sz + j - sz = pre.length * sz + j by rw [Nat.add_mul]; omega, ih]
theorem flatMap_get {α : Type} {enc : α → List Value} {sz j : Nat} (hsz : ∀ y, (enc y).length = sz) (hj : j < sz) {xs : List α} {k : Nat} {x : α} (hx : xs[k]? = some x) : (xs.flatMap enc)[k * sz + j]? = (enc x)[j]? := by
  induction xs generalizing k with
  | nil => simp at hx
  | cons y ys ih =>
    cases k with
    | zero =>
      simp at hx; subst hx
      rw [List.flatMap_cons, List.getElem?_append_left (by rw [hsz]; omega)]; simp
    | succ k =>
      simp at hx
      rw [List.flatMap_cons, List.getElem?_append_right (by rw [hsz, Nat.add_mul]; omega), hsz, show (k + 1) * sz + j - sz = k * sz + j by rw [Nat.add_mul]; omega, ih hx]
theorem split_at {α : Type} {xs : List α} {k : Nat} {x : α} (hx : xs[k]? = some x) : xs = xs.take k ++ x :: xs.drop (k + 1) := by
  rw [← drop_cons hx, List.take_append_drop]
/-- An empty slice that is not nil. -/
theorem owns_empty (w : World) (e : TypeId) (sz : Nat) : (w.alloc (.cells #[] e)).ownsRow w.heap.size e sz (.slice (some ⟨w.heap.size, 0, none⟩) 0 0) 0 [] :=
  World.ownsRow_lit w #[] 0 (Nat.le_refl _) (by unfold maxLen; omega) (by simp)

theorem own_form {w : World} {base : Nat} {e : TypeId} {size n : Nat} {v : Value} {L : List Value} (h : w.ownsRow base e size v n L) (hn : 0 < n) : ∃ g cap, v = .slice (some ⟨g, 0, none⟩) n cap ∧ base ≤ g ∧ g < w.heap.size := by
  have h' := h
  obtain ⟨_, ⟨_, h0⟩ | ⟨g, cap, cur, rfl, hb, r⟩⟩ := h
  · omega
  · exact ⟨g, cap, rfl, hb, (owns_lt h').2⟩

theorem owns_base {w : World} {base base' : Nat} {e : TypeId} {size n : Nat} {v : Value} {L : List Value} (h : w.ownsRow base e size v n L) (hb : base' ≤ base) : w.ownsRow base' e size v n L := by
  obtain ⟨h1, h3⟩ := h
  refine ⟨h1, ?_⟩
  rcases h3 with h3 | ⟨g, cap, cur, hv, hg, r⟩
  · exact .inl h3
  · exact .inr ⟨g, cap, cur, hv, Nat.le_trans hb hg, r⟩

theorem OwnAt.slAt {α : Type} {R : Rel α} {e : TypeId} {sz base c : Nat} {A : Option Addr} {w : World} {xs : List α} (h : OwnAt R e sz w base (.slice A xs.length c) xs) : SlAt R sz w A xs.length xs := by
  obtain ⟨A', c', e1, h1⟩ := h.sl
  injection e1 with e2 e3 e4
  subst e2
  exact h1
theorem OwnAt.kept {α : Type} {enc : α → List Value} {ok : α → Prop} {e : TypeId} {sz base : Nat} {v : Value} {w w' : World} {row : Option Nat} {xs : List α} (h : OwnAt (Flat enc ok) e sz w base v xs) (hg : w.grownBy w' row) (hne : v.ownBlock = none ∨ v.ownBlock ≠ row) : OwnAt (Flat enc ok) e sz w' base v xs := by
  obtain ⟨L, h1, h2⟩ := h
  exact ⟨L, h1.kept hg hne, h2⟩
theorem OwnAt.block {α : Type} {R : Rel α} {e : TypeId} {sz base : Nat} {v : Value} {w : World} {xs : List α} (h : OwnAt R e sz w base v xs) : ∀ k, v.ownBlock = some k → base ≤ k ∧ k < w.heap.size := by
  obtain ⟨L, h1, _⟩ := h
  exact h1.lt
theorem own_ne {v v' : Value} {B : Nat} (h : ∀ k, v.ownBlock = some k → B ≤ k) (h' : ∀ k, v'.ownBlock = some k → k < B) : v.ownBlock = none ∨ v.ownBlock ≠ v'.ownBlock := by
  cases hv : v.ownBlock with
  | none => exact .inl rfl
  | some k => exact .inr fun e => by have h1 := h k hv; have h2 := h' k e.symm; omega
theorem ext_grown {w w1 w2 : World} {row : Option Nat} (h : Ext w w1) (hg : w1.grownBy w2 row) (hr : ∀ k, row = some k → w.heap.size ≤ k) : Ext w w2 := Below.grown h hg h.le hr

end Go.Proofs.YtgmlcohffdeplaaGreat
