/- How arguments that come in read: as the program's data. No program. -/
import Derived.Test.YtgmlcohffdeplaaGreatData
import Derived.ProofKit
import Derived.OpenShut
import Derived.Deep.Slices
namespace Go.Proofs.YtgmlcohffdeplaaGreat
open Go.RowKit Go.ChangeShapes Go.WideShapes Go.Deep
section
variable {H : Type} {enc : TypeId × Value → H} {P : Program} {W : World}
/-- Cells of type t that read as data stand for something. -/
def Rd {α : Type} (enc : TypeId × Value → H) (P : Program) (W : World) (t : TypeId) (R : Rel α) : Prop :=
  ∀ fuel cs x, DataW.trod enc P W 0 (fun _ => true) true fuel t cs = some x → ∃ a, R W cs a
def RStr : Rel ByteArray := fun _ cs s => cs = [.string s] ∧ s.size ≤ maxLen
def RBool : Rel Bool := fun _ cs b => cs = [.bool b]
def RSl {α : Type} (R : Rel α) (sz : Nat) : Rel (List α) := fun w cs xs => ∃ A n c, cs = [.slice A n c] ∧ SlAt R sz w A n xs ∧ n ≤ maxLen
theorem rd_int {t : TypeId} (ht : P.underlying t = some (.int .i64)) : Rd enc P W t RInt := by
  intro fuel cs x h
  obtain ⟨n, rfl, _, hw⟩ := DataW.trod_int ht h
  exact ⟨n, rfl, bounds_i64 hw⟩
def RU8 : Rel Int := fun _ cs n => cs = [.int .u8 n]
theorem rd_u8 {t : TypeId} (ht : P.underlying t = some (.int .u8)) : Rd enc P W t RU8 := by
  intro fuel cs x h
  obtain ⟨n, rfl, _, hw⟩ := DataW.trod_int ht h
  exact ⟨n, rfl⟩
theorem rd_string {t : TypeId} (ht : P.underlying t = some .string) : Rd enc P W t RStr := by
  intro fuel cs x h
  obtain ⟨s, rfl, _, hs⟩ := DataW.trod_string ht h
  exact ⟨s, rfl, hs⟩
theorem rd_bool {t : TypeId} (ht : P.underlying t = some .bool) : Rd enc P W t RBool := by
  intro fuel cs x h
  obtain ⟨b, rfl, _⟩ := DataW.trod_bool ht h
  exact ⟨b, rfl⟩
theorem spot_none {w : World} {a : Addr} {v : Value} (h : w.cell? a = some v) : a = ⟨a.block, a.off, none⟩ := by
  obtain ⟨b, o, s⟩ := a
  cases s with
  | none => rfl
  | some k => simp [World.cell?] at h; split at h <;> simp at h
theorem rd_slice {α : Type} {R : Rel α} {t e : TypeId} {sz : Nat} (ht : P.underlying t = some (.slice e)) (hc : P.cellsOf e = sz) (hsz : 0 < sz) (hR : Rd enc P W e R) : Rd enc P W t (RSl R sz) := by
  intro fuel cs x h
  rcases open_slice ht h with ⟨rfl, _⟩ | ⟨a, len, cap, m, n, D, Pl, rfl, hb, hl, hm, hmm, _, hx⟩
  · exact ⟨[], none, 0, 0, rfl, SlAt.nil none, by unfold maxLen; omega⟩
  · have hmc : m = cap := by rw [hmm]; rfl
    have hlen : ∀ i, i < len → ∃ y : α, ∃ cs', W.cells? 0 (a.add (i * sz)) sz = some cs' ∧ R W cs' y := by
      intro i hi
      obtain ⟨cs', h1, h2⟩ := hx i (by omega)
      rw [hc] at h1
      obtain ⟨y, hy⟩ := hR _ _ _ h2
      exact ⟨y, cs', h1, hy⟩
    rcases Nat.eq_zero_or_pos len with h0 | h0
    · subst h0
      exact ⟨[], some a, 0, cap, rfl, SlAt.nil _, by omega⟩
    · obtain ⟨y0, _⟩ := hlen 0 h0
      haveI : Inhabited α := ⟨y0⟩
      obtain ⟨f, hf⟩ := choose_lt hlen
      have ha : a = ⟨a.block, a.off, none⟩ ∧ a.block < W.heap.size := by
        obtain ⟨cs', h1, _⟩ := hf 0 h0
        obtain ⟨_, h2, h3⟩ := World.cells?_some h1
        have h4 := h3 0 hsz
        rw [List.getElem?_eq_getElem (by omega)] at h4
        simp only [Nat.zero_mul, Addr.add, if_true] at h4
        exact ⟨spot_none h4, lt_of_cell h4⟩
      obtain ⟨hae, hab⟩ := ha
      refine ⟨(List.range len).map f, some a, len, cap, rfl, ⟨by simp, fun _ => ⟨a.block, a.off, by rw [← hae], hab, fun k y hy => ?_⟩⟩, by omega⟩
      have hk : k < len := by have := (List.getElem?_eq_some_iff.1 hy).1; simpa using this
      obtain ⟨cs', h1, h2⟩ := hf k hk
      obtain ⟨_, h3, h4⟩ := World.cells?_some h1
      have hyf : y = f k := by simp [hk] at hy; exact hy.symm
      subst hyf
      refine ⟨cs', h3, fun j u hu => ?_, h2⟩
      have hj : j < sz := by have := (List.getElem?_eq_some_iff.1 hu).1; omega
      rw [← hu, ← h4 j hj]
      rw [hae]
      unfold Addr.add
      by_cases e1 : k * sz = 0 <;> by_cases e2 : j = 0 <;> simp [e1, e2, Nat.add_assoc]
/-- One piece of a struct's cells. -/
theorem cut_cells (cs : List Value) (o s : Nat) : cs.drop o = (cs.drop o).take s ++ cs.drop (o + s) := by
  rw [← List.drop_drop]; exact (List.take_append_drop s _).symm
theorem open_struct {α : Type} {R : Rel α} {t : TypeId} {fs : Array Field} {r : Reach} {b : Nat} {v : Value} {d : DataW H} {p : List MemPlace} (ht : P.underlying t = some (.struct fs)) (hv : Value.okWide P W r b t v)
    (h : DataW.Trod enc P W 0 (fun _ => true) true t v d p) (hR : Rd enc P W t R) : ∃ cs a, v = .agg cs ∧ R W cs.toList a := by
  obtain ⟨cs, rfl, _⟩ := okWide_struct ht hv
  obtain ⟨fuel, hf⟩ := h
  obtain ⟨a, ha⟩ := hR _ _ _ hf
  exact ⟨cs, a, rfl, ha⟩
theorem open_sl {α : Type} {R : Rel α} {sz : Nat} {t e : TypeId} {r : Reach} {b : Nat} {v : Value} {d : DataW H} {p : List MemPlace} (ht : P.underlying t = some (.slice e)) (hv : Value.okWide P W r b t v)
    (h : DataW.Trod enc P W 0 (fun _ => true) true t v d p) (hR : Rd enc P W t (RSl R sz)) : ∃ A n c xs, v = .slice A n c ∧ SlAt R sz W A n xs ∧ n ≤ maxLen := by
  obtain ⟨A, n, c, rfl⟩ := okWide_slice ht hv
  obtain ⟨fuel, hf⟩ := h
  obtain ⟨xs, A', n', c', he, h1, h2⟩ := hR _ _ _ hf
  simp only [Value.cells, List.cons.injEq, Value.slice.injEq, and_true] at he
  obtain ⟨rfl, rfl, rfl⟩ := he
  exact ⟨A, n, c, xs, rfl, h1, h2⟩
theorem open_str {t : TypeId} {r : Reach} {b : Nat} {v : Value} {d : DataW H} {p : List MemPlace} (ht : P.underlying t = some .string) (hv : Value.okWide P W r b t v)
    (h : DataW.Trod enc P W 0 (fun _ => true) true t v d p) : ∃ s : ByteArray, v = .string s ∧ s.size ≤ maxLen := by
  obtain ⟨s, rfl⟩ := okWide_string ht hv
  obtain ⟨fuel, hf⟩ := h
  obtain ⟨s', he, _, hs⟩ := DataW.trod_string ht hf
  simp only [Value.cells, List.cons.injEq, Value.string.injEq, and_true] at he
  subst he
  exact ⟨s, rfl, hs⟩
theorem open_num {t : TypeId} {r : Reach} {b : Nat} {v : Value} {d : DataW H} {p : List MemPlace} (ht : P.underlying t = some (.int .i64)) (hv : Value.okWide P W r b t v)
    (h : DataW.Trod enc P W 0 (fun _ => true) true t v d p) : ∃ n : Int, v = .int .i64 n ∧ In64 n := by
  obtain ⟨n, rfl⟩ := okWide_int ht hv
  obtain ⟨fuel, hf⟩ := h
  obtain ⟨n', he, _, hw⟩ := DataW.trod_int ht hf
  simp only [Value.cells, List.cons.injEq, Value.int.injEq, and_true, true_and] at he
  subst he
  exact ⟨n, rfl, bounds_i64 hw⟩
end
end Go.Proofs.YtgmlcohffdeplaaGreat
