/- An append in a region that draws its order. Plain. -/
import Derived.Test.YtgmlcohffdeplaaGreatGrow
import Derived.Test.YtgmlcohffdeplaaGreatAppR
namespace Go.Proofs.YtgmlcohffdeplaaGreat
open Go.RowKit
set_option linter.unusedVariables false
theorem grow_append {P : Program} {u : World} {V : Value → Prop} {F : Value → World → Prop} {α : Type} {enc : α → List Value} {ok : α → Prop} {o : Oper} {a : Act} (s x : Operand) (t : TypeId)
    (ho : o.op = .call { callee := .builtin .append, args := #[s, x], argTypes := #[t, t] })
    (base : Nat) (e : TypeId) (i : TypeInfo) (z : Value) (size bytes : Nat) (ht : P.underlying t = some (.slice e)) (hi : P.info? e = some i) (hz : i.zero = some z)
    (hsize : i.size = size) (hby : i.bytes = bytes) (hzs : z.cells.size = size) (hsz : 0 < size)
    (v : Value) (n : Nat) (L : List Value) (A : Option Addr) (m c : Nat) (ys : List α) (N : Nat) (hN : n + m = N) (hs : a.eval s = v) (hx : a.eval x = .slice A m c)
    (hown : u.ownsRow base e size v n L) (hys : SlAt (Flat enc ok) size u A m ys) (hl : ∀ y, (enc y).length = size) (h1 : ∀ y, ∀ u ∈ enc y, u.oneCell' = true)
    (h63 : n + m ≤ maxLen) (hbytes : (n + m) * bytes ≤ 140737488355328) (hbw : base ≤ u.heap.size)
    (h : ∀ A' c' w', AppR u w' base e size v A' N c' (L ++ ys.flatMap enc) → Ext u w' ∧ V (.slice A' N c') ∧ F (.slice A' N c') w') :
    growUpon P u V F ((execOp a.eval o).run P u) := by
  subst hN
  obtain ⟨A', c', w', hr, h2⟩ := run_append_r (P := P) t o.type base e i z size bytes v n L A m c ys ht hi hz hsize hby hzs hsz hown hys hl h1 h63 hbytes hbw
  unfold execOp
  simp only [ho, resolve, invoke, builtin, Sem.run_bind, Sem.run_pure, Result.andThen_ok, List.map_toArray, List.map_cons, List.map_nil, hs, hx, hr]
  exact h A' c' w' h2
/-- The nil slice is what the new one grows from. -/
theorem AppR.nil_ext {w w' : World} {base : Nat} {e : TypeId} {size : Nat} {A' : Option Addr} {n' c' n c : Nat} {L' : List Value} (h : AppR w w' base e size (.slice none n c) A' n' c' L') : Ext w w' :=
  ext_turned (Ext.refl w) (h.turned (lo := w.heap.size) (fun q hq => by cases hq)) (Nat.le_refl _)
end Go.Proofs.YtgmlcohffdeplaaGreat
