/- Contracts over lists of accounts. -/
import Derived.Test.YtmnghgacglppeaaWord
namespace Go.Proofs.Ytmnghgacglppeaa
open Go.RowKit
def chainGo {α : Type} (ok : α → Bool) (lt : α → α → Bool) : Option α → List α → Bool
  | _, [] => true
  | none, d :: r => ok d && chainGo ok lt (some d) r
  | some q, d :: r => ok d && lt q d && chainGo ok lt (some d) r
def prevOf {α : Type} (l : List α) (k : Nat) : Option α := if k = 0 then none else l[k - 1]?
theorem prevOf_zero {α : Type} (l : List α) : prevOf l 0 = none := rfl
theorem prevOf_succ {α : Type} {l : List α} {k : Nat} {x : α} (h : l[k]? = some x) : prevOf l (k + 1) = some x := by simp [prevOf, h]
def usedB (n : Int) : Bool := decide (0 ≤ n ∧ n ≤ 1000000000)
def shareB (n : Int) : Bool := decide (1 ≤ n ∧ n ≤ 1000)
def acctOkB (a : Account) : Bool := wordB a.Name && shareB a.Share && usedB a.Used
def nameLtB (p a : ByteArray) : Bool := Op.bytesLess p.toList a.toList
def acctsB (l : List Account) : Bool := chainGo acctOkB (fun p a => nameLtB p.Name a.Name) none l && decide (l.length ≤ 12)
theorem withinB_share (n : Int) : withinB n 1 1000 = shareB n := rfl
theorem withinB_used (n : Int) : withinB n 0 1000000000 = usedB n := rfl
end Go.Proofs.Ytmnghgacglppeaa
