/-
  No cell of these rows narrows 'for every input' (looked for: loops, veiled, ifaces, maps, wideKeys, modest, calm, conditions, laid).
  DERIVED. THE GIVEN ROWS OF THIS SEAT. 6 by the template 'for every input the law returns true; each argument reads behind the call as it read before'; 0 by the template 'total and deterministic' (their statements: YtmnghgacglppeaaTotals.lean).
  GIVEN WITH THE SEED: the statements are not yours to turn. If you find one false, say at which input.
  Laid BY PROGRAM, IN A SANDBOX (cutbox-rows.mjs): the forced cells as the released guide's own fill.sh prints them over the translation 0329acb8be655490… (all of the seat's roots in one cut). By AI agents, Wed Nov 11 2026. No macro, syntax, notation, axiom, sorry.
-/
import Derived.Test.YtmnghgacglppeaaChecked
import GoSem.Claim
import GoSem.ClaimJoined
import GoSem.ClaimMapViews
import Derived.JoinedTies
import Derived.KernelRfl
namespace Go.Proofs.Ytmnghgacglppeaa
/- THE CELL 'sum', in the pinned program and in every row, IS THE sha256 OF THE DUMP (.gsa) THAT YtmnghgacglppeaaProg.lean LOADS. Nothing in Lean hashes anything: it is a label: what it is worth is what the hold of that sum in a sandbox is worth. -/
noncomputable def Try.pinned : Pinned := { name := "ytmnghgacglppeaa", sum := "0329acb8be655490a1d28a9cff4531ab796c89486d47145122a1c3509eec5241", checked := Try.checked }
namespace Rows
def none {H : Type} : Left H := { results := [], args := [] }

/-- 'laws.FnExactQuotasOk': WHATEVER THE INPUT: true; the input reads as it did. -/
def fnExactQuotasOkSpec : ChangeSpec := { name := "fnExactQuotasOk", fn := fun _ => fun
  | [d] => { results := [.lit (.bool true)], args := [d] }
  | _ => none }
def fnExactQuotasOkRow : OpenClaim := { program := "ytmnghgacglppeaa", sum := "0329acb8be655490a1d28a9cff4531ab796c89486d47145122a1c3509eec5241", func := "loop.example/g00454/laws.FnExactQuotasOk", spec := "fnExactQuotasOk", apart := false }
def FnExactQuotasOkSaid : Prop := fnExactQuotasOkRow.holds Try.pinned (OpenSpec.ofChange fnExactQuotasOkSpec)

/-- ITS FALSE NEIGHBOUR: 'it returns false'. Refute it at one input. -/
def fnExactQuotasOkWrong : ChangeSpec := { name := "fnExactQuotasOk", fn := fun _ => fun
  | [d] => { results := [.lit (.bool false)], args := [d] }
  | _ => none }
def FnExactQuotasOkWrongFalsely : Prop := fnExactQuotasOkRow.holds Try.pinned (OpenSpec.ofChange fnExactQuotasOkWrong)

/-- 'laws.FnExactHoldsOk': WHATEVER THE INPUT: true; the input reads as it did. -/
def fnExactHoldsOkSpec : ChangeSpec := { name := "fnExactHoldsOk", fn := fun _ => fun
  | [d] => { results := [.lit (.bool true)], args := [d] }
  | _ => none }
def fnExactHoldsOkRow : OpenClaim := { program := "ytmnghgacglppeaa", sum := "0329acb8be655490a1d28a9cff4531ab796c89486d47145122a1c3509eec5241", func := "loop.example/g00454/laws.FnExactHoldsOk", spec := "fnExactHoldsOk", unfollowed := true, recurses := true, apart := false }
def FnExactHoldsOkSaid : Prop := fnExactHoldsOkRow.holds Try.pinned (OpenSpec.ofChange fnExactHoldsOkSpec)

/-- ITS FALSE NEIGHBOUR: 'it returns false'. Refute it at one input. -/
def fnExactHoldsOkWrong : ChangeSpec := { name := "fnExactHoldsOk", fn := fun _ => fun
  | [d] => { results := [.lit (.bool false)], args := [d] }
  | _ => none }
def FnExactHoldsOkWrongFalsely : Prop := fnExactHoldsOkRow.holds Try.pinned (OpenSpec.ofChange fnExactHoldsOkWrong)

/-- 'laws.FnExactHeldBy': WHATEVER THE INPUT: true; the input reads as it did. -/
def fnExactHeldBySpec : ChangeSpec := { name := "fnExactHeldBy", fn := fun _ => fun
  | [d1, d2] => { results := [.lit (.bool true)], args := [d1, d2] }
  | _ => none }
def fnExactHeldByRow : OpenClaim := { program := "ytmnghgacglppeaa", sum := "0329acb8be655490a1d28a9cff4531ab796c89486d47145122a1c3509eec5241", func := "loop.example/g00454/laws.FnExactHeldBy", spec := "fnExactHeldBy", unfollowed := true, recurses := true, apart := false }
def FnExactHeldBySaid : Prop := fnExactHeldByRow.holds Try.pinned (OpenSpec.ofChange fnExactHeldBySpec)

/-- ITS FALSE NEIGHBOUR: 'it returns false'. Refute it at one input. -/
def fnExactHeldByWrong : ChangeSpec := { name := "fnExactHeldBy", fn := fun _ => fun
  | [d1, d2] => { results := [.lit (.bool false)], args := [d1, d2] }
  | _ => none }
def FnExactHeldByWrongFalsely : Prop := fnExactHeldByRow.holds Try.pinned (OpenSpec.ofChange fnExactHeldByWrong)

/-- 'laws.FnExactHoldOut': WHATEVER THE INPUT: true; the input reads as it did. -/
def fnExactHoldOutSpec : ChangeSpec := { name := "fnExactHoldOut", fn := fun _ => fun
  | [d1, d2] => { results := [.lit (.bool true)], args := [d1, d2] }
  | _ => none }
def fnExactHoldOutRow : OpenClaim := { program := "ytmnghgacglppeaa", sum := "0329acb8be655490a1d28a9cff4531ab796c89486d47145122a1c3509eec5241", func := "loop.example/g00454/laws.FnExactHoldOut", spec := "fnExactHoldOut", unfollowed := true, recurses := true, apart := false }
def FnExactHoldOutSaid : Prop := fnExactHoldOutRow.holds Try.pinned (OpenSpec.ofChange fnExactHoldOutSpec)

/-- ITS FALSE NEIGHBOUR: 'it returns false'. Refute it at one input. -/
def fnExactHoldOutWrong : ChangeSpec := { name := "fnExactHoldOut", fn := fun _ => fun
  | [d1, d2] => { results := [.lit (.bool false)], args := [d1, d2] }
  | _ => none }
def FnExactHoldOutWrongFalsely : Prop := fnExactHoldOutRow.holds Try.pinned (OpenSpec.ofChange fnExactHoldOutWrong)

/-- 'laws.FnExactWithin': WHATEVER THE INPUT: true; the input reads as it did. -/
def fnExactWithinSpec : ChangeSpec := { name := "fnExactWithin", fn := fun _ => fun
  | [d1, d2] => { results := [.lit (.bool true)], args := [d1, d2] }
  | _ => none }
def fnExactWithinRow : OpenClaim := { program := "ytmnghgacglppeaa", sum := "0329acb8be655490a1d28a9cff4531ab796c89486d47145122a1c3509eec5241", func := "loop.example/g00454/laws.FnExactWithin", spec := "fnExactWithin", unfollowed := true, recurses := true, apart := false }
def FnExactWithinSaid : Prop := fnExactWithinRow.holds Try.pinned (OpenSpec.ofChange fnExactWithinSpec)

/-- ITS FALSE NEIGHBOUR: 'it returns false'. Refute it at one input. -/
def fnExactWithinWrong : ChangeSpec := { name := "fnExactWithin", fn := fun _ => fun
  | [d1, d2] => { results := [.lit (.bool false)], args := [d1, d2] }
  | _ => none }
def FnExactWithinWrongFalsely : Prop := fnExactWithinRow.holds Try.pinned (OpenSpec.ofChange fnExactWithinWrong)

/-- 'laws.FnExactMayHold': WHATEVER THE INPUT: true; the input reads as it did. -/
def fnExactMayHoldSpec : ChangeSpec := { name := "fnExactMayHold", fn := fun _ => fun
  | [d1, d2, d3] => { results := [.lit (.bool true)], args := [d1, d2, d3] }
  | _ => none }
def fnExactMayHoldRow : OpenClaim := { program := "ytmnghgacglppeaa", sum := "0329acb8be655490a1d28a9cff4531ab796c89486d47145122a1c3509eec5241", func := "loop.example/g00454/laws.FnExactMayHold", spec := "fnExactMayHold", unfollowed := true, recurses := true, apart := false }
def FnExactMayHoldSaid : Prop := fnExactMayHoldRow.holds Try.pinned (OpenSpec.ofChange fnExactMayHoldSpec)

/-- ITS FALSE NEIGHBOUR: 'it returns false'. Refute it at one input. -/
def fnExactMayHoldWrong : ChangeSpec := { name := "fnExactMayHold", fn := fun _ => fun
  | [d1, d2, d3] => { results := [.lit (.bool false)], args := [d1, d2, d3] }
  | _ => none }
def FnExactMayHoldWrongFalsely : Prop := fnExactMayHoldRow.holds Try.pinned (OpenSpec.ofChange fnExactMayHoldWrong)

/- THE SECOND FORM. 'bulk': how many values and letters a reading holds, each counted each time it is reached (what is shared counts as often as it is met; a slice's spare places count too). A statement '..UptoSaid' is the law's where the arguments, and the package variables that the reading takes, are together of bulk at most 1048576: NARROWER than '..Said'. Prove '..Said' where nothing that the law and all that it calls make is longer than what came in: it says more and counts as full. Else prove '..UptoSaid'. A law counts once. -/
mutual
def uptoBulk {H : Type} : DataW H → Nat
  | .lit (.string bytes) => bytes.length + 1
  | .lit _ => 1
  | .nil => 1
  | .ptr d => uptoBulk d + 1
  | .slice elems spare => uptoBulkAll elems + uptoBulkAll spare + 1
  | .agg parts => uptoBulkAll parts + 1
  | .iface _ d => uptoBulk d + 1
  | .map entries => uptoBulkEntries entries + 1
  | .held _ => 1
def uptoBulkAll {H : Type} : List (DataW H) → Nat
  | [] => 0
  | d :: r => uptoBulk d + uptoBulkAll r
def uptoBulkEntries {H : Type} : List (Lit × DataW H) → Nat
  | [] => 0
  | x :: r => uptoBulkEntry x + uptoBulkEntries r
def uptoBulkEntry {H : Type} : Lit × DataW H → Nat
  | (.string bytes, d) => bytes.length + uptoBulk d + 1
  | (_, d) => uptoBulk d + 1
 end
def uptoSmall : (H : Type) → List (DataW H) → Bool := fun _ ds => decide (uptoBulkAll ds ≤ 1048576)
def OpenSpec.upto (s : _root_.Go.ChangeSpec) : _root_.Go.OpenSpec := { _root_.Go.OpenSpec.ofChange s with cond := some uptoSmall }

/-- 'laws.FnExactQuotasOk', WHERE WHAT IT READS IS OF BULK AT MOST 1048576: true; the input reads as it did. -/
def fnExactQuotasOkUptoRow : OpenClaim := { program := "ytmnghgacglppeaa", sum := "0329acb8be655490a1d28a9cff4531ab796c89486d47145122a1c3509eec5241", func := "loop.example/g00454/laws.FnExactQuotasOk", spec := "fnExactQuotasOk", apart := false, narrowed := true }
def FnExactQuotasOkUptoSaid : Prop := fnExactQuotasOkUptoRow.holds Try.pinned (OpenSpec.upto fnExactQuotasOkSpec)

/-- 'laws.FnExactHoldsOk', WHERE WHAT IT READS IS OF BULK AT MOST 1048576: true; the input reads as it did. -/
def fnExactHoldsOkUptoRow : OpenClaim := { program := "ytmnghgacglppeaa", sum := "0329acb8be655490a1d28a9cff4531ab796c89486d47145122a1c3509eec5241", func := "loop.example/g00454/laws.FnExactHoldsOk", spec := "fnExactHoldsOk", unfollowed := true, recurses := true, apart := false, narrowed := true }
def FnExactHoldsOkUptoSaid : Prop := fnExactHoldsOkUptoRow.holds Try.pinned (OpenSpec.upto fnExactHoldsOkSpec)

/-- 'laws.FnExactHeldBy', WHERE WHAT IT READS IS OF BULK AT MOST 1048576: true; the input reads as it did. -/
def fnExactHeldByUptoRow : OpenClaim := { program := "ytmnghgacglppeaa", sum := "0329acb8be655490a1d28a9cff4531ab796c89486d47145122a1c3509eec5241", func := "loop.example/g00454/laws.FnExactHeldBy", spec := "fnExactHeldBy", unfollowed := true, recurses := true, apart := false, narrowed := true }
def FnExactHeldByUptoSaid : Prop := fnExactHeldByUptoRow.holds Try.pinned (OpenSpec.upto fnExactHeldBySpec)

/-- 'laws.FnExactHoldOut', WHERE WHAT IT READS IS OF BULK AT MOST 1048576: true; the input reads as it did. -/
def fnExactHoldOutUptoRow : OpenClaim := { program := "ytmnghgacglppeaa", sum := "0329acb8be655490a1d28a9cff4531ab796c89486d47145122a1c3509eec5241", func := "loop.example/g00454/laws.FnExactHoldOut", spec := "fnExactHoldOut", unfollowed := true, recurses := true, apart := false, narrowed := true }
def FnExactHoldOutUptoSaid : Prop := fnExactHoldOutUptoRow.holds Try.pinned (OpenSpec.upto fnExactHoldOutSpec)

/-- 'laws.FnExactWithin', WHERE WHAT IT READS IS OF BULK AT MOST 1048576: true; the input reads as it did. -/
def fnExactWithinUptoRow : OpenClaim := { program := "ytmnghgacglppeaa", sum := "0329acb8be655490a1d28a9cff4531ab796c89486d47145122a1c3509eec5241", func := "loop.example/g00454/laws.FnExactWithin", spec := "fnExactWithin", unfollowed := true, recurses := true, apart := false, narrowed := true }
def FnExactWithinUptoSaid : Prop := fnExactWithinUptoRow.holds Try.pinned (OpenSpec.upto fnExactWithinSpec)

/-- 'laws.FnExactMayHold', WHERE WHAT IT READS IS OF BULK AT MOST 1048576: true; the input reads as it did. -/
def fnExactMayHoldUptoRow : OpenClaim := { program := "ytmnghgacglppeaa", sum := "0329acb8be655490a1d28a9cff4531ab796c89486d47145122a1c3509eec5241", func := "loop.example/g00454/laws.FnExactMayHold", spec := "fnExactMayHold", unfollowed := true, recurses := true, apart := false, narrowed := true }
def FnExactMayHoldUptoSaid : Prop := fnExactMayHoldUptoRow.holds Try.pinned (OpenSpec.upto fnExactMayHoldSpec)

end Rows
end Go.Proofs.Ytmnghgacglppeaa
