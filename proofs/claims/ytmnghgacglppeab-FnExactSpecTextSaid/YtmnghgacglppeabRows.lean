/-
  No cell of these rows narrows 'for every input' (looked for: loops, veiled, ifaces, maps, wideKeys, modest, calm, conditions, laid).
  DERIVED. THE GIVEN ROWS OF THIS SEAT. 6 by the template 'for every input the law returns true; each argument reads behind the call as it read before'; 0 by the template 'total and deterministic' (their statements: YtmnghgacglppeabTotals.lean).
  GIVEN WITH THE SEED: the statements are not yours to turn. If you find one false, say at which input.
  Laid BY PROGRAM, IN A SANDBOX (cutbox-rows.mjs): the forced cells as the released guide's own fill.sh prints them over the translation 7492e66b4e9327e2… (all of the seat's roots in one cut). By AI agents, Wed Nov 11 2026. No macro, syntax, notation, axiom, sorry.
-/
import Derived.Test.YtmnghgacglppeabChecked
import GoSem.Claim
import GoSem.ClaimJoined
import GoSem.ClaimMapViews
import Derived.JoinedTies
import Derived.KernelRfl
namespace Go.Proofs.Ytmnghgacglppeab
/- THE CELL 'sum', in the pinned program and in every row, IS THE sha256 OF THE DUMP (.gsa) THAT YtmnghgacglppeabProg.lean LOADS. Nothing in Lean hashes anything: it is a label: what it is worth is what the hold of that sum in a sandbox is worth. -/
noncomputable def Try.pinned : Pinned := { name := "ytmnghgacglppeab", sum := "7492e66b4e9327e2b52d2eb981eb75687e40252bd9e3863c316de1ac5cd86e99", checked := Try.checked }
namespace Rows
def none {H : Type} : Left H := { results := [], args := [] }

/-- 'laws.FnExactSpecOk': WHATEVER THE INPUT: true; the input reads as it did. -/
def fnExactSpecOkSpec : ChangeSpec := { name := "fnExactSpecOk", fn := fun _ => fun
  | [d] => { results := [.lit (.bool true)], args := [d] }
  | _ => none }
def fnExactSpecOkRow : OpenClaim := { program := "ytmnghgacglppeab", sum := "7492e66b4e9327e2b52d2eb981eb75687e40252bd9e3863c316de1ac5cd86e99", func := "loop.example/g00454/laws.FnExactSpecOk", spec := "fnExactSpecOk", apart := false }
def FnExactSpecOkSaid : Prop := fnExactSpecOkRow.holds Try.pinned (OpenSpec.ofChange fnExactSpecOkSpec)

/-- ITS FALSE NEIGHBOUR: 'it returns false'. Refute it at one input. -/
def fnExactSpecOkWrong : ChangeSpec := { name := "fnExactSpecOk", fn := fun _ => fun
  | [d] => { results := [.lit (.bool false)], args := [d] }
  | _ => none }
def FnExactSpecOkWrongFalsely : Prop := fnExactSpecOkRow.holds Try.pinned (OpenSpec.ofChange fnExactSpecOkWrong)

/-- 'laws.FnExactSpecIds': WHATEVER THE INPUT: true; the input reads as it did. -/
def fnExactSpecIdsSpec : ChangeSpec := { name := "fnExactSpecIds", fn := fun _ => fun
  | [d] => { results := [.lit (.bool true)], args := [d] }
  | _ => none }
def fnExactSpecIdsRow : OpenClaim := { program := "ytmnghgacglppeab", sum := "7492e66b4e9327e2b52d2eb981eb75687e40252bd9e3863c316de1ac5cd86e99", func := "loop.example/g00454/laws.FnExactSpecIds", spec := "fnExactSpecIds", apart := false }
def FnExactSpecIdsSaid : Prop := fnExactSpecIdsRow.holds Try.pinned (OpenSpec.ofChange fnExactSpecIdsSpec)

/-- ITS FALSE NEIGHBOUR: 'it returns false'. Refute it at one input. -/
def fnExactSpecIdsWrong : ChangeSpec := { name := "fnExactSpecIds", fn := fun _ => fun
  | [d] => { results := [.lit (.bool false)], args := [d] }
  | _ => none }
def FnExactSpecIdsWrongFalsely : Prop := fnExactSpecIdsRow.holds Try.pinned (OpenSpec.ofChange fnExactSpecIdsWrong)

/-- 'laws.FnExactSpecText': WHATEVER THE INPUT: true; the input reads as it did. -/
def fnExactSpecTextSpec : ChangeSpec := { name := "fnExactSpecText", fn := fun _ => fun
  | [d] => { results := [.lit (.bool true)], args := [d] }
  | _ => none }
def fnExactSpecTextRow : OpenClaim := { program := "ytmnghgacglppeab", sum := "7492e66b4e9327e2b52d2eb981eb75687e40252bd9e3863c316de1ac5cd86e99", func := "loop.example/g00454/laws.FnExactSpecText", spec := "fnExactSpecText", recurses := true, apart := false }
def FnExactSpecTextSaid : Prop := fnExactSpecTextRow.holds Try.pinned (OpenSpec.ofChange fnExactSpecTextSpec)

/-- ITS FALSE NEIGHBOUR: 'it returns false'. Refute it at one input. -/
def fnExactSpecTextWrong : ChangeSpec := { name := "fnExactSpecText", fn := fun _ => fun
  | [d] => { results := [.lit (.bool false)], args := [d] }
  | _ => none }
def FnExactSpecTextWrongFalsely : Prop := fnExactSpecTextRow.holds Try.pinned (OpenSpec.ofChange fnExactSpecTextWrong)

/-- 'laws.FnExactMayRun': WHATEVER THE INPUT: true; the input reads as it did. -/
def fnExactMayRunSpec : ChangeSpec := { name := "fnExactMayRun", fn := fun _ => fun
  | [d1, d2, d3] => { results := [.lit (.bool true)], args := [d1, d2, d3] }
  | _ => none }
def fnExactMayRunRow : OpenClaim := { program := "ytmnghgacglppeab", sum := "7492e66b4e9327e2b52d2eb981eb75687e40252bd9e3863c316de1ac5cd86e99", func := "loop.example/g00454/laws.FnExactMayRun", spec := "fnExactMayRun", apart := false }
def FnExactMayRunSaid : Prop := fnExactMayRunRow.holds Try.pinned (OpenSpec.ofChange fnExactMayRunSpec)

/-- ITS FALSE NEIGHBOUR: 'it returns false'. Refute it at one input. -/
def fnExactMayRunWrong : ChangeSpec := { name := "fnExactMayRun", fn := fun _ => fun
  | [d1, d2, d3] => { results := [.lit (.bool false)], args := [d1, d2, d3] }
  | _ => none }
def FnExactMayRunWrongFalsely : Prop := fnExactMayRunRow.holds Try.pinned (OpenSpec.ofChange fnExactMayRunWrong)

/-- 'laws.FnExactTextSpec': WHATEVER THE INPUT: true; the input reads as it did. -/
def fnExactTextSpecSpec : ChangeSpec := { name := "fnExactTextSpec", fn := fun _ => fun
  | [d] => { results := [.lit (.bool true)], args := [d] }
  | _ => none }
def fnExactTextSpecRow : OpenClaim := { program := "ytmnghgacglppeab", sum := "7492e66b4e9327e2b52d2eb981eb75687e40252bd9e3863c316de1ac5cd86e99", func := "loop.example/g00454/laws.FnExactTextSpec", spec := "fnExactTextSpec", recurses := true, apart := false }
def FnExactTextSpecSaid : Prop := fnExactTextSpecRow.holds Try.pinned (OpenSpec.ofChange fnExactTextSpecSpec)

/-- ITS FALSE NEIGHBOUR: 'it returns false'. Refute it at one input. -/
def fnExactTextSpecWrong : ChangeSpec := { name := "fnExactTextSpec", fn := fun _ => fun
  | [d] => { results := [.lit (.bool false)], args := [d] }
  | _ => none }
def FnExactTextSpecWrongFalsely : Prop := fnExactTextSpecRow.holds Try.pinned (OpenSpec.ofChange fnExactTextSpecWrong)

/-- 'laws.FnExactExpand': WHATEVER THE INPUT: true; the input reads as it did. -/
def fnExactExpandSpec : ChangeSpec := { name := "fnExactExpand", fn := fun _ => fun
  | [d1, d2] => { results := [.lit (.bool true)], args := [d1, d2] }
  | _ => none }
def fnExactExpandRow : OpenClaim := { program := "ytmnghgacglppeab", sum := "7492e66b4e9327e2b52d2eb981eb75687e40252bd9e3863c316de1ac5cd86e99", func := "loop.example/g00454/laws.FnExactExpand", spec := "fnExactExpand", apart := false }
def FnExactExpandSaid : Prop := fnExactExpandRow.holds Try.pinned (OpenSpec.ofChange fnExactExpandSpec)

/-- ITS FALSE NEIGHBOUR: 'it returns false'. Refute it at one input. -/
def fnExactExpandWrong : ChangeSpec := { name := "fnExactExpand", fn := fun _ => fun
  | [d1, d2] => { results := [.lit (.bool false)], args := [d1, d2] }
  | _ => none }
def FnExactExpandWrongFalsely : Prop := fnExactExpandRow.holds Try.pinned (OpenSpec.ofChange fnExactExpandWrong)

/- THE SECOND FORM. 'bulk': how many values and letters a reading holds, each counted each time it is reached (what is shared counts as often as it is met; a slice's spare places count too). A statement '..UptoSaid' is the law's where the arguments, and the package variables that the reading takes, are together of bulk at most 1048576: NARROWER than '..Said'. Prove '..Said' where nothing that the law and all that it calls make is longer than what came in: it says more and counts as full. Else prove '..UptoSaid'. A law counts once. -/
mutual
def uptoBulk {H : Type} : DataW H → Nat
  | .lit (.string bytes) => bytes.length + 1
  | .lit _ => 1
  | .nil => 1
  | .ptr d => uptoBulk d + 1
  | .slice elems spare => uptoBulkAll elems + uptoBulkAll spare + 1
  | .agg parts => uptoBulkAll parts + 1
  | .iface _ d => uptoBulk d + 1
  | .map entries => uptoBulkEntries entries + 1
  | .held _ => 1
def uptoBulkAll {H : Type} : List (DataW H) → Nat
  | [] => 0
  | d :: r => uptoBulk d + uptoBulkAll r
def uptoBulkEntries {H : Type} : List (Lit × DataW H) → Nat
  | [] => 0
  | x :: r => uptoBulkEntry x + uptoBulkEntries r
def uptoBulkEntry {H : Type} : Lit × DataW H → Nat
  | (.string bytes, d) => bytes.length + uptoBulk d + 1
  | (_, d) => uptoBulk d + 1
 end
def uptoSmall : (H : Type) → List (DataW H) → Bool := fun _ ds => decide (uptoBulkAll ds ≤ 1048576)
def OpenSpec.upto (s : _root_.Go.ChangeSpec) : _root_.Go.OpenSpec := { _root_.Go.OpenSpec.ofChange s with cond := some uptoSmall }

/-- 'laws.FnExactSpecOk', WHERE WHAT IT READS IS OF BULK AT MOST 1048576: true; the input reads as it did. -/
def fnExactSpecOkUptoRow : OpenClaim := { program := "ytmnghgacglppeab", sum := "7492e66b4e9327e2b52d2eb981eb75687e40252bd9e3863c316de1ac5cd86e99", func := "loop.example/g00454/laws.FnExactSpecOk", spec := "fnExactSpecOk", apart := false, narrowed := true }
def FnExactSpecOkUptoSaid : Prop := fnExactSpecOkUptoRow.holds Try.pinned (OpenSpec.upto fnExactSpecOkSpec)

/-- 'laws.FnExactSpecIds', WHERE WHAT IT READS IS OF BULK AT MOST 1048576: true; the input reads as it did. -/
def fnExactSpecIdsUptoRow : OpenClaim := { program := "ytmnghgacglppeab", sum := "7492e66b4e9327e2b52d2eb981eb75687e40252bd9e3863c316de1ac5cd86e99", func := "loop.example/g00454/laws.FnExactSpecIds", spec := "fnExactSpecIds", apart := false, narrowed := true }
def FnExactSpecIdsUptoSaid : Prop := fnExactSpecIdsUptoRow.holds Try.pinned (OpenSpec.upto fnExactSpecIdsSpec)

/-- 'laws.FnExactSpecText', WHERE WHAT IT READS IS OF BULK AT MOST 1048576: true; the input reads as it did. -/
def fnExactSpecTextUptoRow : OpenClaim := { program := "ytmnghgacglppeab", sum := "7492e66b4e9327e2b52d2eb981eb75687e40252bd9e3863c316de1ac5cd86e99", func := "loop.example/g00454/laws.FnExactSpecText", spec := "fnExactSpecText", recurses := true, apart := false, narrowed := true }
def FnExactSpecTextUptoSaid : Prop := fnExactSpecTextUptoRow.holds Try.pinned (OpenSpec.upto fnExactSpecTextSpec)

/-- 'laws.FnExactMayRun', WHERE WHAT IT READS IS OF BULK AT MOST 1048576: true; the input reads as it did. -/
def fnExactMayRunUptoRow : OpenClaim := { program := "ytmnghgacglppeab", sum := "7492e66b4e9327e2b52d2eb981eb75687e40252bd9e3863c316de1ac5cd86e99", func := "loop.example/g00454/laws.FnExactMayRun", spec := "fnExactMayRun", apart := false, narrowed := true }
def FnExactMayRunUptoSaid : Prop := fnExactMayRunUptoRow.holds Try.pinned (OpenSpec.upto fnExactMayRunSpec)

/-- 'laws.FnExactTextSpec', WHERE WHAT IT READS IS OF BULK AT MOST 1048576: true; the input reads as it did. -/
def fnExactTextSpecUptoRow : OpenClaim := { program := "ytmnghgacglppeab", sum := "7492e66b4e9327e2b52d2eb981eb75687e40252bd9e3863c316de1ac5cd86e99", func := "loop.example/g00454/laws.FnExactTextSpec", spec := "fnExactTextSpec", recurses := true, apart := false, narrowed := true }
def FnExactTextSpecUptoSaid : Prop := fnExactTextSpecUptoRow.holds Try.pinned (OpenSpec.upto fnExactTextSpecSpec)

/-- 'laws.FnExactExpand', WHERE WHAT IT READS IS OF BULK AT MOST 1048576: true; the input reads as it did. -/
def fnExactExpandUptoRow : OpenClaim := { program := "ytmnghgacglppeab", sum := "7492e66b4e9327e2b52d2eb981eb75687e40252bd9e3863c316de1ac5cd86e99", func := "loop.example/g00454/laws.FnExactExpand", spec := "fnExactExpand", apart := false, narrowed := true }
def FnExactExpandUptoSaid : Prop := fnExactExpandUptoRow.holds Try.pinned (OpenSpec.upto fnExactExpandSpec)

end Rows
end Go.Proofs.Ytmnghgacglppeab
