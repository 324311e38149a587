/-
  No cell of these rows narrows 'for every input' (looked for: loops, veiled, ifaces, maps, wideKeys, modest, calm, conditions, laid).
  DERIVED. THE GIVEN ROWS OF THIS SEAT. 5 by the template 'for every input the law returns true; each argument reads behind the call as it read before'; 0 by the template 'total and deterministic' (their statements: YtfogmplpaopciabTotals.lean).
  GIVEN WITH THE SEED: the statements are not yours to turn. If you find one false, say at which input.
  Laid BY PROGRAM, IN A SANDBOX (cutbox-rows.mjs): the forced cells as the released guide's own fill.sh prints them over the translation 46713157d96a6771… (all of the seat's roots in one cut). By AI agents, Wed Nov 11 2026. No macro, syntax, notation, axiom, sorry.
-/
import Derived.Test.YtfogmplpaopciabChecked
import GoSem.Claim
import GoSem.ClaimJoined
import GoSem.ClaimMapViews
import Derived.JoinedTies
import Derived.KernelRfl
namespace Go.Proofs.Ytfogmplpaopciab
/- THE CELL 'sum', in the pinned program and in every row, IS THE sha256 OF THE DUMP (.gsa) THAT YtfogmplpaopciabProg.lean LOADS. Nothing in Lean hashes anything: it is a label: what it is worth is what the hold of that sum in a sandbox is worth. -/
noncomputable def Try.pinned : Pinned := { name := "ytfogmplpaopciab", sum := "46713157d96a6771365641d0d01728a0f88304f0e2753ded499c8122cb9ec341", checked := Try.checked }
namespace Rows
def none {H : Type} : Left H := { results := [], args := [] }

/-- 'laws.FnExactRanks': WHATEVER THE INPUT: true; the input reads as it did. -/
def fnExactRanksSpec : ChangeSpec := { name := "fnExactRanks", fn := fun _ => fun
  | [d] => { results := [.lit (.bool true)], args := [d] }
  | _ => none }
def fnExactRanksRow : OpenClaim := { program := "ytfogmplpaopciab", sum := "46713157d96a6771365641d0d01728a0f88304f0e2753ded499c8122cb9ec341", func := "loop.example/g00454/laws.FnExactRanks", spec := "fnExactRanks", apart := false }
def FnExactRanksSaid : Prop := fnExactRanksRow.holds Try.pinned (OpenSpec.ofChange fnExactRanksSpec)

/-- ITS FALSE NEIGHBOUR: 'it returns false'. Refute it at one input. -/
def fnExactRanksWrong : ChangeSpec := { name := "fnExactRanks", fn := fun _ => fun
  | [d] => { results := [.lit (.bool false)], args := [d] }
  | _ => none }
def FnExactRanksWrongFalsely : Prop := fnExactRanksRow.holds Try.pinned (OpenSpec.ofChange fnExactRanksWrong)

/-- 'laws.FnCharge': WHATEVER THE INPUT: true; the input reads as it did. -/
def fnChargeSpec : ChangeSpec := { name := "fnCharge", fn := fun _ => fun
  | [d] => { results := [.lit (.bool true)], args := [d] }
  | _ => none }
def fnChargeRow : OpenClaim := { program := "ytfogmplpaopciab", sum := "46713157d96a6771365641d0d01728a0f88304f0e2753ded499c8122cb9ec341", func := "loop.example/g00454/laws.FnCharge", spec := "fnCharge", apart := false }
def FnChargeSaid : Prop := fnChargeRow.holds Try.pinned (OpenSpec.ofChange fnChargeSpec)

/-- ITS FALSE NEIGHBOUR: 'it returns false'. Refute it at one input. -/
def fnChargeWrong : ChangeSpec := { name := "fnCharge", fn := fun _ => fun
  | [d] => { results := [.lit (.bool false)], args := [d] }
  | _ => none }
def FnChargeWrongFalsely : Prop := fnChargeRow.holds Try.pinned (OpenSpec.ofChange fnChargeWrong)

/-- 'laws.FnRanks': WHATEVER THE INPUT: true; the input reads as it did. -/
def fnRanksSpec : ChangeSpec := { name := "fnRanks", fn := fun _ => fun
  | [d] => { results := [.lit (.bool true)], args := [d] }
  | _ => none }
def fnRanksRow : OpenClaim := { program := "ytfogmplpaopciab", sum := "46713157d96a6771365641d0d01728a0f88304f0e2753ded499c8122cb9ec341", func := "loop.example/g00454/laws.FnRanks", spec := "fnRanks", apart := false }
def FnRanksSaid : Prop := fnRanksRow.holds Try.pinned (OpenSpec.ofChange fnRanksSpec)

/-- ITS FALSE NEIGHBOUR: 'it returns false'. Refute it at one input. -/
def fnRanksWrong : ChangeSpec := { name := "fnRanks", fn := fun _ => fun
  | [d] => { results := [.lit (.bool false)], args := [d] }
  | _ => none }
def FnRanksWrongFalsely : Prop := fnRanksRow.holds Try.pinned (OpenSpec.ofChange fnRanksWrong)

/-- 'laws.FnExactBillSum': WHATEVER THE INPUT: true; the input reads as it did. -/
def fnExactBillSumSpec : ChangeSpec := { name := "fnExactBillSum", fn := fun _ => fun
  | [d1, d2, d3] => { results := [.lit (.bool true)], args := [d1, d2, d3] }
  | _ => none }
def fnExactBillSumRow : OpenClaim := { program := "ytfogmplpaopciab", sum := "46713157d96a6771365641d0d01728a0f88304f0e2753ded499c8122cb9ec341", func := "loop.example/g00454/laws.FnExactBillSum", spec := "fnExactBillSum", apart := false }
def FnExactBillSumSaid : Prop := fnExactBillSumRow.holds Try.pinned (OpenSpec.ofChange fnExactBillSumSpec)

/-- ITS FALSE NEIGHBOUR: 'it returns false'. Refute it at one input. -/
def fnExactBillSumWrong : ChangeSpec := { name := "fnExactBillSum", fn := fun _ => fun
  | [d1, d2, d3] => { results := [.lit (.bool false)], args := [d1, d2, d3] }
  | _ => none }
def FnExactBillSumWrongFalsely : Prop := fnExactBillSumRow.holds Try.pinned (OpenSpec.ofChange fnExactBillSumWrong)

/-- 'laws.FnExactChargeAll': WHATEVER THE INPUT: true; the input reads as it did. -/
def fnExactChargeAllSpec : ChangeSpec := { name := "fnExactChargeAll", fn := fun _ => fun
  | [d1, d2, d3] => { results := [.lit (.bool true)], args := [d1, d2, d3] }
  | _ => none }
def fnExactChargeAllRow : OpenClaim := { program := "ytfogmplpaopciab", sum := "46713157d96a6771365641d0d01728a0f88304f0e2753ded499c8122cb9ec341", func := "loop.example/g00454/laws.FnExactChargeAll", spec := "fnExactChargeAll", apart := false }
def FnExactChargeAllSaid : Prop := fnExactChargeAllRow.holds Try.pinned (OpenSpec.ofChange fnExactChargeAllSpec)

/-- ITS FALSE NEIGHBOUR: 'it returns false'. Refute it at one input. -/
def fnExactChargeAllWrong : ChangeSpec := { name := "fnExactChargeAll", fn := fun _ => fun
  | [d1, d2, d3] => { results := [.lit (.bool false)], args := [d1, d2, d3] }
  | _ => none }
def FnExactChargeAllWrongFalsely : Prop := fnExactChargeAllRow.holds Try.pinned (OpenSpec.ofChange fnExactChargeAllWrong)

/- THE SECOND FORM. 'bulk': how many values and letters a reading holds, each counted each time it is reached (what is shared counts as often as it is met; a slice's spare places count too). A statement '..UptoSaid' is the law's where the arguments, and the package variables that the reading takes, are together of bulk at most 1048576: NARROWER than '..Said'. Prove '..Said' where nothing that the law and all that it calls make is longer than what came in: it says more and counts as full. Else prove '..UptoSaid'. A law counts once. -/
mutual
def uptoBulk {H : Type} : DataW H → Nat
  | .lit (.string bytes) => bytes.length + 1
  | .lit _ => 1
  | .nil => 1
  | .ptr d => uptoBulk d + 1
  | .slice elems spare => uptoBulkAll elems + uptoBulkAll spare + 1
  | .agg parts => uptoBulkAll parts + 1
  | .iface _ d => uptoBulk d + 1
  | .map entries => uptoBulkEntries entries + 1
  | .held _ => 1
def uptoBulkAll {H : Type} : List (DataW H) → Nat
  | [] => 0
  | d :: r => uptoBulk d + uptoBulkAll r
def uptoBulkEntries {H : Type} : List (Lit × DataW H) → Nat
  | [] => 0
  | x :: r => uptoBulkEntry x + uptoBulkEntries r
def uptoBulkEntry {H : Type} : Lit × DataW H → Nat
  | (.string bytes, d) => bytes.length + uptoBulk d + 1
  | (_, d) => uptoBulk d + 1
 end
def uptoSmall : (H : Type) → List (DataW H) → Bool := fun _ ds => decide (uptoBulkAll ds ≤ 1048576)
def OpenSpec.upto (s : _root_.Go.ChangeSpec) : _root_.Go.OpenSpec := { _root_.Go.OpenSpec.ofChange s with cond := some uptoSmall }

/-- 'laws.FnExactRanks', WHERE WHAT IT READS IS OF BULK AT MOST 1048576: true; the input reads as it did. -/
def fnExactRanksUptoRow : OpenClaim := { program := "ytfogmplpaopciab", sum := "46713157d96a6771365641d0d01728a0f88304f0e2753ded499c8122cb9ec341", func := "loop.example/g00454/laws.FnExactRanks", spec := "fnExactRanks", apart := false, narrowed := true }
def FnExactRanksUptoSaid : Prop := fnExactRanksUptoRow.holds Try.pinned (OpenSpec.upto fnExactRanksSpec)

/-- 'laws.FnCharge', WHERE WHAT IT READS IS OF BULK AT MOST 1048576: true; the input reads as it did. -/
def fnChargeUptoRow : OpenClaim := { program := "ytfogmplpaopciab", sum := "46713157d96a6771365641d0d01728a0f88304f0e2753ded499c8122cb9ec341", func := "loop.example/g00454/laws.FnCharge", spec := "fnCharge", apart := false, narrowed := true }
def FnChargeUptoSaid : Prop := fnChargeUptoRow.holds Try.pinned (OpenSpec.upto fnChargeSpec)

/-- 'laws.FnRanks', WHERE WHAT IT READS IS OF BULK AT MOST 1048576: true; the input reads as it did. -/
def fnRanksUptoRow : OpenClaim := { program := "ytfogmplpaopciab", sum := "46713157d96a6771365641d0d01728a0f88304f0e2753ded499c8122cb9ec341", func := "loop.example/g00454/laws.FnRanks", spec := "fnRanks", apart := false, narrowed := true }
def FnRanksUptoSaid : Prop := fnRanksUptoRow.holds Try.pinned (OpenSpec.upto fnRanksSpec)

/-- 'laws.FnExactBillSum', WHERE WHAT IT READS IS OF BULK AT MOST 1048576: true; the input reads as it did. -/
def fnExactBillSumUptoRow : OpenClaim := { program := "ytfogmplpaopciab", sum := "46713157d96a6771365641d0d01728a0f88304f0e2753ded499c8122cb9ec341", func := "loop.example/g00454/laws.FnExactBillSum", spec := "fnExactBillSum", apart := false, narrowed := true }
def FnExactBillSumUptoSaid : Prop := fnExactBillSumUptoRow.holds Try.pinned (OpenSpec.upto fnExactBillSumSpec)

/-- 'laws.FnExactChargeAll', WHERE WHAT IT READS IS OF BULK AT MOST 1048576: true; the input reads as it did. -/
def fnExactChargeAllUptoRow : OpenClaim := { program := "ytfogmplpaopciab", sum := "46713157d96a6771365641d0d01728a0f88304f0e2753ded499c8122cb9ec341", func := "loop.example/g00454/laws.FnExactChargeAll", spec := "fnExactChargeAll", apart := false, narrowed := true }
def FnExactChargeAllUptoSaid : Prop := fnExactChargeAllUptoRow.holds Try.pinned (OpenSpec.upto fnExactChargeAllSpec)

end Rows
end Go.Proofs.Ytfogmplpaopciab
