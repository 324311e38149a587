/-
  No cell of these rows narrows 'for every input' (looked for: loops, veiled, ifaces, maps, wideKeys, modest, calm, conditions, laid).
  DERIVED. THE GIVEN ROWS OF THIS SEAT. 6 by the template 'for every input the law returns true; each argument reads behind the call as it read before'; 0 by the template 'total and deterministic' (their statements: YtlpofnppnnohiaaTotals.lean).
  GIVEN WITH THE SEED: the statements are not yours to turn. If you find one false, say at which input.
  Laid BY PROGRAM, IN A SANDBOX (cutbox-rows.mjs): the forced cells as the released guide's own fill.sh prints them over the translation 05c2c8790058d357… (all of the seat's roots in one cut). By AI agents, Wed Nov 11 2026. No macro, syntax, notation, axiom, sorry.
-/
import Derived.Test.YtlpofnppnnohiaaChecked
import GoSem.Claim
import GoSem.ClaimJoined
import GoSem.ClaimMapViews
import Derived.JoinedTies
import Derived.KernelRfl
namespace Go.Proofs.Ytlpofnppnnohiaa
/- THE CELL 'sum', in the pinned program and in every row, IS THE sha256 OF THE DUMP (.gsa) THAT YtlpofnppnnohiaaProg.lean LOADS. Nothing in Lean hashes anything: it is a label: what it is worth is what the hold of that sum in a sandbox is worth. -/
noncomputable def Try.pinned : Pinned := { name := "ytlpofnppnnohiaa", sum := "05c2c8790058d357056e8cdcaa684decd12cd05e00452ed8d5ec6f1a29895a7f", checked := Try.checked }
namespace Rows
def none {H : Type} : Left H := { results := [], args := [] }

/-- 'laws.FnExactWordOk': WHATEVER THE INPUT: true; the input reads as it did. -/
def fnExactWordOkSpec : ChangeSpec := { name := "fnExactWordOk", fn := fun _ => fun
  | [d] => { results := [.lit (.bool true)], args := [d] }
  | _ => none }
def fnExactWordOkRow : OpenClaim := { program := "ytlpofnppnnohiaa", sum := "05c2c8790058d357056e8cdcaa684decd12cd05e00452ed8d5ec6f1a29895a7f", func := "loop.example/g00454/laws.FnExactWordOk", spec := "fnExactWordOk", apart := false }
def FnExactWordOkSaid : Prop := fnExactWordOkRow.holds Try.pinned (OpenSpec.ofChange fnExactWordOkSpec)

/-- ITS FALSE NEIGHBOUR: 'it returns false'. Refute it at one input. -/
def fnExactWordOkWrong : ChangeSpec := { name := "fnExactWordOk", fn := fun _ => fun
  | [d] => { results := [.lit (.bool false)], args := [d] }
  | _ => none }
def FnExactWordOkWrongFalsely : Prop := fnExactWordOkRow.holds Try.pinned (OpenSpec.ofChange fnExactWordOkWrong)

/-- 'laws.FnExactBillOk': WHATEVER THE INPUT: true; the input reads as it did. -/
def fnExactBillOkSpec : ChangeSpec := { name := "fnExactBillOk", fn := fun _ => fun
  | [d] => { results := [.lit (.bool true)], args := [d] }
  | _ => none }
def fnExactBillOkRow : OpenClaim := { program := "ytlpofnppnnohiaa", sum := "05c2c8790058d357056e8cdcaa684decd12cd05e00452ed8d5ec6f1a29895a7f", func := "loop.example/g00454/laws.FnExactBillOk", spec := "fnExactBillOk", apart := false }
def FnExactBillOkSaid : Prop := fnExactBillOkRow.holds Try.pinned (OpenSpec.ofChange fnExactBillOkSpec)

/-- ITS FALSE NEIGHBOUR: 'it returns false'. Refute it at one input. -/
def fnExactBillOkWrong : ChangeSpec := { name := "fnExactBillOk", fn := fun _ => fun
  | [d] => { results := [.lit (.bool false)], args := [d] }
  | _ => none }
def FnExactBillOkWrongFalsely : Prop := fnExactBillOkRow.holds Try.pinned (OpenSpec.ofChange fnExactBillOkWrong)

/-- 'laws.FnExactCost': WHATEVER THE INPUT: true; the input reads as it did. -/
def fnExactCostSpec : ChangeSpec := { name := "fnExactCost", fn := fun _ => fun
  | [d] => { results := [.lit (.bool true)], args := [d] }
  | _ => none }
def fnExactCostRow : OpenClaim := { program := "ytlpofnppnnohiaa", sum := "05c2c8790058d357056e8cdcaa684decd12cd05e00452ed8d5ec6f1a29895a7f", func := "loop.example/g00454/laws.FnExactCost", spec := "fnExactCost", apart := false }
def FnExactCostSaid : Prop := fnExactCostRow.holds Try.pinned (OpenSpec.ofChange fnExactCostSpec)

/-- ITS FALSE NEIGHBOUR: 'it returns false'. Refute it at one input. -/
def fnExactCostWrong : ChangeSpec := { name := "fnExactCost", fn := fun _ => fun
  | [d] => { results := [.lit (.bool false)], args := [d] }
  | _ => none }
def FnExactCostWrongFalsely : Prop := fnExactCostRow.holds Try.pinned (OpenSpec.ofChange fnExactCostWrong)

/-- 'laws.FnExactMean': WHATEVER THE INPUT: true; the input reads as it did. -/
def fnExactMeanSpec : ChangeSpec := { name := "fnExactMean", fn := fun _ => fun
  | [d] => { results := [.lit (.bool true)], args := [d] }
  | _ => none }
def fnExactMeanRow : OpenClaim := { program := "ytlpofnppnnohiaa", sum := "05c2c8790058d357056e8cdcaa684decd12cd05e00452ed8d5ec6f1a29895a7f", func := "loop.example/g00454/laws.FnExactMean", spec := "fnExactMean", apart := false }
def FnExactMeanSaid : Prop := fnExactMeanRow.holds Try.pinned (OpenSpec.ofChange fnExactMeanSpec)

/-- ITS FALSE NEIGHBOUR: 'it returns false'. Refute it at one input. -/
def fnExactMeanWrong : ChangeSpec := { name := "fnExactMean", fn := fun _ => fun
  | [d] => { results := [.lit (.bool false)], args := [d] }
  | _ => none }
def FnExactMeanWrongFalsely : Prop := fnExactMeanRow.holds Try.pinned (OpenSpec.ofChange fnExactMeanWrong)

/-- 'laws.FnExactTimes': WHATEVER THE INPUT: true; the input reads as it did. -/
def fnExactTimesSpec : ChangeSpec := { name := "fnExactTimes", fn := fun _ => fun
  | [d1, d2] => { results := [.lit (.bool true)], args := [d1, d2] }
  | _ => none }
def fnExactTimesRow : OpenClaim := { program := "ytlpofnppnnohiaa", sum := "05c2c8790058d357056e8cdcaa684decd12cd05e00452ed8d5ec6f1a29895a7f", func := "loop.example/g00454/laws.FnExactTimes", spec := "fnExactTimes", apart := false }
def FnExactTimesSaid : Prop := fnExactTimesRow.holds Try.pinned (OpenSpec.ofChange fnExactTimesSpec)

/-- ITS FALSE NEIGHBOUR: 'it returns false'. Refute it at one input. -/
def fnExactTimesWrong : ChangeSpec := { name := "fnExactTimes", fn := fun _ => fun
  | [d1, d2] => { results := [.lit (.bool false)], args := [d1, d2] }
  | _ => none }
def FnExactTimesWrongFalsely : Prop := fnExactTimesRow.holds Try.pinned (OpenSpec.ofChange fnExactTimesWrong)

/-- 'laws.FnExactDepsOk': WHATEVER THE INPUT: true; the input reads as it did. -/
def fnExactDepsOkSpec : ChangeSpec := { name := "fnExactDepsOk", fn := fun _ => fun
  | [d] => { results := [.lit (.bool true)], args := [d] }
  | _ => none }
def fnExactDepsOkRow : OpenClaim := { program := "ytlpofnppnnohiaa", sum := "05c2c8790058d357056e8cdcaa684decd12cd05e00452ed8d5ec6f1a29895a7f", func := "loop.example/g00454/laws.FnExactDepsOk", spec := "fnExactDepsOk", apart := false }
def FnExactDepsOkSaid : Prop := fnExactDepsOkRow.holds Try.pinned (OpenSpec.ofChange fnExactDepsOkSpec)

/-- ITS FALSE NEIGHBOUR: 'it returns false'. Refute it at one input. -/
def fnExactDepsOkWrong : ChangeSpec := { name := "fnExactDepsOk", fn := fun _ => fun
  | [d] => { results := [.lit (.bool false)], args := [d] }
  | _ => none }
def FnExactDepsOkWrongFalsely : Prop := fnExactDepsOkRow.holds Try.pinned (OpenSpec.ofChange fnExactDepsOkWrong)

/- THE SECOND FORM. 'bulk': how many values and letters a reading holds, each counted each time it is reached (what is shared counts as often as it is met; a slice's spare places count too). A statement '..UptoSaid' is the law's where the arguments, and the package variables that the reading takes, are together of bulk at most 1048576: NARROWER than '..Said'. Prove '..Said' where nothing that the law and all that it calls make is longer than what came in: it says more and counts as full. Else prove '..UptoSaid'. A law counts once. -/
mutual
def uptoBulk {H : Type} : DataW H → Nat
  | .lit (.string bytes) => bytes.length + 1
  | .lit _ => 1
  | .nil => 1
  | .ptr d => uptoBulk d + 1
  | .slice elems spare => uptoBulkAll elems + uptoBulkAll spare + 1
  | .agg parts => uptoBulkAll parts + 1
  | .iface _ d => uptoBulk d + 1
  | .map entries => uptoBulkEntries entries + 1
  | .held _ => 1
def uptoBulkAll {H : Type} : List (DataW H) → Nat
  | [] => 0
  | d :: r => uptoBulk d + uptoBulkAll r
def uptoBulkEntries {H : Type} : List (Lit × DataW H) → Nat
  | [] => 0
  | x :: r => uptoBulkEntry x + uptoBulkEntries r
def uptoBulkEntry {H : Type} : Lit × DataW H → Nat
  | (.string bytes, d) => bytes.length + uptoBulk d + 1
  | (_, d) => uptoBulk d + 1
 end
def uptoSmall : (H : Type) → List (DataW H) → Bool := fun _ ds => decide (uptoBulkAll ds ≤ 1048576)
def OpenSpec.upto (s : _root_.Go.ChangeSpec) : _root_.Go.OpenSpec := { _root_.Go.OpenSpec.ofChange s with cond := some uptoSmall }

/-- 'laws.FnExactWordOk', WHERE WHAT IT READS IS OF BULK AT MOST 1048576: true; the input reads as it did. -/
def fnExactWordOkUptoRow : OpenClaim := { program := "ytlpofnppnnohiaa", sum := "05c2c8790058d357056e8cdcaa684decd12cd05e00452ed8d5ec6f1a29895a7f", func := "loop.example/g00454/laws.FnExactWordOk", spec := "fnExactWordOk", apart := false, narrowed := true }
def FnExactWordOkUptoSaid : Prop := fnExactWordOkUptoRow.holds Try.pinned (OpenSpec.upto fnExactWordOkSpec)

/-- 'laws.FnExactBillOk', WHERE WHAT IT READS IS OF BULK AT MOST 1048576: true; the input reads as it did. -/
def fnExactBillOkUptoRow : OpenClaim := { program := "ytlpofnppnnohiaa", sum := "05c2c8790058d357056e8cdcaa684decd12cd05e00452ed8d5ec6f1a29895a7f", func := "loop.example/g00454/laws.FnExactBillOk", spec := "fnExactBillOk", apart := false, narrowed := true }
def FnExactBillOkUptoSaid : Prop := fnExactBillOkUptoRow.holds Try.pinned (OpenSpec.upto fnExactBillOkSpec)

/-- 'laws.FnExactCost', WHERE WHAT IT READS IS OF BULK AT MOST 1048576: true; the input reads as it did. -/
def fnExactCostUptoRow : OpenClaim := { program := "ytlpofnppnnohiaa", sum := "05c2c8790058d357056e8cdcaa684decd12cd05e00452ed8d5ec6f1a29895a7f", func := "loop.example/g00454/laws.FnExactCost", spec := "fnExactCost", apart := false, narrowed := true }
def FnExactCostUptoSaid : Prop := fnExactCostUptoRow.holds Try.pinned (OpenSpec.upto fnExactCostSpec)

/-- 'laws.FnExactMean', WHERE WHAT IT READS IS OF BULK AT MOST 1048576: true; the input reads as it did. -/
def fnExactMeanUptoRow : OpenClaim := { program := "ytlpofnppnnohiaa", sum := "05c2c8790058d357056e8cdcaa684decd12cd05e00452ed8d5ec6f1a29895a7f", func := "loop.example/g00454/laws.FnExactMean", spec := "fnExactMean", apart := false, narrowed := true }
def FnExactMeanUptoSaid : Prop := fnExactMeanUptoRow.holds Try.pinned (OpenSpec.upto fnExactMeanSpec)

/-- 'laws.FnExactTimes', WHERE WHAT IT READS IS OF BULK AT MOST 1048576: true; the input reads as it did. -/
def fnExactTimesUptoRow : OpenClaim := { program := "ytlpofnppnnohiaa", sum := "05c2c8790058d357056e8cdcaa684decd12cd05e00452ed8d5ec6f1a29895a7f", func := "loop.example/g00454/laws.FnExactTimes", spec := "fnExactTimes", apart := false, narrowed := true }
def FnExactTimesUptoSaid : Prop := fnExactTimesUptoRow.holds Try.pinned (OpenSpec.upto fnExactTimesSpec)

/-- 'laws.FnExactDepsOk', WHERE WHAT IT READS IS OF BULK AT MOST 1048576: true; the input reads as it did. -/
def fnExactDepsOkUptoRow : OpenClaim := { program := "ytlpofnppnnohiaa", sum := "05c2c8790058d357056e8cdcaa684decd12cd05e00452ed8d5ec6f1a29895a7f", func := "loop.example/g00454/laws.FnExactDepsOk", spec := "fnExactDepsOk", apart := false, narrowed := true }
def FnExactDepsOkUptoSaid : Prop := fnExactDepsOkUptoRow.holds Try.pinned (OpenSpec.upto fnExactDepsOkSpec)

end Rows
end Go.Proofs.Ytlpofnppnnohiaa
