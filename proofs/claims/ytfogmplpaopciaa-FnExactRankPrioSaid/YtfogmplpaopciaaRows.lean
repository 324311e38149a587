/-
  No cell of these rows narrows 'for every input' (looked for: loops, veiled, ifaces, maps, wideKeys, modest, calm, conditions, laid).
  DERIVED. THE GIVEN ROWS OF THIS SEAT. 6 by the template 'for every input the law returns true; each argument reads behind the call as it read before'; 0 by the template 'total and deterministic' (their statements: YtfogmplpaopciaaTotals.lean).
  GIVEN WITH THE SEED: the statements are not yours to turn. If you find one false, say at which input.
  Laid BY PROGRAM, IN A SANDBOX (cutbox-rows.mjs): the forced cells as the released guide's own fill.sh prints them over the translation 80e525803281559c… (all of the seat's roots in one cut). By AI agents, Wed Nov 11 2026. No macro, syntax, notation, axiom, sorry.
-/
import Derived.Test.YtfogmplpaopciaaChecked
import GoSem.Claim
import GoSem.ClaimJoined
import GoSem.ClaimMapViews
import Derived.JoinedTies
import Derived.KernelRfl
namespace Go.Proofs.Ytfogmplpaopciaa
/- THE CELL 'sum', in the pinned program and in every row, IS THE sha256 OF THE DUMP (.gsa) THAT YtfogmplpaopciaaProg.lean LOADS. Nothing in Lean hashes anything: it is a label: what it is worth is what the hold of that sum in a sandbox is worth. -/
noncomputable def Try.pinned : Pinned := { name := "ytfogmplpaopciaa", sum := "80e525803281559c027f10a857fb25e683f9d7f64b8aafc6c43abe5935c2a81d", checked := Try.checked }
namespace Rows
def none {H : Type} : Left H := { results := [], args := [] }

/-- 'laws.FnExactAccountsOk': WHATEVER THE INPUT: true; the input reads as it did. -/
def fnExactAccountsOkSpec : ChangeSpec := { name := "fnExactAccountsOk", fn := fun _ => fun
  | [d] => { results := [.lit (.bool true)], args := [d] }
  | _ => none }
def fnExactAccountsOkRow : OpenClaim := { program := "ytfogmplpaopciaa", sum := "80e525803281559c027f10a857fb25e683f9d7f64b8aafc6c43abe5935c2a81d", func := "loop.example/g00454/laws.FnExactAccountsOk", spec := "fnExactAccountsOk", apart := false }
def FnExactAccountsOkSaid : Prop := fnExactAccountsOkRow.holds Try.pinned (OpenSpec.ofChange fnExactAccountsOkSpec)

/-- ITS FALSE NEIGHBOUR: 'it returns false'. Refute it at one input. -/
def fnExactAccountsOkWrong : ChangeSpec := { name := "fnExactAccountsOk", fn := fun _ => fun
  | [d] => { results := [.lit (.bool false)], args := [d] }
  | _ => none }
def FnExactAccountsOkWrongFalsely : Prop := fnExactAccountsOkRow.holds Try.pinned (OpenSpec.ofChange fnExactAccountsOkWrong)

/-- 'laws.FnExactBillsOk': WHATEVER THE INPUT: true; the input reads as it did. -/
def fnExactBillsOkSpec : ChangeSpec := { name := "fnExactBillsOk", fn := fun _ => fun
  | [d] => { results := [.lit (.bool true)], args := [d] }
  | _ => none }
def fnExactBillsOkRow : OpenClaim := { program := "ytfogmplpaopciaa", sum := "80e525803281559c027f10a857fb25e683f9d7f64b8aafc6c43abe5935c2a81d", func := "loop.example/g00454/laws.FnExactBillsOk", spec := "fnExactBillsOk", apart := false }
def FnExactBillsOkSaid : Prop := fnExactBillsOkRow.holds Try.pinned (OpenSpec.ofChange fnExactBillsOkSpec)

/-- ITS FALSE NEIGHBOUR: 'it returns false'. Refute it at one input. -/
def fnExactBillsOkWrong : ChangeSpec := { name := "fnExactBillsOk", fn := fun _ => fun
  | [d] => { results := [.lit (.bool false)], args := [d] }
  | _ => none }
def FnExactBillsOkWrongFalsely : Prop := fnExactBillsOkRow.holds Try.pinned (OpenSpec.ofChange fnExactBillsOkWrong)

/-- 'laws.FnExactAccountAt': WHATEVER THE INPUT: true; the input reads as it did. -/
def fnExactAccountAtSpec : ChangeSpec := { name := "fnExactAccountAt", fn := fun _ => fun
  | [d1, d2] => { results := [.lit (.bool true)], args := [d1, d2] }
  | _ => none }
def fnExactAccountAtRow : OpenClaim := { program := "ytfogmplpaopciaa", sum := "80e525803281559c027f10a857fb25e683f9d7f64b8aafc6c43abe5935c2a81d", func := "loop.example/g00454/laws.FnExactAccountAt", spec := "fnExactAccountAt", apart := false }
def FnExactAccountAtSaid : Prop := fnExactAccountAtRow.holds Try.pinned (OpenSpec.ofChange fnExactAccountAtSpec)

/-- ITS FALSE NEIGHBOUR: 'it returns false'. Refute it at one input. -/
def fnExactAccountAtWrong : ChangeSpec := { name := "fnExactAccountAt", fn := fun _ => fun
  | [d1, d2] => { results := [.lit (.bool false)], args := [d1, d2] }
  | _ => none }
def FnExactAccountAtWrongFalsely : Prop := fnExactAccountAtRow.holds Try.pinned (OpenSpec.ofChange fnExactAccountAtWrong)

/-- 'laws.FnExactFade': WHATEVER THE INPUT: true; the input reads as it did. -/
def fnExactFadeSpec : ChangeSpec := { name := "fnExactFade", fn := fun _ => fun
  | [d] => { results := [.lit (.bool true)], args := [d] }
  | _ => none }
def fnExactFadeRow : OpenClaim := { program := "ytfogmplpaopciaa", sum := "80e525803281559c027f10a857fb25e683f9d7f64b8aafc6c43abe5935c2a81d", func := "loop.example/g00454/laws.FnExactFade", spec := "fnExactFade", apart := false }
def FnExactFadeSaid : Prop := fnExactFadeRow.holds Try.pinned (OpenSpec.ofChange fnExactFadeSpec)

/-- ITS FALSE NEIGHBOUR: 'it returns false'. Refute it at one input. -/
def fnExactFadeWrong : ChangeSpec := { name := "fnExactFade", fn := fun _ => fun
  | [d] => { results := [.lit (.bool false)], args := [d] }
  | _ => none }
def FnExactFadeWrongFalsely : Prop := fnExactFadeRow.holds Try.pinned (OpenSpec.ofChange fnExactFadeWrong)

/-- 'laws.FnExactRankPrio': WHATEVER THE INPUT: true; the input reads as it did. -/
def fnExactRankPrioSpec : ChangeSpec := { name := "fnExactRankPrio", fn := fun _ => fun
  | [d1, d2, d3] => { results := [.lit (.bool true)], args := [d1, d2, d3] }
  | _ => none }
def fnExactRankPrioRow : OpenClaim := { program := "ytfogmplpaopciaa", sum := "80e525803281559c027f10a857fb25e683f9d7f64b8aafc6c43abe5935c2a81d", func := "loop.example/g00454/laws.FnExactRankPrio", spec := "fnExactRankPrio", apart := false }
def FnExactRankPrioSaid : Prop := fnExactRankPrioRow.holds Try.pinned (OpenSpec.ofChange fnExactRankPrioSpec)

/-- ITS FALSE NEIGHBOUR: 'it returns false'. Refute it at one input. -/
def fnExactRankPrioWrong : ChangeSpec := { name := "fnExactRankPrio", fn := fun _ => fun
  | [d1, d2, d3] => { results := [.lit (.bool false)], args := [d1, d2, d3] }
  | _ => none }
def FnExactRankPrioWrongFalsely : Prop := fnExactRankPrioRow.holds Try.pinned (OpenSpec.ofChange fnExactRankPrioWrong)

/-- 'laws.FnExactCharge': WHATEVER THE INPUT: true; the input reads as it did. -/
def fnExactChargeSpec : ChangeSpec := { name := "fnExactCharge", fn := fun _ => fun
  | [d1, d2, d3] => { results := [.lit (.bool true)], args := [d1, d2, d3] }
  | _ => none }
def fnExactChargeRow : OpenClaim := { program := "ytfogmplpaopciaa", sum := "80e525803281559c027f10a857fb25e683f9d7f64b8aafc6c43abe5935c2a81d", func := "loop.example/g00454/laws.FnExactCharge", spec := "fnExactCharge", apart := false }
def FnExactChargeSaid : Prop := fnExactChargeRow.holds Try.pinned (OpenSpec.ofChange fnExactChargeSpec)

/-- ITS FALSE NEIGHBOUR: 'it returns false'. Refute it at one input. -/
def fnExactChargeWrong : ChangeSpec := { name := "fnExactCharge", fn := fun _ => fun
  | [d1, d2, d3] => { results := [.lit (.bool false)], args := [d1, d2, d3] }
  | _ => none }
def FnExactChargeWrongFalsely : Prop := fnExactChargeRow.holds Try.pinned (OpenSpec.ofChange fnExactChargeWrong)

/- THE SECOND FORM. 'bulk': how many values and letters a reading holds, each counted each time it is reached (what is shared counts as often as it is met; a slice's spare places count too). A statement '..UptoSaid' is the law's where the arguments, and the package variables that the reading takes, are together of bulk at most 1048576: NARROWER than '..Said'. Prove '..Said' where nothing that the law and all that it calls make is longer than what came in: it says more and counts as full. Else prove '..UptoSaid'. A law counts once. -/
mutual
def uptoBulk {H : Type} : DataW H → Nat
  | .lit (.string bytes) => bytes.length + 1
  | .lit _ => 1
  | .nil => 1
  | .ptr d => uptoBulk d + 1
  | .slice elems spare => uptoBulkAll elems + uptoBulkAll spare + 1
  | .agg parts => uptoBulkAll parts + 1
  | .iface _ d => uptoBulk d + 1
  | .map entries => uptoBulkEntries entries + 1
  | .held _ => 1
def uptoBulkAll {H : Type} : List (DataW H) → Nat
  | [] => 0
  | d :: r => uptoBulk d + uptoBulkAll r
def uptoBulkEntries {H : Type} : List (Lit × DataW H) → Nat
  | [] => 0
  | x :: r => uptoBulkEntry x + uptoBulkEntries r
def uptoBulkEntry {H : Type} : Lit × DataW H → Nat
  | (.string bytes, d) => bytes.length + uptoBulk d + 1
  | (_, d) => uptoBulk d + 1
 end
def uptoSmall : (H : Type) → List (DataW H) → Bool := fun _ ds => decide (uptoBulkAll ds ≤ 1048576)
def OpenSpec.upto (s : _root_.Go.ChangeSpec) : _root_.Go.OpenSpec := { _root_.Go.OpenSpec.ofChange s with cond := some uptoSmall }

/-- 'laws.FnExactAccountsOk', WHERE WHAT IT READS IS OF BULK AT MOST 1048576: true; the input reads as it did. -/
def fnExactAccountsOkUptoRow : OpenClaim := { program := "ytfogmplpaopciaa", sum := "80e525803281559c027f10a857fb25e683f9d7f64b8aafc6c43abe5935c2a81d", func := "loop.example/g00454/laws.FnExactAccountsOk", spec := "fnExactAccountsOk", apart := false, narrowed := true }
def FnExactAccountsOkUptoSaid : Prop := fnExactAccountsOkUptoRow.holds Try.pinned (OpenSpec.upto fnExactAccountsOkSpec)

/-- 'laws.FnExactBillsOk', WHERE WHAT IT READS IS OF BULK AT MOST 1048576: true; the input reads as it did. -/
def fnExactBillsOkUptoRow : OpenClaim := { program := "ytfogmplpaopciaa", sum := "80e525803281559c027f10a857fb25e683f9d7f64b8aafc6c43abe5935c2a81d", func := "loop.example/g00454/laws.FnExactBillsOk", spec := "fnExactBillsOk", apart := false, narrowed := true }
def FnExactBillsOkUptoSaid : Prop := fnExactBillsOkUptoRow.holds Try.pinned (OpenSpec.upto fnExactBillsOkSpec)

/-- 'laws.FnExactAccountAt', WHERE WHAT IT READS IS OF BULK AT MOST 1048576: true; the input reads as it did. -/
def fnExactAccountAtUptoRow : OpenClaim := { program := "ytfogmplpaopciaa", sum := "80e525803281559c027f10a857fb25e683f9d7f64b8aafc6c43abe5935c2a81d", func := "loop.example/g00454/laws.FnExactAccountAt", spec := "fnExactAccountAt", apart := false, narrowed := true }
def FnExactAccountAtUptoSaid : Prop := fnExactAccountAtUptoRow.holds Try.pinned (OpenSpec.upto fnExactAccountAtSpec)

/-- 'laws.FnExactFade', WHERE WHAT IT READS IS OF BULK AT MOST 1048576: true; the input reads as it did. -/
def fnExactFadeUptoRow : OpenClaim := { program := "ytfogmplpaopciaa", sum := "80e525803281559c027f10a857fb25e683f9d7f64b8aafc6c43abe5935c2a81d", func := "loop.example/g00454/laws.FnExactFade", spec := "fnExactFade", apart := false, narrowed := true }
def FnExactFadeUptoSaid : Prop := fnExactFadeUptoRow.holds Try.pinned (OpenSpec.upto fnExactFadeSpec)

/-- 'laws.FnExactRankPrio', WHERE WHAT IT READS IS OF BULK AT MOST 1048576: true; the input reads as it did. -/
def fnExactRankPrioUptoRow : OpenClaim := { program := "ytfogmplpaopciaa", sum := "80e525803281559c027f10a857fb25e683f9d7f64b8aafc6c43abe5935c2a81d", func := "loop.example/g00454/laws.FnExactRankPrio", spec := "fnExactRankPrio", apart := false, narrowed := true }
def FnExactRankPrioUptoSaid : Prop := fnExactRankPrioUptoRow.holds Try.pinned (OpenSpec.upto fnExactRankPrioSpec)

/-- 'laws.FnExactCharge', WHERE WHAT IT READS IS OF BULK AT MOST 1048576: true; the input reads as it did. -/
def fnExactChargeUptoRow : OpenClaim := { program := "ytfogmplpaopciaa", sum := "80e525803281559c027f10a857fb25e683f9d7f64b8aafc6c43abe5935c2a81d", func := "loop.example/g00454/laws.FnExactCharge", spec := "fnExactCharge", apart := false, narrowed := true }
def FnExactChargeUptoSaid : Prop := fnExactChargeUptoRow.holds Try.pinned (OpenSpec.upto fnExactChargeSpec)

end Rows
end Go.Proofs.Ytfogmplpaopciaa
