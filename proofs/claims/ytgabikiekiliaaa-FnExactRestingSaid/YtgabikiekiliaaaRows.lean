/-
  No cell of these rows narrows 'for every input' (looked for: loops, veiled, ifaces, maps, wideKeys, modest, calm, conditions, laid).
  DERIVED. THE GIVEN ROWS OF THIS SEAT. 6 by the template 'for every input the law returns true; each argument reads behind the call as it read before'; 0 by the template 'total and deterministic' (their statements: YtgabikiekiliaaaTotals.lean).
  GIVEN WITH THE SEED: the statements are not yours to turn. If you find one false, say at which input.
  Laid BY PROGRAM, IN A SANDBOX (cutbox-rows.mjs): the forced cells as the released guide's own fill.sh prints them over the translation 1a5d942704ef4a69… (all of the seat's roots in one cut). By AI agents, Wed Nov 11 2026. No macro, syntax, notation, axiom, sorry.
-/
import Derived.Test.YtgabikiekiliaaaChecked
import GoSem.Claim
import GoSem.ClaimJoined
import GoSem.ClaimMapViews
import Derived.JoinedTies
import Derived.KernelRfl
namespace Go.Proofs.Ytgabikiekiliaaa
/- THE CELL 'sum', in the pinned program and in every row, IS THE sha256 OF THE DUMP (.gsa) THAT YtgabikiekiliaaaProg.lean LOADS. Nothing in Lean hashes anything: it is a label: what it is worth is what the hold of that sum in a sandbox is worth. -/
noncomputable def Try.pinned : Pinned := { name := "ytgabikiekiliaaa", sum := "1a5d942704ef4a6977194167b2b0496ead9034541d044bdd3033a5f1e40eade1", checked := Try.checked }
namespace Rows
def none {H : Type} : Left H := { results := [], args := [] }

/-- 'laws.FnExactFreeOver': WHATEVER THE INPUT: true; the input reads as it did. -/
def fnExactFreeOverSpec : ChangeSpec := { name := "fnExactFreeOver", fn := fun _ => fun
  | [d1, d2, d3] => { results := [.lit (.bool true)], args := [d1, d2, d3] }
  | _ => none }
def fnExactFreeOverRow : OpenClaim := { program := "ytgabikiekiliaaa", sum := "1a5d942704ef4a6977194167b2b0496ead9034541d044bdd3033a5f1e40eade1", func := "loop.example/g00454/laws.FnExactFreeOver", spec := "fnExactFreeOver", apart := false }
def FnExactFreeOverSaid : Prop := fnExactFreeOverRow.holds Try.pinned (OpenSpec.ofChange fnExactFreeOverSpec)

/-- ITS FALSE NEIGHBOUR: 'it returns false'. Refute it at one input. -/
def fnExactFreeOverWrong : ChangeSpec := { name := "fnExactFreeOver", fn := fun _ => fun
  | [d1, d2, d3] => { results := [.lit (.bool false)], args := [d1, d2, d3] }
  | _ => none }
def FnExactFreeOverWrongFalsely : Prop := fnExactFreeOverRow.holds Try.pinned (OpenSpec.ofChange fnExactFreeOverWrong)

/-- 'laws.FnExactUsedOver': WHATEVER THE INPUT: true; the input reads as it did. -/
def fnExactUsedOverSpec : ChangeSpec := { name := "fnExactUsedOver", fn := fun _ => fun
  | [d1, d2, d3, d4] => { results := [.lit (.bool true)], args := [d1, d2, d3, d4] }
  | _ => none }
def fnExactUsedOverRow : OpenClaim := { program := "ytgabikiekiliaaa", sum := "1a5d942704ef4a6977194167b2b0496ead9034541d044bdd3033a5f1e40eade1", func := "loop.example/g00454/laws.FnExactUsedOver", spec := "fnExactUsedOver", apart := false }
def FnExactUsedOverSaid : Prop := fnExactUsedOverRow.holds Try.pinned (OpenSpec.ofChange fnExactUsedOverSpec)

/-- ITS FALSE NEIGHBOUR: 'it returns false'. Refute it at one input. -/
def fnExactUsedOverWrong : ChangeSpec := { name := "fnExactUsedOver", fn := fun _ => fun
  | [d1, d2, d3, d4] => { results := [.lit (.bool false)], args := [d1, d2, d3, d4] }
  | _ => none }
def FnExactUsedOverWrongFalsely : Prop := fnExactUsedOverRow.holds Try.pinned (OpenSpec.ofChange fnExactUsedOverWrong)

/-- 'laws.FnOver': WHATEVER THE INPUT: true; the input reads as it did. -/
def fnOverSpec : ChangeSpec := { name := "fnOver", fn := fun _ => fun
  | [d] => { results := [.lit (.bool true)], args := [d] }
  | _ => none }
def fnOverRow : OpenClaim := { program := "ytgabikiekiliaaa", sum := "1a5d942704ef4a6977194167b2b0496ead9034541d044bdd3033a5f1e40eade1", func := "loop.example/g00454/laws.FnOver", spec := "fnOver", apart := false }
def FnOverSaid : Prop := fnOverRow.holds Try.pinned (OpenSpec.ofChange fnOverSpec)

/-- ITS FALSE NEIGHBOUR: 'it returns false'. Refute it at one input. -/
def fnOverWrong : ChangeSpec := { name := "fnOver", fn := fun _ => fun
  | [d] => { results := [.lit (.bool false)], args := [d] }
  | _ => none }
def FnOverWrongFalsely : Prop := fnOverRow.holds Try.pinned (OpenSpec.ofChange fnOverWrong)

/-- 'laws.FnExactResting': WHATEVER THE INPUT: true; the input reads as it did. -/
def fnExactRestingSpec : ChangeSpec := { name := "fnExactResting", fn := fun _ => fun
  | [d1, d2, d3] => { results := [.lit (.bool true)], args := [d1, d2, d3] }
  | _ => none }
def fnExactRestingRow : OpenClaim := { program := "ytgabikiekiliaaa", sum := "1a5d942704ef4a6977194167b2b0496ead9034541d044bdd3033a5f1e40eade1", func := "loop.example/g00454/laws.FnExactResting", spec := "fnExactResting", apart := false }
def FnExactRestingSaid : Prop := fnExactRestingRow.holds Try.pinned (OpenSpec.ofChange fnExactRestingSpec)

/-- ITS FALSE NEIGHBOUR: 'it returns false'. Refute it at one input. -/
def fnExactRestingWrong : ChangeSpec := { name := "fnExactResting", fn := fun _ => fun
  | [d1, d2, d3] => { results := [.lit (.bool false)], args := [d1, d2, d3] }
  | _ => none }
def FnExactRestingWrongFalsely : Prop := fnExactRestingRow.holds Try.pinned (OpenSpec.ofChange fnExactRestingWrong)

/-- 'laws.FnExactWindowsCut': WHATEVER THE INPUT: true; the input reads as it did. -/
def fnExactWindowsCutSpec : ChangeSpec := { name := "fnExactWindowsCut", fn := fun _ => fun
  | [d1, d2] => { results := [.lit (.bool true)], args := [d1, d2] }
  | _ => none }
def fnExactWindowsCutRow : OpenClaim := { program := "ytgabikiekiliaaa", sum := "1a5d942704ef4a6977194167b2b0496ead9034541d044bdd3033a5f1e40eade1", func := "loop.example/g00454/laws.FnExactWindowsCut", spec := "fnExactWindowsCut", apart := false }
def FnExactWindowsCutSaid : Prop := fnExactWindowsCutRow.holds Try.pinned (OpenSpec.ofChange fnExactWindowsCutSpec)

/-- ITS FALSE NEIGHBOUR: 'it returns false'. Refute it at one input. -/
def fnExactWindowsCutWrong : ChangeSpec := { name := "fnExactWindowsCut", fn := fun _ => fun
  | [d1, d2] => { results := [.lit (.bool false)], args := [d1, d2] }
  | _ => none }
def FnExactWindowsCutWrongFalsely : Prop := fnExactWindowsCutRow.holds Try.pinned (OpenSpec.ofChange fnExactWindowsCutWrong)

/-- 'laws.FnExactQuantile': WHATEVER THE INPUT: true; the input reads as it did. -/
def fnExactQuantileSpec : ChangeSpec := { name := "fnExactQuantile", fn := fun _ => fun
  | [d1, d2] => { results := [.lit (.bool true)], args := [d1, d2] }
  | _ => none }
def fnExactQuantileRow : OpenClaim := { program := "ytgabikiekiliaaa", sum := "1a5d942704ef4a6977194167b2b0496ead9034541d044bdd3033a5f1e40eade1", func := "loop.example/g00454/laws.FnExactQuantile", spec := "fnExactQuantile", recurses := true, apart := false }
def FnExactQuantileSaid : Prop := fnExactQuantileRow.holds Try.pinned (OpenSpec.ofChange fnExactQuantileSpec)

/-- ITS FALSE NEIGHBOUR: 'it returns false'. Refute it at one input. -/
def fnExactQuantileWrong : ChangeSpec := { name := "fnExactQuantile", fn := fun _ => fun
  | [d1, d2] => { results := [.lit (.bool false)], args := [d1, d2] }
  | _ => none }
def FnExactQuantileWrongFalsely : Prop := fnExactQuantileRow.holds Try.pinned (OpenSpec.ofChange fnExactQuantileWrong)

/- THE SECOND FORM. 'bulk': how many values and letters a reading holds, each counted each time it is reached (what is shared counts as often as it is met; a slice's spare places count too). A statement '..UptoSaid' is the law's where the arguments, and the package variables that the reading takes, are together of bulk at most 1048576: NARROWER than '..Said'. Prove '..Said' where nothing that the law and all that it calls make is longer than what came in: it says more and counts as full. Else prove '..UptoSaid'. A law counts once. -/
mutual
def uptoBulk {H : Type} : DataW H → Nat
  | .lit (.string bytes) => bytes.length + 1
  | .lit _ => 1
  | .nil => 1
  | .ptr d => uptoBulk d + 1
  | .slice elems spare => uptoBulkAll elems + uptoBulkAll spare + 1
  | .agg parts => uptoBulkAll parts + 1
  | .iface _ d => uptoBulk d + 1
  | .map entries => uptoBulkEntries entries + 1
  | .held _ => 1
def uptoBulkAll {H : Type} : List (DataW H) → Nat
  | [] => 0
  | d :: r => uptoBulk d + uptoBulkAll r
def uptoBulkEntries {H : Type} : List (Lit × DataW H) → Nat
  | [] => 0
  | x :: r => uptoBulkEntry x + uptoBulkEntries r
def uptoBulkEntry {H : Type} : Lit × DataW H → Nat
  | (.string bytes, d) => bytes.length + uptoBulk d + 1
  | (_, d) => uptoBulk d + 1
 end
def uptoSmall : (H : Type) → List (DataW H) → Bool := fun _ ds => decide (uptoBulkAll ds ≤ 1048576)
def OpenSpec.upto (s : _root_.Go.ChangeSpec) : _root_.Go.OpenSpec := { _root_.Go.OpenSpec.ofChange s with cond := some uptoSmall }

/-- 'laws.FnExactFreeOver', WHERE WHAT IT READS IS OF BULK AT MOST 1048576: true; the input reads as it did. -/
def fnExactFreeOverUptoRow : OpenClaim := { program := "ytgabikiekiliaaa", sum := "1a5d942704ef4a6977194167b2b0496ead9034541d044bdd3033a5f1e40eade1", func := "loop.example/g00454/laws.FnExactFreeOver", spec := "fnExactFreeOver", apart := false, narrowed := true }
def FnExactFreeOverUptoSaid : Prop := fnExactFreeOverUptoRow.holds Try.pinned (OpenSpec.upto fnExactFreeOverSpec)

/-- 'laws.FnExactUsedOver', WHERE WHAT IT READS IS OF BULK AT MOST 1048576: true; the input reads as it did. -/
def fnExactUsedOverUptoRow : OpenClaim := { program := "ytgabikiekiliaaa", sum := "1a5d942704ef4a6977194167b2b0496ead9034541d044bdd3033a5f1e40eade1", func := "loop.example/g00454/laws.FnExactUsedOver", spec := "fnExactUsedOver", apart := false, narrowed := true }
def FnExactUsedOverUptoSaid : Prop := fnExactUsedOverUptoRow.holds Try.pinned (OpenSpec.upto fnExactUsedOverSpec)

/-- 'laws.FnOver', WHERE WHAT IT READS IS OF BULK AT MOST 1048576: true; the input reads as it did. -/
def fnOverUptoRow : OpenClaim := { program := "ytgabikiekiliaaa", sum := "1a5d942704ef4a6977194167b2b0496ead9034541d044bdd3033a5f1e40eade1", func := "loop.example/g00454/laws.FnOver", spec := "fnOver", apart := false, narrowed := true }
def FnOverUptoSaid : Prop := fnOverUptoRow.holds Try.pinned (OpenSpec.upto fnOverSpec)

/-- 'laws.FnExactResting', WHERE WHAT IT READS IS OF BULK AT MOST 1048576: true; the input reads as it did. -/
def fnExactRestingUptoRow : OpenClaim := { program := "ytgabikiekiliaaa", sum := "1a5d942704ef4a6977194167b2b0496ead9034541d044bdd3033a5f1e40eade1", func := "loop.example/g00454/laws.FnExactResting", spec := "fnExactResting", apart := false, narrowed := true }
def FnExactRestingUptoSaid : Prop := fnExactRestingUptoRow.holds Try.pinned (OpenSpec.upto fnExactRestingSpec)

/-- 'laws.FnExactWindowsCut', WHERE WHAT IT READS IS OF BULK AT MOST 1048576: true; the input reads as it did. -/
def fnExactWindowsCutUptoRow : OpenClaim := { program := "ytgabikiekiliaaa", sum := "1a5d942704ef4a6977194167b2b0496ead9034541d044bdd3033a5f1e40eade1", func := "loop.example/g00454/laws.FnExactWindowsCut", spec := "fnExactWindowsCut", apart := false, narrowed := true }
def FnExactWindowsCutUptoSaid : Prop := fnExactWindowsCutUptoRow.holds Try.pinned (OpenSpec.upto fnExactWindowsCutSpec)

/-- 'laws.FnExactQuantile', WHERE WHAT IT READS IS OF BULK AT MOST 1048576: true; the input reads as it did. -/
def fnExactQuantileUptoRow : OpenClaim := { program := "ytgabikiekiliaaa", sum := "1a5d942704ef4a6977194167b2b0496ead9034541d044bdd3033a5f1e40eade1", func := "loop.example/g00454/laws.FnExactQuantile", spec := "fnExactQuantile", recurses := true, apart := false, narrowed := true }
def FnExactQuantileUptoSaid : Prop := fnExactQuantileUptoRow.holds Try.pinned (OpenSpec.upto fnExactQuantileSpec)

end Rows
end Go.Proofs.Ytgabikiekiliaaa
