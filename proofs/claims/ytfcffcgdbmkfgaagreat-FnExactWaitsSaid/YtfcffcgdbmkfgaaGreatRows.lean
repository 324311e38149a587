/-
  No cell of these rows narrows 'for every input' (looked for: loops, veiled, ifaces, maps, wideKeys, modest, calm, conditions, laid).
  DERIVED. THE GIVEN ROWS OF THIS SEAT. 3 by the template 'for every input the law returns true; each argument reads behind the call as it read before'; 0 by the template 'total and deterministic' (their statements: YtfcffcgdbmkfgaaGreatTotals.lean).
  GIVEN WITH THE SEED: the statements are not yours to turn. If you find one false, say at which input.
  Laid BY PROGRAM, IN A SANDBOX (cutbox-rows.mjs): the forced cells as the released guide's own fill.sh prints them over the translation 94ac0357a2c4f5a1… (all of the seat's roots in one cut). By AI agents, Wed Nov 11 2026. No macro, syntax, notation, axiom, sorry.
-/
import Derived.Test.YtfcffcgdbmkfgaaGreatChecked
import GoSem.Claim
import GoSem.ClaimJoined
import GoSem.ClaimMapViews
import Derived.JoinedTies
import Derived.KernelRfl
namespace Go.Proofs.YtfcffcgdbmkfgaaGreat
/- THE CELL 'sum', in the pinned program and in every row, IS THE sha256 OF THE DUMP (.gsa) THAT YtfcffcgdbmkfgaaGreatProg.lean LOADS. Nothing in Lean hashes anything: it is a label: what it is worth is what the hold of that sum in a sandbox is worth. -/
noncomputable def Tryz.pinned : Pinned := { name := "ytfcffcgdbmkfgaagreat", sum := "94ac0357a2c4f5a129a5e76b34ff7c68afe9573d712f616a44467fa477545487", checked := Tryz.checked }
namespace Rows
def none {H : Type} : Left H := { results := [], args := [] }

/-- 'laws.FnExactSpent': WHATEVER THE INPUT: true; the input reads as it did. -/
def fnExactSpentSpec : ChangeSpec := { name := "fnExactSpent", fn := fun _ => fun
  | [d] => { results := [.lit (.bool true)], args := [d] }
  | _ => none }
def fnExactSpentRow : OpenClaim := { program := "ytfcffcgdbmkfgaagreat", sum := "94ac0357a2c4f5a129a5e76b34ff7c68afe9573d712f616a44467fa477545487", func := "loop.example/g00454/laws.FnExactSpent", spec := "fnExactSpent", unfollowed := true, recurses := true, apart := false }
def FnExactSpentSaid : Prop := fnExactSpentRow.holds Tryz.pinned (OpenSpec.ofChange fnExactSpentSpec)

/-- ITS FALSE NEIGHBOUR: 'it returns false'. Refute it at one input. -/
def fnExactSpentWrong : ChangeSpec := { name := "fnExactSpent", fn := fun _ => fun
  | [d] => { results := [.lit (.bool false)], args := [d] }
  | _ => none }
def FnExactSpentWrongFalsely : Prop := fnExactSpentRow.holds Tryz.pinned (OpenSpec.ofChange fnExactSpentWrong)

/-- 'laws.FnExactWaits': WHATEVER THE INPUT: true; the input reads as it did. -/
def fnExactWaitsSpec : ChangeSpec := { name := "fnExactWaits", fn := fun _ => fun
  | [d1, d2] => { results := [.lit (.bool true)], args := [d1, d2] }
  | _ => none }
def fnExactWaitsRow : OpenClaim := { program := "ytfcffcgdbmkfgaagreat", sum := "94ac0357a2c4f5a129a5e76b34ff7c68afe9573d712f616a44467fa477545487", func := "loop.example/g00454/laws.FnExactWaits", spec := "fnExactWaits", unfollowed := true, recurses := true, apart := false }
def FnExactWaitsSaid : Prop := fnExactWaitsRow.holds Tryz.pinned (OpenSpec.ofChange fnExactWaitsSpec)

/-- ITS FALSE NEIGHBOUR: 'it returns false'. Refute it at one input. -/
def fnExactWaitsWrong : ChangeSpec := { name := "fnExactWaits", fn := fun _ => fun
  | [d1, d2] => { results := [.lit (.bool false)], args := [d1, d2] }
  | _ => none }
def FnExactWaitsWrongFalsely : Prop := fnExactWaitsRow.holds Tryz.pinned (OpenSpec.ofChange fnExactWaitsWrong)

/-- 'laws.FnExactLoad': WHATEVER THE INPUT: true; the input reads as it did. -/
def fnExactLoadSpec : ChangeSpec := { name := "fnExactLoad", fn := fun _ => fun
  | [d1, d2] => { results := [.lit (.bool true)], args := [d1, d2] }
  | _ => none }
def fnExactLoadRow : OpenClaim := { program := "ytfcffcgdbmkfgaagreat", sum := "94ac0357a2c4f5a129a5e76b34ff7c68afe9573d712f616a44467fa477545487", func := "loop.example/g00454/laws.FnExactLoad", spec := "fnExactLoad", unfollowed := true, recurses := true, apart := false }
def FnExactLoadSaid : Prop := fnExactLoadRow.holds Tryz.pinned (OpenSpec.ofChange fnExactLoadSpec)

/-- ITS FALSE NEIGHBOUR: 'it returns false'. Refute it at one input. -/
def fnExactLoadWrong : ChangeSpec := { name := "fnExactLoad", fn := fun _ => fun
  | [d1, d2] => { results := [.lit (.bool false)], args := [d1, d2] }
  | _ => none }
def FnExactLoadWrongFalsely : Prop := fnExactLoadRow.holds Tryz.pinned (OpenSpec.ofChange fnExactLoadWrong)

/- THE SECOND FORM. 'bulk': how many values and letters a reading holds, each counted each time it is reached (what is shared counts as often as it is met; a slice's spare places count too). A statement '..UptoSaid' is the law's where the arguments, and the package variables that the reading takes, are together of bulk at most 1048576: NARROWER than '..Said'. Prove '..Said' where nothing that the law and all that it calls make is longer than what came in: it says more and counts as full. Else prove '..UptoSaid'. A law counts once. -/
mutual
def uptoBulk {H : Type} : DataW H → Nat
  | .lit (.string bytes) => bytes.length + 1
  | .lit _ => 1
  | .nil => 1
  | .ptr d => uptoBulk d + 1
  | .slice elems spare => uptoBulkAll elems + uptoBulkAll spare + 1
  | .agg parts => uptoBulkAll parts + 1
  | .iface _ d => uptoBulk d + 1
  | .map entries => uptoBulkEntries entries + 1
  | .held _ => 1
def uptoBulkAll {H : Type} : List (DataW H) → Nat
  | [] => 0
  | d :: r => uptoBulk d + uptoBulkAll r
def uptoBulkEntries {H : Type} : List (Lit × DataW H) → Nat
  | [] => 0
  | x :: r => uptoBulkEntry x + uptoBulkEntries r
def uptoBulkEntry {H : Type} : Lit × DataW H → Nat
  | (.string bytes, d) => bytes.length + uptoBulk d + 1
  | (_, d) => uptoBulk d + 1
 end
def uptoSmall : (H : Type) → List (DataW H) → Bool := fun _ ds => decide (uptoBulkAll ds ≤ 1048576)
def OpenSpec.upto (s : _root_.Go.ChangeSpec) : _root_.Go.OpenSpec := { _root_.Go.OpenSpec.ofChange s with cond := some uptoSmall }

/-- 'laws.FnExactSpent', WHERE WHAT IT READS IS OF BULK AT MOST 1048576: true; the input reads as it did. -/
def fnExactSpentUptoRow : OpenClaim := { program := "ytfcffcgdbmkfgaagreat", sum := "94ac0357a2c4f5a129a5e76b34ff7c68afe9573d712f616a44467fa477545487", func := "loop.example/g00454/laws.FnExactSpent", spec := "fnExactSpent", unfollowed := true, recurses := true, apart := false, narrowed := true }
def FnExactSpentUptoSaid : Prop := fnExactSpentUptoRow.holds Tryz.pinned (OpenSpec.upto fnExactSpentSpec)

/-- 'laws.FnExactWaits', WHERE WHAT IT READS IS OF BULK AT MOST 1048576: true; the input reads as it did. -/
def fnExactWaitsUptoRow : OpenClaim := { program := "ytfcffcgdbmkfgaagreat", sum := "94ac0357a2c4f5a129a5e76b34ff7c68afe9573d712f616a44467fa477545487", func := "loop.example/g00454/laws.FnExactWaits", spec := "fnExactWaits", unfollowed := true, recurses := true, apart := false, narrowed := true }
def FnExactWaitsUptoSaid : Prop := fnExactWaitsUptoRow.holds Tryz.pinned (OpenSpec.upto fnExactWaitsSpec)

/-- 'laws.FnExactLoad', WHERE WHAT IT READS IS OF BULK AT MOST 1048576: true; the input reads as it did. -/
def fnExactLoadUptoRow : OpenClaim := { program := "ytfcffcgdbmkfgaagreat", sum := "94ac0357a2c4f5a129a5e76b34ff7c68afe9573d712f616a44467fa477545487", func := "loop.example/g00454/laws.FnExactLoad", spec := "fnExactLoad", unfollowed := true, recurses := true, apart := false, narrowed := true }
def FnExactLoadUptoSaid : Prop := fnExactLoadUptoRow.holds Tryz.pinned (OpenSpec.upto fnExactLoadSpec)

end Rows
end Go.Proofs.YtfcffcgdbmkfgaaGreat
