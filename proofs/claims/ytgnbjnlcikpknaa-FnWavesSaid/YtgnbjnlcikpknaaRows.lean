/-
  No cell of these rows narrows 'for every input' (looked for: loops, veiled, ifaces, maps, wideKeys, modest, calm, conditions, laid).
  DERIVED. THE GIVEN ROWS OF THIS SEAT. 4 by the template 'for every input the law returns true; each argument reads behind the call as it read before'; 0 by the template 'total and deterministic' (their statements: YtgnbjnlcikpknaaTotals.lean).
  GIVEN WITH THE SEED: the statements are not yours to turn. If you find one false, say at which input.
  Laid BY PROGRAM, IN A SANDBOX (cutbox-rows.mjs): the forced cells as the released guide's own fill.sh prints them over the translation 63ca0f67e1ce8344… (all of the seat's roots in one cut). By AI agents, Wed Nov 11 2026. No macro, syntax, notation, axiom, sorry.
-/
import Derived.Test.YtgnbjnlcikpknaaChecked
import GoSem.Claim
import GoSem.ClaimJoined
import GoSem.ClaimMapViews
import Derived.JoinedTies
import Derived.KernelRfl
namespace Go.Proofs.Ytgnbjnlcikpknaa
/- THE CELL 'sum', in the pinned program and in every row, IS THE sha256 OF THE DUMP (.gsa) THAT YtgnbjnlcikpknaaProg.lean LOADS. Nothing in Lean hashes anything: it is a label: what it is worth is what the hold of that sum in a sandbox is worth. -/
noncomputable def Try.pinned : Pinned := { name := "ytgnbjnlcikpknaa", sum := "63ca0f67e1ce8344571614357c58745cef1196633af7f5bb2c76dd893a762426", checked := Try.checked }
namespace Rows
def none {H : Type} : Left H := { results := [], args := [] }

/-- 'laws.FnWaves': WHATEVER THE INPUT: true; the input reads as it did. -/
def fnWavesSpec : ChangeSpec := { name := "fnWaves", fn := fun _ => fun
  | [d] => { results := [.lit (.bool true)], args := [d] }
  | _ => none }
def fnWavesRow : OpenClaim := { program := "ytgnbjnlcikpknaa", sum := "63ca0f67e1ce8344571614357c58745cef1196633af7f5bb2c76dd893a762426", func := "loop.example/g00454/laws.FnWaves", spec := "fnWaves", unfollowed := true, recurses := true, apart := false }
def FnWavesSaid : Prop := fnWavesRow.holds Try.pinned (OpenSpec.ofChange fnWavesSpec)

/-- ITS FALSE NEIGHBOUR: 'it returns false'. Refute it at one input. -/
def fnWavesWrong : ChangeSpec := { name := "fnWaves", fn := fun _ => fun
  | [d] => { results := [.lit (.bool false)], args := [d] }
  | _ => none }
def FnWavesWrongFalsely : Prop := fnWavesRow.holds Try.pinned (OpenSpec.ofChange fnWavesWrong)

/-- 'laws.FnDeps': WHATEVER THE INPUT: true; the input reads as it did. -/
def fnDepsSpec : ChangeSpec := { name := "fnDeps", fn := fun _ => fun
  | [d] => { results := [.lit (.bool true)], args := [d] }
  | _ => none }
def fnDepsRow : OpenClaim := { program := "ytgnbjnlcikpknaa", sum := "63ca0f67e1ce8344571614357c58745cef1196633af7f5bb2c76dd893a762426", func := "loop.example/g00454/laws.FnDeps", spec := "fnDeps", unfollowed := true, recurses := true, apart := false }
def FnDepsSaid : Prop := fnDepsRow.holds Try.pinned (OpenSpec.ofChange fnDepsSpec)

/-- ITS FALSE NEIGHBOUR: 'it returns false'. Refute it at one input. -/
def fnDepsWrong : ChangeSpec := { name := "fnDeps", fn := fun _ => fun
  | [d] => { results := [.lit (.bool false)], args := [d] }
  | _ => none }
def FnDepsWrongFalsely : Prop := fnDepsRow.holds Try.pinned (OpenSpec.ofChange fnDepsWrong)

/-- 'laws.FnExactWaves': WHATEVER THE INPUT: true; the input reads as it did. -/
def fnExactWavesSpec : ChangeSpec := { name := "fnExactWaves", fn := fun _ => fun
  | [d1, d2] => { results := [.lit (.bool true)], args := [d1, d2] }
  | _ => none }
def fnExactWavesRow : OpenClaim := { program := "ytgnbjnlcikpknaa", sum := "63ca0f67e1ce8344571614357c58745cef1196633af7f5bb2c76dd893a762426", func := "loop.example/g00454/laws.FnExactWaves", spec := "fnExactWaves", unfollowed := true, recurses := true, apart := false }
def FnExactWavesSaid : Prop := fnExactWavesRow.holds Try.pinned (OpenSpec.ofChange fnExactWavesSpec)

/-- ITS FALSE NEIGHBOUR: 'it returns false'. Refute it at one input. -/
def fnExactWavesWrong : ChangeSpec := { name := "fnExactWaves", fn := fun _ => fun
  | [d1, d2] => { results := [.lit (.bool false)], args := [d1, d2] }
  | _ => none }
def FnExactWavesWrongFalsely : Prop := fnExactWavesRow.holds Try.pinned (OpenSpec.ofChange fnExactWavesWrong)

/-- 'laws.FnExactDepsAdd': WHATEVER THE INPUT: true; the input reads as it did. -/
def fnExactDepsAddSpec : ChangeSpec := { name := "fnExactDepsAdd", fn := fun _ => fun
  | [d1, d2] => { results := [.lit (.bool true)], args := [d1, d2] }
  | _ => none }
def fnExactDepsAddRow : OpenClaim := { program := "ytgnbjnlcikpknaa", sum := "63ca0f67e1ce8344571614357c58745cef1196633af7f5bb2c76dd893a762426", func := "loop.example/g00454/laws.FnExactDepsAdd", spec := "fnExactDepsAdd", unfollowed := true, recurses := true, apart := false }
def FnExactDepsAddSaid : Prop := fnExactDepsAddRow.holds Try.pinned (OpenSpec.ofChange fnExactDepsAddSpec)

/-- ITS FALSE NEIGHBOUR: 'it returns false'. Refute it at one input. -/
def fnExactDepsAddWrong : ChangeSpec := { name := "fnExactDepsAdd", fn := fun _ => fun
  | [d1, d2] => { results := [.lit (.bool false)], args := [d1, d2] }
  | _ => none }
def FnExactDepsAddWrongFalsely : Prop := fnExactDepsAddRow.holds Try.pinned (OpenSpec.ofChange fnExactDepsAddWrong)

/- THE SECOND FORM. 'bulk': how many values and letters a reading holds, each counted each time it is reached (what is shared counts as often as it is met; a slice's spare places count too). A statement '..UptoSaid' is the law's where the arguments, and the package variables that the reading takes, are together of bulk at most 1048576: NARROWER than '..Said'. Prove '..Said' where nothing that the law and all that it calls make is longer than what came in: it says more and counts as full. Else prove '..UptoSaid'. A law counts once. -/
mutual
def uptoBulk {H : Type} : DataW H → Nat
  | .lit (.string bytes) => bytes.length + 1
  | .lit _ => 1
  | .nil => 1
  | .ptr d => uptoBulk d + 1
  | .slice elems spare => uptoBulkAll elems + uptoBulkAll spare + 1
  | .agg parts => uptoBulkAll parts + 1
  | .iface _ d => uptoBulk d + 1
  | .map entries => uptoBulkEntries entries + 1
  | .held _ => 1
def uptoBulkAll {H : Type} : List (DataW H) → Nat
  | [] => 0
  | d :: r => uptoBulk d + uptoBulkAll r
def uptoBulkEntries {H : Type} : List (Lit × DataW H) → Nat
  | [] => 0
  | x :: r => uptoBulkEntry x + uptoBulkEntries r
def uptoBulkEntry {H : Type} : Lit × DataW H → Nat
  | (.string bytes, d) => bytes.length + uptoBulk d + 1
  | (_, d) => uptoBulk d + 1
 end
def uptoSmall : (H : Type) → List (DataW H) → Bool := fun _ ds => decide (uptoBulkAll ds ≤ 1048576)
def OpenSpec.upto (s : _root_.Go.ChangeSpec) : _root_.Go.OpenSpec := { _root_.Go.OpenSpec.ofChange s with cond := some uptoSmall }

/-- 'laws.FnWaves', WHERE WHAT IT READS IS OF BULK AT MOST 1048576: true; the input reads as it did. -/
def fnWavesUptoRow : OpenClaim := { program := "ytgnbjnlcikpknaa", sum := "63ca0f67e1ce8344571614357c58745cef1196633af7f5bb2c76dd893a762426", func := "loop.example/g00454/laws.FnWaves", spec := "fnWaves", unfollowed := true, recurses := true, apart := false, narrowed := true }
def FnWavesUptoSaid : Prop := fnWavesUptoRow.holds Try.pinned (OpenSpec.upto fnWavesSpec)

/-- 'laws.FnDeps', WHERE WHAT IT READS IS OF BULK AT MOST 1048576: true; the input reads as it did. -/
def fnDepsUptoRow : OpenClaim := { program := "ytgnbjnlcikpknaa", sum := "63ca0f67e1ce8344571614357c58745cef1196633af7f5bb2c76dd893a762426", func := "loop.example/g00454/laws.FnDeps", spec := "fnDeps", unfollowed := true, recurses := true, apart := false, narrowed := true }
def FnDepsUptoSaid : Prop := fnDepsUptoRow.holds Try.pinned (OpenSpec.upto fnDepsSpec)

/-- 'laws.FnExactWaves', WHERE WHAT IT READS IS OF BULK AT MOST 1048576: true; the input reads as it did. -/
def fnExactWavesUptoRow : OpenClaim := { program := "ytgnbjnlcikpknaa", sum := "63ca0f67e1ce8344571614357c58745cef1196633af7f5bb2c76dd893a762426", func := "loop.example/g00454/laws.FnExactWaves", spec := "fnExactWaves", unfollowed := true, recurses := true, apart := false, narrowed := true }
def FnExactWavesUptoSaid : Prop := fnExactWavesUptoRow.holds Try.pinned (OpenSpec.upto fnExactWavesSpec)

/-- 'laws.FnExactDepsAdd', WHERE WHAT IT READS IS OF BULK AT MOST 1048576: true; the input reads as it did. -/
def fnExactDepsAddUptoRow : OpenClaim := { program := "ytgnbjnlcikpknaa", sum := "63ca0f67e1ce8344571614357c58745cef1196633af7f5bb2c76dd893a762426", func := "loop.example/g00454/laws.FnExactDepsAdd", spec := "fnExactDepsAdd", unfollowed := true, recurses := true, apart := false, narrowed := true }
def FnExactDepsAddUptoSaid : Prop := fnExactDepsAddUptoRow.holds Try.pinned (OpenSpec.upto fnExactDepsAddSpec)

end Rows
end Go.Proofs.Ytgnbjnlcikpknaa
