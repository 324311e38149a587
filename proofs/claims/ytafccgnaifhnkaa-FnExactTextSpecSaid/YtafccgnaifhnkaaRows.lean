/-
  No cell of these rows narrows 'for every input' (looked for: loops, veiled, ifaces, maps, wideKeys, modest, calm, conditions, laid).
  DERIVED. THE GIVEN ROWS OF THIS SEAT. 6 by the template 'for every input the law returns true; each argument reads behind the call as it read before'; 0 by the template 'total and deterministic' (their statements: YtafccgnaifhnkaaTotals.lean).
  GIVEN WITH THE SEED: the statements are not yours to turn. If you find one false, say at which input.
  Laid BY PROGRAM, IN A SANDBOX (cutbox-rows.mjs): the forced cells as the released guide's own fill.sh prints them over the translation e5993dee404af1b4… (all of the seat's roots in one cut). By AI agents, Wed Nov 11 2026. No macro, syntax, notation, axiom, sorry.
-/
import Derived.Test.YtafccgnaifhnkaaChecked
import GoSem.Claim
import GoSem.ClaimJoined
import GoSem.ClaimMapViews
import Derived.JoinedTies
import Derived.KernelRfl
namespace Go.Proofs.Ytafccgnaifhnkaa
/- THE CELL 'sum', in the pinned program and in every row, IS THE sha256 OF THE DUMP (.gsa) THAT YtafccgnaifhnkaaProg.lean LOADS. Nothing in Lean hashes anything: it is a label: what it is worth is what the hold of that sum in a sandbox is worth. -/
noncomputable def Try.pinned : Pinned := { name := "ytafccgnaifhnkaa", sum := "e5993dee404af1b4a8e0a49ce90e0c1ab67ac957bdef7bd57ef100f68f084caa", checked := Try.checked }
namespace Rows
def none {H : Type} : Left H := { results := [], args := [] }

/-- 'laws.FnExactWindowsOk': WHATEVER THE INPUT: true; the input reads as it did. -/
def fnExactWindowsOkSpec : ChangeSpec := { name := "fnExactWindowsOk", fn := fun _ => fun
  | [d1, d2] => { results := [.lit (.bool true)], args := [d1, d2] }
  | _ => none }
def fnExactWindowsOkRow : OpenClaim := { program := "ytafccgnaifhnkaa", sum := "e5993dee404af1b4a8e0a49ce90e0c1ab67ac957bdef7bd57ef100f68f084caa", func := "loop.example/g00454/laws.FnExactWindowsOk", spec := "fnExactWindowsOk", recurses := true, apart := false }
def FnExactWindowsOkSaid : Prop := fnExactWindowsOkRow.holds Try.pinned (OpenSpec.ofChange fnExactWindowsOkSpec)

/-- ITS FALSE NEIGHBOUR: 'it returns false'. Refute it at one input. -/
def fnExactWindowsOkWrong : ChangeSpec := { name := "fnExactWindowsOk", fn := fun _ => fun
  | [d1, d2] => { results := [.lit (.bool false)], args := [d1, d2] }
  | _ => none }
def FnExactWindowsOkWrongFalsely : Prop := fnExactWindowsOkRow.holds Try.pinned (OpenSpec.ofChange fnExactWindowsOkWrong)

/-- 'laws.FnExactQuiet': WHATEVER THE INPUT: true; the input reads as it did. -/
def fnExactQuietSpec : ChangeSpec := { name := "fnExactQuiet", fn := fun _ => fun
  | [d1, d2, d3, d4, d5] => { results := [.lit (.bool true)], args := [d1, d2, d3, d4, d5] }
  | _ => none }
def fnExactQuietRow : OpenClaim := { program := "ytafccgnaifhnkaa", sum := "e5993dee404af1b4a8e0a49ce90e0c1ab67ac957bdef7bd57ef100f68f084caa", func := "loop.example/g00454/laws.FnExactQuiet", spec := "fnExactQuiet", unfollowed := true, recurses := true, apart := false }
def FnExactQuietSaid : Prop := fnExactQuietRow.holds Try.pinned (OpenSpec.ofChange fnExactQuietSpec)

/-- ITS FALSE NEIGHBOUR: 'it returns false'. Refute it at one input. -/
def fnExactQuietWrong : ChangeSpec := { name := "fnExactQuiet", fn := fun _ => fun
  | [d1, d2, d3, d4, d5] => { results := [.lit (.bool false)], args := [d1, d2, d3, d4, d5] }
  | _ => none }
def FnExactQuietWrongFalsely : Prop := fnExactQuietRow.holds Try.pinned (OpenSpec.ofChange fnExactQuietWrong)

/-- 'laws.FnExactNextQuiet': WHATEVER THE INPUT: true; the input reads as it did. -/
def fnExactNextQuietSpec : ChangeSpec := { name := "fnExactNextQuiet", fn := fun _ => fun
  | [d1, d2, d3, d4, d5] => { results := [.lit (.bool true)], args := [d1, d2, d3, d4, d5] }
  | _ => none }
def fnExactNextQuietRow : OpenClaim := { program := "ytafccgnaifhnkaa", sum := "e5993dee404af1b4a8e0a49ce90e0c1ab67ac957bdef7bd57ef100f68f084caa", func := "loop.example/g00454/laws.FnExactNextQuiet", spec := "fnExactNextQuiet", unfollowed := true, recurses := true, apart := false }
def FnExactNextQuietSaid : Prop := fnExactNextQuietRow.holds Try.pinned (OpenSpec.ofChange fnExactNextQuietSpec)

/-- ITS FALSE NEIGHBOUR: 'it returns false'. Refute it at one input. -/
def fnExactNextQuietWrong : ChangeSpec := { name := "fnExactNextQuiet", fn := fun _ => fun
  | [d1, d2, d3, d4, d5] => { results := [.lit (.bool false)], args := [d1, d2, d3, d4, d5] }
  | _ => none }
def FnExactNextQuietWrongFalsely : Prop := fnExactNextQuietRow.holds Try.pinned (OpenSpec.ofChange fnExactNextQuietWrong)

/-- 'laws.FnQuiet': WHATEVER THE INPUT: true; the input reads as it did. -/
def fnQuietSpec : ChangeSpec := { name := "fnQuiet", fn := fun _ => fun
  | [d] => { results := [.lit (.bool true)], args := [d] }
  | _ => none }
def fnQuietRow : OpenClaim := { program := "ytafccgnaifhnkaa", sum := "e5993dee404af1b4a8e0a49ce90e0c1ab67ac957bdef7bd57ef100f68f084caa", func := "loop.example/g00454/laws.FnQuiet", spec := "fnQuiet", unfollowed := true, recurses := true, apart := false }
def FnQuietSaid : Prop := fnQuietRow.holds Try.pinned (OpenSpec.ofChange fnQuietSpec)

/-- ITS FALSE NEIGHBOUR: 'it returns false'. Refute it at one input. -/
def fnQuietWrong : ChangeSpec := { name := "fnQuiet", fn := fun _ => fun
  | [d] => { results := [.lit (.bool false)], args := [d] }
  | _ => none }
def FnQuietWrongFalsely : Prop := fnQuietRow.holds Try.pinned (OpenSpec.ofChange fnQuietWrong)

/-- 'laws.FnExactWindowsCut': WHATEVER THE INPUT: true; the input reads as it did. -/
def fnExactWindowsCutSpec : ChangeSpec := { name := "fnExactWindowsCut", fn := fun _ => fun
  | [d1, d2] => { results := [.lit (.bool true)], args := [d1, d2] }
  | _ => none }
def fnExactWindowsCutRow : OpenClaim := { program := "ytafccgnaifhnkaa", sum := "e5993dee404af1b4a8e0a49ce90e0c1ab67ac957bdef7bd57ef100f68f084caa", func := "loop.example/g00454/laws.FnExactWindowsCut", spec := "fnExactWindowsCut", apart := false }
def FnExactWindowsCutSaid : Prop := fnExactWindowsCutRow.holds Try.pinned (OpenSpec.ofChange fnExactWindowsCutSpec)

/-- ITS FALSE NEIGHBOUR: 'it returns false'. Refute it at one input. -/
def fnExactWindowsCutWrong : ChangeSpec := { name := "fnExactWindowsCut", fn := fun _ => fun
  | [d1, d2] => { results := [.lit (.bool false)], args := [d1, d2] }
  | _ => none }
def FnExactWindowsCutWrongFalsely : Prop := fnExactWindowsCutRow.holds Try.pinned (OpenSpec.ofChange fnExactWindowsCutWrong)

/-- 'laws.FnExactTextSpec': WHATEVER THE INPUT: true; the input reads as it did. -/
def fnExactTextSpecSpec : ChangeSpec := { name := "fnExactTextSpec", fn := fun _ => fun
  | [d] => { results := [.lit (.bool true)], args := [d] }
  | _ => none }
def fnExactTextSpecRow : OpenClaim := { program := "ytafccgnaifhnkaa", sum := "e5993dee404af1b4a8e0a49ce90e0c1ab67ac957bdef7bd57ef100f68f084caa", func := "loop.example/g00454/laws.FnExactTextSpec", spec := "fnExactTextSpec", recurses := true, apart := false }
def FnExactTextSpecSaid : Prop := fnExactTextSpecRow.holds Try.pinned (OpenSpec.ofChange fnExactTextSpecSpec)

/-- ITS FALSE NEIGHBOUR: 'it returns false'. Refute it at one input. -/
def fnExactTextSpecWrong : ChangeSpec := { name := "fnExactTextSpec", fn := fun _ => fun
  | [d] => { results := [.lit (.bool false)], args := [d] }
  | _ => none }
def FnExactTextSpecWrongFalsely : Prop := fnExactTextSpecRow.holds Try.pinned (OpenSpec.ofChange fnExactTextSpecWrong)

/- THE SECOND FORM. 'bulk': how many values and letters a reading holds, each counted each time it is reached (what is shared counts as often as it is met; a slice's spare places count too). A statement '..UptoSaid' is the law's where the arguments, and the package variables that the reading takes, are together of bulk at most 1048576: NARROWER than '..Said'. Prove '..Said' where nothing that the law and all that it calls make is longer than what came in: it says more and counts as full. Else prove '..UptoSaid'. A law counts once. -/
mutual
def uptoBulk {H : Type} : DataW H → Nat
  | .lit (.string bytes) => bytes.length + 1
  | .lit _ => 1
  | .nil => 1
  | .ptr d => uptoBulk d + 1
  | .slice elems spare => uptoBulkAll elems + uptoBulkAll spare + 1
  | .agg parts => uptoBulkAll parts + 1
  | .iface _ d => uptoBulk d + 1
  | .map entries => uptoBulkEntries entries + 1
  | .held _ => 1
def uptoBulkAll {H : Type} : List (DataW H) → Nat
  | [] => 0
  | d :: r => uptoBulk d + uptoBulkAll r
def uptoBulkEntries {H : Type} : List (Lit × DataW H) → Nat
  | [] => 0
  | x :: r => uptoBulkEntry x + uptoBulkEntries r
def uptoBulkEntry {H : Type} : Lit × DataW H → Nat
  | (.string bytes, d) => bytes.length + uptoBulk d + 1
  | (_, d) => uptoBulk d + 1
 end
def uptoSmall : (H : Type) → List (DataW H) → Bool := fun _ ds => decide (uptoBulkAll ds ≤ 1048576)
def OpenSpec.upto (s : _root_.Go.ChangeSpec) : _root_.Go.OpenSpec := { _root_.Go.OpenSpec.ofChange s with cond := some uptoSmall }

/-- 'laws.FnExactWindowsOk', WHERE WHAT IT READS IS OF BULK AT MOST 1048576: true; the input reads as it did. -/
def fnExactWindowsOkUptoRow : OpenClaim := { program := "ytafccgnaifhnkaa", sum := "e5993dee404af1b4a8e0a49ce90e0c1ab67ac957bdef7bd57ef100f68f084caa", func := "loop.example/g00454/laws.FnExactWindowsOk", spec := "fnExactWindowsOk", recurses := true, apart := false, narrowed := true }
def FnExactWindowsOkUptoSaid : Prop := fnExactWindowsOkUptoRow.holds Try.pinned (OpenSpec.upto fnExactWindowsOkSpec)

/-- 'laws.FnExactQuiet', WHERE WHAT IT READS IS OF BULK AT MOST 1048576: true; the input reads as it did. -/
def fnExactQuietUptoRow : OpenClaim := { program := "ytafccgnaifhnkaa", sum := "e5993dee404af1b4a8e0a49ce90e0c1ab67ac957bdef7bd57ef100f68f084caa", func := "loop.example/g00454/laws.FnExactQuiet", spec := "fnExactQuiet", unfollowed := true, recurses := true, apart := false, narrowed := true }
def FnExactQuietUptoSaid : Prop := fnExactQuietUptoRow.holds Try.pinned (OpenSpec.upto fnExactQuietSpec)

/-- 'laws.FnExactNextQuiet', WHERE WHAT IT READS IS OF BULK AT MOST 1048576: true; the input reads as it did. -/
def fnExactNextQuietUptoRow : OpenClaim := { program := "ytafccgnaifhnkaa", sum := "e5993dee404af1b4a8e0a49ce90e0c1ab67ac957bdef7bd57ef100f68f084caa", func := "loop.example/g00454/laws.FnExactNextQuiet", spec := "fnExactNextQuiet", unfollowed := true, recurses := true, apart := false, narrowed := true }
def FnExactNextQuietUptoSaid : Prop := fnExactNextQuietUptoRow.holds Try.pinned (OpenSpec.upto fnExactNextQuietSpec)

/-- 'laws.FnQuiet', WHERE WHAT IT READS IS OF BULK AT MOST 1048576: true; the input reads as it did. -/
def fnQuietUptoRow : OpenClaim := { program := "ytafccgnaifhnkaa", sum := "e5993dee404af1b4a8e0a49ce90e0c1ab67ac957bdef7bd57ef100f68f084caa", func := "loop.example/g00454/laws.FnQuiet", spec := "fnQuiet", unfollowed := true, recurses := true, apart := false, narrowed := true }
def FnQuietUptoSaid : Prop := fnQuietUptoRow.holds Try.pinned (OpenSpec.upto fnQuietSpec)

/-- 'laws.FnExactWindowsCut', WHERE WHAT IT READS IS OF BULK AT MOST 1048576: true; the input reads as it did. -/
def fnExactWindowsCutUptoRow : OpenClaim := { program := "ytafccgnaifhnkaa", sum := "e5993dee404af1b4a8e0a49ce90e0c1ab67ac957bdef7bd57ef100f68f084caa", func := "loop.example/g00454/laws.FnExactWindowsCut", spec := "fnExactWindowsCut", apart := false, narrowed := true }
def FnExactWindowsCutUptoSaid : Prop := fnExactWindowsCutUptoRow.holds Try.pinned (OpenSpec.upto fnExactWindowsCutSpec)

/-- 'laws.FnExactTextSpec', WHERE WHAT IT READS IS OF BULK AT MOST 1048576: true; the input reads as it did. -/
def fnExactTextSpecUptoRow : OpenClaim := { program := "ytafccgnaifhnkaa", sum := "e5993dee404af1b4a8e0a49ce90e0c1ab67ac957bdef7bd57ef100f68f084caa", func := "loop.example/g00454/laws.FnExactTextSpec", spec := "fnExactTextSpec", recurses := true, apart := false, narrowed := true }
def FnExactTextSpecUptoSaid : Prop := fnExactTextSpecUptoRow.holds Try.pinned (OpenSpec.upto fnExactTextSpecSpec)

end Rows
end Go.Proofs.Ytafccgnaifhnkaa
