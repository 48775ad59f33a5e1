/-
  No cell of these rows narrows 'for every input' (looked for: loops, veiled, ifaces, maps, wideKeys, modest, calm, conditions, laid).
  DERIVED. THE GIVEN ROWS OF THIS SEAT. 4 by the template 'for every input the law returns true; each argument reads behind the call as it read before'; 0 by the template 'total and deterministic' (their statements: YtmbchegbhgnbeaaTotals.lean).
  GIVEN WITH THE SEED: the statements are not yours to turn. If you find one false, say at which input.
  Laid BY PROGRAM, IN A SANDBOX (cutbox-rows.mjs): the forced cells as the released guide's own fill.sh prints them over the translation c84df8901ba1c335… (all of the seat's roots in one cut). By AI agents, Wed Nov 11 2026. No macro, syntax, notation, axiom, sorry.
-/
import Derived.Test.YtmbchegbhgnbeaaChecked
import GoSem.Claim
import GoSem.ClaimJoined
import GoSem.ClaimMapViews
import Derived.JoinedTies
import Derived.KernelRfl
namespace Go.Proofs.Ytmbchegbhgnbeaa
/- THE CELL 'sum', in the pinned program and in every row, IS THE sha256 OF THE DUMP (.gsa) THAT YtmbchegbhgnbeaaProg.lean LOADS. Nothing in Lean hashes anything: it is a label: what it is worth is what the hold of that sum in a sandbox is worth. -/
noncomputable def Try.pinned : Pinned := { name := "ytmbchegbhgnbeaa", sum := "c84df8901ba1c335a668b5d053087e21f9b6c73f7a8443e9de0791a17028893f", checked := Try.checked }
namespace Rows
def none {H : Type} : Left H := { results := [], args := [] }

/-- 'laws.FnIsNested': WHATEVER THE INPUT: true; the input reads as it did. -/
def fnIsNestedSpec : ChangeSpec := { name := "fnIsNested", fn := fun _ => fun
  | [d] => { results := [.lit (.bool true)], args := [d] }
  | _ => none }
def fnIsNestedRow : OpenClaim := { program := "ytmbchegbhgnbeaa", sum := "c84df8901ba1c335a668b5d053087e21f9b6c73f7a8443e9de0791a17028893f", func := "loop.example/degreeswaps/laws.FnIsNested", spec := "fnIsNested", unfollowed := true, recurses := true, apart := false }
def FnIsNestedSaid : Prop := fnIsNestedRow.holds Try.pinned (OpenSpec.ofChange fnIsNestedSpec)

/-- ITS FALSE NEIGHBOUR: 'it returns false'. Refute it at one input. -/
def fnIsNestedWrong : ChangeSpec := { name := "fnIsNested", fn := fun _ => fun
  | [d] => { results := [.lit (.bool false)], args := [d] }
  | _ => none }
def FnIsNestedWrongFalsely : Prop := fnIsNestedRow.holds Try.pinned (OpenSpec.ofChange fnIsNestedWrong)

/-- 'laws.FnExactConnectGraph': WHATEVER THE INPUT: true; the input reads as it did. -/
def fnExactConnectGraphSpec : ChangeSpec := { name := "fnExactConnectGraph", fn := fun _ => fun
  | [d] => { results := [.lit (.bool true)], args := [d] }
  | _ => none }
def fnExactConnectGraphRow : OpenClaim := { program := "ytmbchegbhgnbeaa", sum := "c84df8901ba1c335a668b5d053087e21f9b6c73f7a8443e9de0791a17028893f", func := "loop.example/degreeswaps/laws.FnExactConnectGraph", spec := "fnExactConnectGraph", unfollowed := true, recurses := true, apart := false }
def FnExactConnectGraphSaid : Prop := fnExactConnectGraphRow.holds Try.pinned (OpenSpec.ofChange fnExactConnectGraphSpec)

/-- ITS FALSE NEIGHBOUR: 'it returns false'. Refute it at one input. -/
def fnExactConnectGraphWrong : ChangeSpec := { name := "fnExactConnectGraph", fn := fun _ => fun
  | [d] => { results := [.lit (.bool false)], args := [d] }
  | _ => none }
def FnExactConnectGraphWrongFalsely : Prop := fnExactConnectGraphRow.holds Try.pinned (OpenSpec.ofChange fnExactConnectGraphWrong)

/-- 'laws.FnSplittanceOf': WHATEVER THE INPUT: true; the input reads as it did. -/
def fnSplittanceOfSpec : ChangeSpec := { name := "fnSplittanceOf", fn := fun _ => fun
  | [d] => { results := [.lit (.bool true)], args := [d] }
  | _ => none }
def fnSplittanceOfRow : OpenClaim := { program := "ytmbchegbhgnbeaa", sum := "c84df8901ba1c335a668b5d053087e21f9b6c73f7a8443e9de0791a17028893f", func := "loop.example/degreeswaps/laws.FnSplittanceOf", spec := "fnSplittanceOf", unfollowed := true, recurses := true, apart := false }
def FnSplittanceOfSaid : Prop := fnSplittanceOfRow.holds Try.pinned (OpenSpec.ofChange fnSplittanceOfSpec)

/-- ITS FALSE NEIGHBOUR: 'it returns false'. Refute it at one input. -/
def fnSplittanceOfWrong : ChangeSpec := { name := "fnSplittanceOf", fn := fun _ => fun
  | [d] => { results := [.lit (.bool false)], args := [d] }
  | _ => none }
def FnSplittanceOfWrongFalsely : Prop := fnSplittanceOfRow.holds Try.pinned (OpenSpec.ofChange fnSplittanceOfWrong)

/-- 'laws.FnExactRealizeDegrees': WHATEVER THE INPUT: true; the input reads as it did. -/
def fnExactRealizeDegreesSpec : ChangeSpec := { name := "fnExactRealizeDegrees", fn := fun _ => fun
  | [d] => { results := [.lit (.bool true)], args := [d] }
  | _ => none }
def fnExactRealizeDegreesRow : OpenClaim := { program := "ytmbchegbhgnbeaa", sum := "c84df8901ba1c335a668b5d053087e21f9b6c73f7a8443e9de0791a17028893f", func := "loop.example/degreeswaps/laws.FnExactRealizeDegrees", spec := "fnExactRealizeDegrees", unfollowed := true, recurses := true, apart := false }
def FnExactRealizeDegreesSaid : Prop := fnExactRealizeDegreesRow.holds Try.pinned (OpenSpec.ofChange fnExactRealizeDegreesSpec)

/-- ITS FALSE NEIGHBOUR: 'it returns false'. Refute it at one input. -/
def fnExactRealizeDegreesWrong : ChangeSpec := { name := "fnExactRealizeDegrees", fn := fun _ => fun
  | [d] => { results := [.lit (.bool false)], args := [d] }
  | _ => none }
def FnExactRealizeDegreesWrongFalsely : Prop := fnExactRealizeDegreesRow.holds Try.pinned (OpenSpec.ofChange fnExactRealizeDegreesWrong)

/- THE SECOND FORM. 'bulk': how many values and letters a reading holds, each counted each time it is reached (what is shared counts as often as it is met; a slice's spare places count too). A statement '..UptoSaid' is the law's where the arguments, and the package variables that the reading takes, are together of bulk at most 1048576: NARROWER than '..Said'. Prove '..Said' where nothing that the law and all that it calls make is longer than what came in: it says more and counts as full. Else prove '..UptoSaid'. A law counts once. -/
mutual
def uptoBulk {H : Type} : DataW H → Nat
  | .lit (.string bytes) => bytes.length + 1
  | .lit _ => 1
  | .nil => 1
  | .ptr d => uptoBulk d + 1
  | .slice elems spare => uptoBulkAll elems + uptoBulkAll spare + 1
  | .agg parts => uptoBulkAll parts + 1
  | .iface _ d => uptoBulk d + 1
  | .map entries => uptoBulkEntries entries + 1
  | .held _ => 1
def uptoBulkAll {H : Type} : List (DataW H) → Nat
  | [] => 0
  | d :: r => uptoBulk d + uptoBulkAll r
def uptoBulkEntries {H : Type} : List (Lit × DataW H) → Nat
  | [] => 0
  | x :: r => uptoBulkEntry x + uptoBulkEntries r
def uptoBulkEntry {H : Type} : Lit × DataW H → Nat
  | (.string bytes, d) => bytes.length + uptoBulk d + 1
  | (_, d) => uptoBulk d + 1
 end
def uptoSmall : (H : Type) → List (DataW H) → Bool := fun _ ds => decide (uptoBulkAll ds ≤ 1048576)
def OpenSpec.upto (s : _root_.Go.ChangeSpec) : _root_.Go.OpenSpec := { _root_.Go.OpenSpec.ofChange s with cond := some uptoSmall }

/-- 'laws.FnIsNested', WHERE WHAT IT READS IS OF BULK AT MOST 1048576: true; the input reads as it did. -/
def fnIsNestedUptoRow : OpenClaim := { program := "ytmbchegbhgnbeaa", sum := "c84df8901ba1c335a668b5d053087e21f9b6c73f7a8443e9de0791a17028893f", func := "loop.example/degreeswaps/laws.FnIsNested", spec := "fnIsNested", unfollowed := true, recurses := true, apart := false, narrowed := true }
def FnIsNestedUptoSaid : Prop := fnIsNestedUptoRow.holds Try.pinned (OpenSpec.upto fnIsNestedSpec)

/-- 'laws.FnExactConnectGraph', WHERE WHAT IT READS IS OF BULK AT MOST 1048576: true; the input reads as it did. -/
def fnExactConnectGraphUptoRow : OpenClaim := { program := "ytmbchegbhgnbeaa", sum := "c84df8901ba1c335a668b5d053087e21f9b6c73f7a8443e9de0791a17028893f", func := "loop.example/degreeswaps/laws.FnExactConnectGraph", spec := "fnExactConnectGraph", unfollowed := true, recurses := true, apart := false, narrowed := true }
def FnExactConnectGraphUptoSaid : Prop := fnExactConnectGraphUptoRow.holds Try.pinned (OpenSpec.upto fnExactConnectGraphSpec)

/-- 'laws.FnSplittanceOf', WHERE WHAT IT READS IS OF BULK AT MOST 1048576: true; the input reads as it did. -/
def fnSplittanceOfUptoRow : OpenClaim := { program := "ytmbchegbhgnbeaa", sum := "c84df8901ba1c335a668b5d053087e21f9b6c73f7a8443e9de0791a17028893f", func := "loop.example/degreeswaps/laws.FnSplittanceOf", spec := "fnSplittanceOf", unfollowed := true, recurses := true, apart := false, narrowed := true }
def FnSplittanceOfUptoSaid : Prop := fnSplittanceOfUptoRow.holds Try.pinned (OpenSpec.upto fnSplittanceOfSpec)

/-- 'laws.FnExactRealizeDegrees', WHERE WHAT IT READS IS OF BULK AT MOST 1048576: true; the input reads as it did. -/
def fnExactRealizeDegreesUptoRow : OpenClaim := { program := "ytmbchegbhgnbeaa", sum := "c84df8901ba1c335a668b5d053087e21f9b6c73f7a8443e9de0791a17028893f", func := "loop.example/degreeswaps/laws.FnExactRealizeDegrees", spec := "fnExactRealizeDegrees", unfollowed := true, recurses := true, apart := false, narrowed := true }
def FnExactRealizeDegreesUptoSaid : Prop := fnExactRealizeDegreesUptoRow.holds Try.pinned (OpenSpec.upto fnExactRealizeDegreesSpec)

end Rows
end Go.Proofs.Ytmbchegbhgnbeaa
