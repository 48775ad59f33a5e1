/-
  No cell of these rows narrows 'for every input' (looked for: loops, veiled, ifaces, maps, wideKeys, modest, calm, conditions, laid).
  DERIVED. THE GIVEN ROWS OF THIS SEAT. 2 by the template 'for every input the law returns true; each argument reads behind the call as it read before'; 0 by the template 'total and deterministic' (their statements: YtkhdhbnklmfcdaaTotals.lean).
  GIVEN WITH THE SEED: the statements are not yours to turn. If you find one false, say at which input.
  Laid BY PROGRAM, IN A SANDBOX (cutbox-rows.mjs): the forced cells as the released guide's own fill.sh prints them over the translation 8ae2b7e4a3b1cf1c… (all of the seat's roots in one cut). By AI agents, Wed Nov 11 2026. No macro, syntax, notation, axiom, sorry.
-/
import Derived.Test.YtkhdhbnklmfcdaaChecked
import GoSem.Claim
import GoSem.ClaimJoined
import GoSem.ClaimMapViews
import Derived.JoinedTies
import Derived.KernelRfl
namespace Go.Proofs.Ytkhdhbnklmfcdaa
/- THE CELL 'sum', in the pinned program and in every row, IS THE sha256 OF THE DUMP (.gsa) THAT YtkhdhbnklmfcdaaProg.lean LOADS. Nothing in Lean hashes anything: it is a label: what it is worth is what the hold of that sum in a sandbox is worth. -/
noncomputable def Try.pinned : Pinned := { name := "ytkhdhbnklmfcdaa", sum := "8ae2b7e4a3b1cf1ce4c5d31045768077f86279b24775620be863b2f372c4ef28", checked := Try.checked }
namespace Rows
def none {H : Type} : Left H := { results := [], args := [] }

/-- 'laws.FnCountTrees': WHATEVER THE INPUT: true; the input reads as it did. -/
def fnCountTreesSpec : ChangeSpec := { name := "fnCountTrees", fn := fun _ => fun
  | [d] => { results := [.lit (.bool true)], args := [d] }
  | _ => none }
def fnCountTreesRow : OpenClaim := { program := "ytkhdhbnklmfcdaa", sum := "8ae2b7e4a3b1cf1ce4c5d31045768077f86279b24775620be863b2f372c4ef28", func := "loop.example/degreeswaps/laws.FnCountTrees", spec := "fnCountTrees", unfollowed := true, recurses := true, apart := false }
def FnCountTreesSaid : Prop := fnCountTreesRow.holds Try.pinned (OpenSpec.ofChange fnCountTreesSpec)

/-- ITS FALSE NEIGHBOUR: 'it returns false'. Refute it at one input. -/
def fnCountTreesWrong : ChangeSpec := { name := "fnCountTrees", fn := fun _ => fun
  | [d] => { results := [.lit (.bool false)], args := [d] }
  | _ => none }
def FnCountTreesWrongFalsely : Prop := fnCountTreesRow.holds Try.pinned (OpenSpec.ofChange fnCountTreesWrong)

/-- 'laws.FnComposeDegrees': WHATEVER THE INPUT: true; the input reads as it did. -/
def fnComposeDegreesSpec : ChangeSpec := { name := "fnComposeDegrees", fn := fun _ => fun
  | [d] => { results := [.lit (.bool true)], args := [d] }
  | _ => none }
def fnComposeDegreesRow : OpenClaim := { program := "ytkhdhbnklmfcdaa", sum := "8ae2b7e4a3b1cf1ce4c5d31045768077f86279b24775620be863b2f372c4ef28", func := "loop.example/degreeswaps/laws.FnComposeDegrees", spec := "fnComposeDegrees", unfollowed := true, recurses := true, apart := false }
def FnComposeDegreesSaid : Prop := fnComposeDegreesRow.holds Try.pinned (OpenSpec.ofChange fnComposeDegreesSpec)

/-- ITS FALSE NEIGHBOUR: 'it returns false'. Refute it at one input. -/
def fnComposeDegreesWrong : ChangeSpec := { name := "fnComposeDegrees", fn := fun _ => fun
  | [d] => { results := [.lit (.bool false)], args := [d] }
  | _ => none }
def FnComposeDegreesWrongFalsely : Prop := fnComposeDegreesRow.holds Try.pinned (OpenSpec.ofChange fnComposeDegreesWrong)

/- THE SECOND FORM. 'bulk': how many values and letters a reading holds, each counted each time it is reached (what is shared counts as often as it is met; a slice's spare places count too). A statement '..UptoSaid' is the law's where the arguments, and the package variables that the reading takes, are together of bulk at most 1048576: NARROWER than '..Said'. Prove '..Said' where nothing that the law and all that it calls make is longer than what came in: it says more and counts as full. Else prove '..UptoSaid'. A law counts once. -/
mutual
def uptoBulk {H : Type} : DataW H → Nat
  | .lit (.string bytes) => bytes.length + 1
  | .lit _ => 1
  | .nil => 1
  | .ptr d => uptoBulk d + 1
  | .slice elems spare => uptoBulkAll elems + uptoBulkAll spare + 1
  | .agg parts => uptoBulkAll parts + 1
  | .iface _ d => uptoBulk d + 1
  | .map entries => uptoBulkEntries entries + 1
  | .held _ => 1
def uptoBulkAll {H : Type} : List (DataW H) → Nat
  | [] => 0
  | d :: r => uptoBulk d + uptoBulkAll r
def uptoBulkEntries {H : Type} : List (Lit × DataW H) → Nat
  | [] => 0
  | x :: r => uptoBulkEntry x + uptoBulkEntries r
def uptoBulkEntry {H : Type} : Lit × DataW H → Nat
  | (.string bytes, d) => bytes.length + uptoBulk d + 1
  | (_, d) => uptoBulk d + 1
 end
def uptoSmall : (H : Type) → List (DataW H) → Bool := fun _ ds => decide (uptoBulkAll ds ≤ 1048576)
def OpenSpec.upto (s : _root_.Go.ChangeSpec) : _root_.Go.OpenSpec := { _root_.Go.OpenSpec.ofChange s with cond := some uptoSmall }

/-- 'laws.FnCountTrees', WHERE WHAT IT READS IS OF BULK AT MOST 1048576: true; the input reads as it did. -/
def fnCountTreesUptoRow : OpenClaim := { program := "ytkhdhbnklmfcdaa", sum := "8ae2b7e4a3b1cf1ce4c5d31045768077f86279b24775620be863b2f372c4ef28", func := "loop.example/degreeswaps/laws.FnCountTrees", spec := "fnCountTrees", unfollowed := true, recurses := true, apart := false, narrowed := true }
def FnCountTreesUptoSaid : Prop := fnCountTreesUptoRow.holds Try.pinned (OpenSpec.upto fnCountTreesSpec)

/-- 'laws.FnComposeDegrees', WHERE WHAT IT READS IS OF BULK AT MOST 1048576: true; the input reads as it did. -/
def fnComposeDegreesUptoRow : OpenClaim := { program := "ytkhdhbnklmfcdaa", sum := "8ae2b7e4a3b1cf1ce4c5d31045768077f86279b24775620be863b2f372c4ef28", func := "loop.example/degreeswaps/laws.FnComposeDegrees", spec := "fnComposeDegrees", unfollowed := true, recurses := true, apart := false, narrowed := true }
def FnComposeDegreesUptoSaid : Prop := fnComposeDegreesUptoRow.holds Try.pinned (OpenSpec.upto fnComposeDegreesSpec)

end Rows
end Go.Proofs.Ytkhdhbnklmfcdaa
