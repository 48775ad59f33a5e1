/-
  No cell of these rows narrows 'for every input' (looked for: loops, veiled, ifaces, maps, wideKeys, modest, calm, conditions, laid).
  DERIVED. THE GIVEN ROWS OF THIS SEAT. 2 by the template 'for every input the law returns true; each argument reads behind the call as it read before'; 0 by the template 'total and deterministic' (their statements: YtigcofjbkijcdaaTotals.lean).
  GIVEN WITH THE SEED: the statements are not yours to turn. If you find one false, say at which input.
  Laid BY PROGRAM, IN A SANDBOX (cutbox-rows.mjs): the forced cells as the released guide's own fill.sh prints them over the translation 6bfdf570108fa5c2… (all of the seat's roots in one cut). By AI agents, Wed Nov 11 2026. No macro, syntax, notation, axiom, sorry.
-/
import Derived.Test.YtigcofjbkijcdaaChecked
import GoSem.Claim
import GoSem.ClaimJoined
import GoSem.ClaimMapViews
import Derived.JoinedTies
import Derived.KernelRfl
namespace Go.Proofs.Ytigcofjbkijcdaa
/- THE CELL 'sum', in the pinned program and in every row, IS THE sha256 OF THE DUMP (.gsa) THAT YtigcofjbkijcdaaProg.lean LOADS. Nothing in Lean hashes anything: it is a label: what it is worth is what the hold of that sum in a sandbox is worth. -/
noncomputable def Try.pinned : Pinned := { name := "ytigcofjbkijcdaa", sum := "6bfdf570108fa5c21cce830b0fc0a388c370585c38f3f07b208e16810e5a5dea", checked := Try.checked }
namespace Rows
def none {H : Type} : Left H := { results := [], args := [] }

/-- 'laws.FnExactSwitchesOf': WHATEVER THE INPUT: true; the input reads as it did. -/
def fnExactSwitchesOfSpec : ChangeSpec := { name := "fnExactSwitchesOf", fn := fun _ => fun
  | [d] => { results := [.lit (.bool true)], args := [d] }
  | _ => none }
def fnExactSwitchesOfRow : OpenClaim := { program := "ytigcofjbkijcdaa", sum := "6bfdf570108fa5c21cce830b0fc0a388c370585c38f3f07b208e16810e5a5dea", func := "loop.example/degreeswaps/laws.FnExactSwitchesOf", spec := "fnExactSwitchesOf", unfollowed := true, recurses := true, apart := false }
def FnExactSwitchesOfSaid : Prop := fnExactSwitchesOfRow.holds Try.pinned (OpenSpec.ofChange fnExactSwitchesOfSpec)

/-- ITS FALSE NEIGHBOUR: 'it returns false'. Refute it at one input. -/
def fnExactSwitchesOfWrong : ChangeSpec := { name := "fnExactSwitchesOf", fn := fun _ => fun
  | [d] => { results := [.lit (.bool false)], args := [d] }
  | _ => none }
def FnExactSwitchesOfWrongFalsely : Prop := fnExactSwitchesOfRow.holds Try.pinned (OpenSpec.ofChange fnExactSwitchesOfWrong)

/-- 'laws.FnExactConnectGraph': WHATEVER THE INPUT: true; the input reads as it did. -/
def fnExactConnectGraphSpec : ChangeSpec := { name := "fnExactConnectGraph", fn := fun _ => fun
  | [d] => { results := [.lit (.bool true)], args := [d] }
  | _ => none }
def fnExactConnectGraphRow : OpenClaim := { program := "ytigcofjbkijcdaa", sum := "6bfdf570108fa5c21cce830b0fc0a388c370585c38f3f07b208e16810e5a5dea", func := "loop.example/degreeswaps/laws.FnExactConnectGraph", spec := "fnExactConnectGraph", unfollowed := true, recurses := true, apart := false }
def FnExactConnectGraphSaid : Prop := fnExactConnectGraphRow.holds Try.pinned (OpenSpec.ofChange fnExactConnectGraphSpec)

/-- ITS FALSE NEIGHBOUR: 'it returns false'. Refute it at one input. -/
def fnExactConnectGraphWrong : ChangeSpec := { name := "fnExactConnectGraph", fn := fun _ => fun
  | [d] => { results := [.lit (.bool false)], args := [d] }
  | _ => none }
def FnExactConnectGraphWrongFalsely : Prop := fnExactConnectGraphRow.holds Try.pinned (OpenSpec.ofChange fnExactConnectGraphWrong)

/- THE SECOND FORM. 'bulk': how many values and letters a reading holds, each counted each time it is reached (what is shared counts as often as it is met; a slice's spare places count too). A statement '..UptoSaid' is the law's where the arguments, and the package variables that the reading takes, are together of bulk at most 1048576: NARROWER than '..Said'. Prove '..Said' where nothing that the law and all that it calls make is longer than what came in: it says more and counts as full. Else prove '..UptoSaid'. A law counts once. -/
mutual
def uptoBulk {H : Type} : DataW H → Nat
  | .lit (.string bytes) => bytes.length + 1
  | .lit _ => 1
  | .nil => 1
  | .ptr d => uptoBulk d + 1
  | .slice elems spare => uptoBulkAll elems + uptoBulkAll spare + 1
  | .agg parts => uptoBulkAll parts + 1
  | .iface _ d => uptoBulk d + 1
  | .map entries => uptoBulkEntries entries + 1
  | .held _ => 1
def uptoBulkAll {H : Type} : List (DataW H) → Nat
  | [] => 0
  | d :: r => uptoBulk d + uptoBulkAll r
def uptoBulkEntries {H : Type} : List (Lit × DataW H) → Nat
  | [] => 0
  | x :: r => uptoBulkEntry x + uptoBulkEntries r
def uptoBulkEntry {H : Type} : Lit × DataW H → Nat
  | (.string bytes, d) => bytes.length + uptoBulk d + 1
  | (_, d) => uptoBulk d + 1
 end
def uptoSmall : (H : Type) → List (DataW H) → Bool := fun _ ds => decide (uptoBulkAll ds ≤ 1048576)
def OpenSpec.upto (s : _root_.Go.ChangeSpec) : _root_.Go.OpenSpec := { _root_.Go.OpenSpec.ofChange s with cond := some uptoSmall }

/-- 'laws.FnExactSwitchesOf', WHERE WHAT IT READS IS OF BULK AT MOST 1048576: true; the input reads as it did. -/
def fnExactSwitchesOfUptoRow : OpenClaim := { program := "ytigcofjbkijcdaa", sum := "6bfdf570108fa5c21cce830b0fc0a388c370585c38f3f07b208e16810e5a5dea", func := "loop.example/degreeswaps/laws.FnExactSwitchesOf", spec := "fnExactSwitchesOf", unfollowed := true, recurses := true, apart := false, narrowed := true }
def FnExactSwitchesOfUptoSaid : Prop := fnExactSwitchesOfUptoRow.holds Try.pinned (OpenSpec.upto fnExactSwitchesOfSpec)

/-- 'laws.FnExactConnectGraph', WHERE WHAT IT READS IS OF BULK AT MOST 1048576: true; the input reads as it did. -/
def fnExactConnectGraphUptoRow : OpenClaim := { program := "ytigcofjbkijcdaa", sum := "6bfdf570108fa5c21cce830b0fc0a388c370585c38f3f07b208e16810e5a5dea", func := "loop.example/degreeswaps/laws.FnExactConnectGraph", spec := "fnExactConnectGraph", unfollowed := true, recurses := true, apart := false, narrowed := true }
def FnExactConnectGraphUptoSaid : Prop := fnExactConnectGraphUptoRow.holds Try.pinned (OpenSpec.upto fnExactConnectGraphSpec)

end Rows
end Go.Proofs.Ytigcofjbkijcdaa
