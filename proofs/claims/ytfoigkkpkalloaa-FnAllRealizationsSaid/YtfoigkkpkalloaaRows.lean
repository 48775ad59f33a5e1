/-
  No cell of these rows narrows 'for every input' (looked for: loops, veiled, ifaces, maps, wideKeys, modest, calm, conditions, laid).
  DERIVED. THE GIVEN ROWS OF THIS SEAT. 4 by the template 'for every input the law returns true; each argument reads behind the call as it read before'; 0 by the template 'total and deterministic' (their statements: YtfoigkkpkalloaaTotals.lean).
  GIVEN WITH THE SEED: the statements are not yours to turn. If you find one false, say at which input.
  Laid BY PROGRAM, IN A SANDBOX (cutbox-rows.mjs): the forced cells as the released guide's own fill.sh prints them over the translation bd2e048638eba6e1… (all of the seat's roots in one cut). By AI agents, Wed Nov 11 2026. No macro, syntax, notation, axiom, sorry.
-/
import Derived.Test.YtfoigkkpkalloaaChecked
import GoSem.Claim
import GoSem.ClaimJoined
import GoSem.ClaimMapViews
import Derived.JoinedTies
import Derived.KernelRfl
namespace Go.Proofs.Ytfoigkkpkalloaa
/- THE CELL 'sum', in the pinned program and in every row, IS THE sha256 OF THE DUMP (.gsa) THAT YtfoigkkpkalloaaProg.lean LOADS. Nothing in Lean hashes anything: it is a label: what it is worth is what the hold of that sum in a sandbox is worth. -/
noncomputable def Try.pinned : Pinned := { name := "ytfoigkkpkalloaa", sum := "bd2e048638eba6e186af36fbbaf7291976e20f5f81723765a5d28f9e29e653e1", checked := Try.checked }
namespace Rows
def none {H : Type} : Left H := { results := [], args := [] }

/-- 'laws.FnRealizeDegrees': WHATEVER THE INPUT: true; the input reads as it did. -/
def fnRealizeDegreesSpec : ChangeSpec := { name := "fnRealizeDegrees", fn := fun _ => fun
  | [d] => { results := [.lit (.bool true)], args := [d] }
  | _ => none }
def fnRealizeDegreesRow : OpenClaim := { program := "ytfoigkkpkalloaa", sum := "bd2e048638eba6e186af36fbbaf7291976e20f5f81723765a5d28f9e29e653e1", func := "loop.example/degreeswaps/laws.FnRealizeDegrees", spec := "fnRealizeDegrees", unfollowed := true, recurses := true, apart := false }
def FnRealizeDegreesSaid : Prop := fnRealizeDegreesRow.holds Try.pinned (OpenSpec.ofChange fnRealizeDegreesSpec)

/-- ITS FALSE NEIGHBOUR: 'it returns false'. Refute it at one input. -/
def fnRealizeDegreesWrong : ChangeSpec := { name := "fnRealizeDegrees", fn := fun _ => fun
  | [d] => { results := [.lit (.bool false)], args := [d] }
  | _ => none }
def FnRealizeDegreesWrongFalsely : Prop := fnRealizeDegreesRow.holds Try.pinned (OpenSpec.ofChange fnRealizeDegreesWrong)

/-- 'laws.FnSwitchEdges': WHATEVER THE INPUT: true; the input reads as it did. -/
def fnSwitchEdgesSpec : ChangeSpec := { name := "fnSwitchEdges", fn := fun _ => fun
  | [d] => { results := [.lit (.bool true)], args := [d] }
  | _ => none }
def fnSwitchEdgesRow : OpenClaim := { program := "ytfoigkkpkalloaa", sum := "bd2e048638eba6e186af36fbbaf7291976e20f5f81723765a5d28f9e29e653e1", func := "loop.example/degreeswaps/laws.FnSwitchEdges", spec := "fnSwitchEdges", unfollowed := true, recurses := true, apart := false }
def FnSwitchEdgesSaid : Prop := fnSwitchEdgesRow.holds Try.pinned (OpenSpec.ofChange fnSwitchEdgesSpec)

/-- ITS FALSE NEIGHBOUR: 'it returns false'. Refute it at one input. -/
def fnSwitchEdgesWrong : ChangeSpec := { name := "fnSwitchEdges", fn := fun _ => fun
  | [d] => { results := [.lit (.bool false)], args := [d] }
  | _ => none }
def FnSwitchEdgesWrongFalsely : Prop := fnSwitchEdgesRow.holds Try.pinned (OpenSpec.ofChange fnSwitchEdgesWrong)

/-- 'laws.FnCountRealizations': WHATEVER THE INPUT: true; the input reads as it did. -/
def fnCountRealizationsSpec : ChangeSpec := { name := "fnCountRealizations", fn := fun _ => fun
  | [d] => { results := [.lit (.bool true)], args := [d] }
  | _ => none }
def fnCountRealizationsRow : OpenClaim := { program := "ytfoigkkpkalloaa", sum := "bd2e048638eba6e186af36fbbaf7291976e20f5f81723765a5d28f9e29e653e1", func := "loop.example/degreeswaps/laws.FnCountRealizations", spec := "fnCountRealizations", unfollowed := true, recurses := true, apart := false }
def FnCountRealizationsSaid : Prop := fnCountRealizationsRow.holds Try.pinned (OpenSpec.ofChange fnCountRealizationsSpec)

/-- ITS FALSE NEIGHBOUR: 'it returns false'. Refute it at one input. -/
def fnCountRealizationsWrong : ChangeSpec := { name := "fnCountRealizations", fn := fun _ => fun
  | [d] => { results := [.lit (.bool false)], args := [d] }
  | _ => none }
def FnCountRealizationsWrongFalsely : Prop := fnCountRealizationsRow.holds Try.pinned (OpenSpec.ofChange fnCountRealizationsWrong)

/-- 'laws.FnAllRealizations': WHATEVER THE INPUT: true; the input reads as it did. -/
def fnAllRealizationsSpec : ChangeSpec := { name := "fnAllRealizations", fn := fun _ => fun
  | [d] => { results := [.lit (.bool true)], args := [d] }
  | _ => none }
def fnAllRealizationsRow : OpenClaim := { program := "ytfoigkkpkalloaa", sum := "bd2e048638eba6e186af36fbbaf7291976e20f5f81723765a5d28f9e29e653e1", func := "loop.example/degreeswaps/laws.FnAllRealizations", spec := "fnAllRealizations", unfollowed := true, recurses := true, apart := false }
def FnAllRealizationsSaid : Prop := fnAllRealizationsRow.holds Try.pinned (OpenSpec.ofChange fnAllRealizationsSpec)

/-- ITS FALSE NEIGHBOUR: 'it returns false'. Refute it at one input. -/
def fnAllRealizationsWrong : ChangeSpec := { name := "fnAllRealizations", fn := fun _ => fun
  | [d] => { results := [.lit (.bool false)], args := [d] }
  | _ => none }
def FnAllRealizationsWrongFalsely : Prop := fnAllRealizationsRow.holds Try.pinned (OpenSpec.ofChange fnAllRealizationsWrong)

/- THE SECOND FORM. 'bulk': how many values and letters a reading holds, each counted each time it is reached (what is shared counts as often as it is met; a slice's spare places count too). A statement '..UptoSaid' is the law's where the arguments, and the package variables that the reading takes, are together of bulk at most 1048576: NARROWER than '..Said'. Prove '..Said' where nothing that the law and all that it calls make is longer than what came in: it says more and counts as full. Else prove '..UptoSaid'. A law counts once. -/
mutual
def uptoBulk {H : Type} : DataW H → Nat
  | .lit (.string bytes) => bytes.length + 1
  | .lit _ => 1
  | .nil => 1
  | .ptr d => uptoBulk d + 1
  | .slice elems spare => uptoBulkAll elems + uptoBulkAll spare + 1
  | .agg parts => uptoBulkAll parts + 1
  | .iface _ d => uptoBulk d + 1
  | .map entries => uptoBulkEntries entries + 1
  | .held _ => 1
def uptoBulkAll {H : Type} : List (DataW H) → Nat
  | [] => 0
  | d :: r => uptoBulk d + uptoBulkAll r
def uptoBulkEntries {H : Type} : List (Lit × DataW H) → Nat
  | [] => 0
  | x :: r => uptoBulkEntry x + uptoBulkEntries r
def uptoBulkEntry {H : Type} : Lit × DataW H → Nat
  | (.string bytes, d) => bytes.length + uptoBulk d + 1
  | (_, d) => uptoBulk d + 1
 end
def uptoSmall : (H : Type) → List (DataW H) → Bool := fun _ ds => decide (uptoBulkAll ds ≤ 1048576)
def OpenSpec.upto (s : _root_.Go.ChangeSpec) : _root_.Go.OpenSpec := { _root_.Go.OpenSpec.ofChange s with cond := some uptoSmall }

/-- 'laws.FnRealizeDegrees', WHERE WHAT IT READS IS OF BULK AT MOST 1048576: true; the input reads as it did. -/
def fnRealizeDegreesUptoRow : OpenClaim := { program := "ytfoigkkpkalloaa", sum := "bd2e048638eba6e186af36fbbaf7291976e20f5f81723765a5d28f9e29e653e1", func := "loop.example/degreeswaps/laws.FnRealizeDegrees", spec := "fnRealizeDegrees", unfollowed := true, recurses := true, apart := false, narrowed := true }
def FnRealizeDegreesUptoSaid : Prop := fnRealizeDegreesUptoRow.holds Try.pinned (OpenSpec.upto fnRealizeDegreesSpec)

/-- 'laws.FnSwitchEdges', WHERE WHAT IT READS IS OF BULK AT MOST 1048576: true; the input reads as it did. -/
def fnSwitchEdgesUptoRow : OpenClaim := { program := "ytfoigkkpkalloaa", sum := "bd2e048638eba6e186af36fbbaf7291976e20f5f81723765a5d28f9e29e653e1", func := "loop.example/degreeswaps/laws.FnSwitchEdges", spec := "fnSwitchEdges", unfollowed := true, recurses := true, apart := false, narrowed := true }
def FnSwitchEdgesUptoSaid : Prop := fnSwitchEdgesUptoRow.holds Try.pinned (OpenSpec.upto fnSwitchEdgesSpec)

/-- 'laws.FnCountRealizations', WHERE WHAT IT READS IS OF BULK AT MOST 1048576: true; the input reads as it did. -/
def fnCountRealizationsUptoRow : OpenClaim := { program := "ytfoigkkpkalloaa", sum := "bd2e048638eba6e186af36fbbaf7291976e20f5f81723765a5d28f9e29e653e1", func := "loop.example/degreeswaps/laws.FnCountRealizations", spec := "fnCountRealizations", unfollowed := true, recurses := true, apart := false, narrowed := true }
def FnCountRealizationsUptoSaid : Prop := fnCountRealizationsUptoRow.holds Try.pinned (OpenSpec.upto fnCountRealizationsSpec)

/-- 'laws.FnAllRealizations', WHERE WHAT IT READS IS OF BULK AT MOST 1048576: true; the input reads as it did. -/
def fnAllRealizationsUptoRow : OpenClaim := { program := "ytfoigkkpkalloaa", sum := "bd2e048638eba6e186af36fbbaf7291976e20f5f81723765a5d28f9e29e653e1", func := "loop.example/degreeswaps/laws.FnAllRealizations", spec := "fnAllRealizations", unfollowed := true, recurses := true, apart := false, narrowed := true }
def FnAllRealizationsUptoSaid : Prop := fnAllRealizationsUptoRow.holds Try.pinned (OpenSpec.upto fnAllRealizationsSpec)

end Rows
end Go.Proofs.Ytfoigkkpkalloaa
