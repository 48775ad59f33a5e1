/-
  No cell of these rows narrows 'for every input' (looked for: loops, veiled, ifaces, maps, wideKeys, modest, calm, conditions, laid).
  DERIVED. THE GIVEN ROWS OF THIS SEAT. 5 by the template 'for every input the law returns true; each argument reads behind the call as it read before'; 0 by the template 'total and deterministic' (their statements: YtppjfjleffabaaaTotals.lean).
  GIVEN WITH THE SEED: the statements are not yours to turn. If you find one false, say at which input.
  Laid BY PROGRAM, IN A SANDBOX (cutbox-rows.mjs): the forced cells as the released guide's own fill.sh prints them over the translation 53d94db110934705… (all of the seat's roots in one cut). By AI agents, Wed Nov 11 2026. No macro, syntax, notation, axiom, sorry.
-/
import Derived.Test.YtppjfjleffabaaaChecked
import GoSem.Claim
import GoSem.ClaimJoined
import GoSem.ClaimMapViews
import Derived.JoinedTies
import Derived.KernelRfl
namespace Go.Proofs.Ytppjfjleffabaaa
/- THE CELL 'sum', in the pinned program and in every row, IS THE sha256 OF THE DUMP (.gsa) THAT YtppjfjleffabaaaProg.lean LOADS. Nothing in Lean hashes anything: it is a label: what it is worth is what the hold of that sum in a sandbox is worth. -/
noncomputable def Try.pinned : Pinned := { name := "ytppjfjleffabaaa", sum := "53d94db11093470585219b991d7752b636dce8788d98d38ec3055eae575c29b9", checked := Try.checked }
namespace Rows
def none {H : Type} : Left H := { results := [], args := [] }

/-- 'laws.FnSwitchEdges': WHATEVER THE INPUT: true; the input reads as it did. -/
def fnSwitchEdgesSpec : ChangeSpec := { name := "fnSwitchEdges", fn := fun _ => fun
  | [d] => { results := [.lit (.bool true)], args := [d] }
  | _ => none }
def fnSwitchEdgesRow : OpenClaim := { program := "ytppjfjleffabaaa", sum := "53d94db11093470585219b991d7752b636dce8788d98d38ec3055eae575c29b9", func := "loop.example/degreeswaps/laws.FnSwitchEdges", spec := "fnSwitchEdges", unfollowed := true, recurses := true, apart := false }
def FnSwitchEdgesSaid : Prop := fnSwitchEdgesRow.holds Try.pinned (OpenSpec.ofChange fnSwitchEdgesSpec)

/-- ITS FALSE NEIGHBOUR: 'it returns false'. Refute it at one input. -/
def fnSwitchEdgesWrong : ChangeSpec := { name := "fnSwitchEdges", fn := fun _ => fun
  | [d] => { results := [.lit (.bool false)], args := [d] }
  | _ => none }
def FnSwitchEdgesWrongFalsely : Prop := fnSwitchEdgesRow.holds Try.pinned (OpenSpec.ofChange fnSwitchEdgesWrong)

/-- 'laws.FnCodeGraph': WHATEVER THE INPUT: true; the input reads as it did. -/
def fnCodeGraphSpec : ChangeSpec := { name := "fnCodeGraph", fn := fun _ => fun
  | [d] => { results := [.lit (.bool true)], args := [d] }
  | _ => none }
def fnCodeGraphRow : OpenClaim := { program := "ytppjfjleffabaaa", sum := "53d94db11093470585219b991d7752b636dce8788d98d38ec3055eae575c29b9", func := "loop.example/degreeswaps/laws.FnCodeGraph", spec := "fnCodeGraph", unfollowed := true, recurses := true, apart := false }
def FnCodeGraphSaid : Prop := fnCodeGraphRow.holds Try.pinned (OpenSpec.ofChange fnCodeGraphSpec)

/-- ITS FALSE NEIGHBOUR: 'it returns false'. Refute it at one input. -/
def fnCodeGraphWrong : ChangeSpec := { name := "fnCodeGraph", fn := fun _ => fun
  | [d] => { results := [.lit (.bool false)], args := [d] }
  | _ => none }
def FnCodeGraphWrongFalsely : Prop := fnCodeGraphRow.holds Try.pinned (OpenSpec.ofChange fnCodeGraphWrong)

/-- 'laws.FnRunSwitches': WHATEVER THE INPUT: true; the input reads as it did. -/
def fnRunSwitchesSpec : ChangeSpec := { name := "fnRunSwitches", fn := fun _ => fun
  | [d] => { results := [.lit (.bool true)], args := [d] }
  | _ => none }
def fnRunSwitchesRow : OpenClaim := { program := "ytppjfjleffabaaa", sum := "53d94db11093470585219b991d7752b636dce8788d98d38ec3055eae575c29b9", func := "loop.example/degreeswaps/laws.FnRunSwitches", spec := "fnRunSwitches", unfollowed := true, recurses := true, apart := false }
def FnRunSwitchesSaid : Prop := fnRunSwitchesRow.holds Try.pinned (OpenSpec.ofChange fnRunSwitchesSpec)

/-- ITS FALSE NEIGHBOUR: 'it returns false'. Refute it at one input. -/
def fnRunSwitchesWrong : ChangeSpec := { name := "fnRunSwitches", fn := fun _ => fun
  | [d] => { results := [.lit (.bool false)], args := [d] }
  | _ => none }
def FnRunSwitchesWrongFalsely : Prop := fnRunSwitchesRow.holds Try.pinned (OpenSpec.ofChange fnRunSwitchesWrong)

/-- 'laws.FnIsTreeDegrees': WHATEVER THE INPUT: true; the input reads as it did. -/
def fnIsTreeDegreesSpec : ChangeSpec := { name := "fnIsTreeDegrees", fn := fun _ => fun
  | [d] => { results := [.lit (.bool true)], args := [d] }
  | _ => none }
def fnIsTreeDegreesRow : OpenClaim := { program := "ytppjfjleffabaaa", sum := "53d94db11093470585219b991d7752b636dce8788d98d38ec3055eae575c29b9", func := "loop.example/degreeswaps/laws.FnIsTreeDegrees", spec := "fnIsTreeDegrees", unfollowed := true, recurses := true, apart := false }
def FnIsTreeDegreesSaid : Prop := fnIsTreeDegreesRow.holds Try.pinned (OpenSpec.ofChange fnIsTreeDegreesSpec)

/-- ITS FALSE NEIGHBOUR: 'it returns false'. Refute it at one input. -/
def fnIsTreeDegreesWrong : ChangeSpec := { name := "fnIsTreeDegrees", fn := fun _ => fun
  | [d] => { results := [.lit (.bool false)], args := [d] }
  | _ => none }
def FnIsTreeDegreesWrongFalsely : Prop := fnIsTreeDegreesRow.holds Try.pinned (OpenSpec.ofChange fnIsTreeDegreesWrong)

/-- 'laws.FnIsGraphicCount': WHATEVER THE INPUT: true; the input reads as it did. -/
def fnIsGraphicCountSpec : ChangeSpec := { name := "fnIsGraphicCount", fn := fun _ => fun
  | [d] => { results := [.lit (.bool true)], args := [d] }
  | _ => none }
def fnIsGraphicCountRow : OpenClaim := { program := "ytppjfjleffabaaa", sum := "53d94db11093470585219b991d7752b636dce8788d98d38ec3055eae575c29b9", func := "loop.example/degreeswaps/laws.FnIsGraphicCount", spec := "fnIsGraphicCount", unfollowed := true, recurses := true, apart := false }
def FnIsGraphicCountSaid : Prop := fnIsGraphicCountRow.holds Try.pinned (OpenSpec.ofChange fnIsGraphicCountSpec)

/-- ITS FALSE NEIGHBOUR: 'it returns false'. Refute it at one input. -/
def fnIsGraphicCountWrong : ChangeSpec := { name := "fnIsGraphicCount", fn := fun _ => fun
  | [d] => { results := [.lit (.bool false)], args := [d] }
  | _ => none }
def FnIsGraphicCountWrongFalsely : Prop := fnIsGraphicCountRow.holds Try.pinned (OpenSpec.ofChange fnIsGraphicCountWrong)

/- THE SECOND FORM. 'bulk': how many values and letters a reading holds, each counted each time it is reached (what is shared counts as often as it is met; a slice's spare places count too). A statement '..UptoSaid' is the law's where the arguments, and the package variables that the reading takes, are together of bulk at most 1048576: NARROWER than '..Said'. Prove '..Said' where nothing that the law and all that it calls make is longer than what came in: it says more and counts as full. Else prove '..UptoSaid'. A law counts once. -/
mutual
def uptoBulk {H : Type} : DataW H → Nat
  | .lit (.string bytes) => bytes.length + 1
  | .lit _ => 1
  | .nil => 1
  | .ptr d => uptoBulk d + 1
  | .slice elems spare => uptoBulkAll elems + uptoBulkAll spare + 1
  | .agg parts => uptoBulkAll parts + 1
  | .iface _ d => uptoBulk d + 1
  | .map entries => uptoBulkEntries entries + 1
  | .held _ => 1
def uptoBulkAll {H : Type} : List (DataW H) → Nat
  | [] => 0
  | d :: r => uptoBulk d + uptoBulkAll r
def uptoBulkEntries {H : Type} : List (Lit × DataW H) → Nat
  | [] => 0
  | x :: r => uptoBulkEntry x + uptoBulkEntries r
def uptoBulkEntry {H : Type} : Lit × DataW H → Nat
  | (.string bytes, d) => bytes.length + uptoBulk d + 1
  | (_, d) => uptoBulk d + 1
 end
def uptoSmall : (H : Type) → List (DataW H) → Bool := fun _ ds => decide (uptoBulkAll ds ≤ 1048576)
def OpenSpec.upto (s : _root_.Go.ChangeSpec) : _root_.Go.OpenSpec := { _root_.Go.OpenSpec.ofChange s with cond := some uptoSmall }

/-- 'laws.FnSwitchEdges', WHERE WHAT IT READS IS OF BULK AT MOST 1048576: true; the input reads as it did. -/
def fnSwitchEdgesUptoRow : OpenClaim := { program := "ytppjfjleffabaaa", sum := "53d94db11093470585219b991d7752b636dce8788d98d38ec3055eae575c29b9", func := "loop.example/degreeswaps/laws.FnSwitchEdges", spec := "fnSwitchEdges", unfollowed := true, recurses := true, apart := false, narrowed := true }
def FnSwitchEdgesUptoSaid : Prop := fnSwitchEdgesUptoRow.holds Try.pinned (OpenSpec.upto fnSwitchEdgesSpec)

/-- 'laws.FnCodeGraph', WHERE WHAT IT READS IS OF BULK AT MOST 1048576: true; the input reads as it did. -/
def fnCodeGraphUptoRow : OpenClaim := { program := "ytppjfjleffabaaa", sum := "53d94db11093470585219b991d7752b636dce8788d98d38ec3055eae575c29b9", func := "loop.example/degreeswaps/laws.FnCodeGraph", spec := "fnCodeGraph", unfollowed := true, recurses := true, apart := false, narrowed := true }
def FnCodeGraphUptoSaid : Prop := fnCodeGraphUptoRow.holds Try.pinned (OpenSpec.upto fnCodeGraphSpec)

/-- 'laws.FnRunSwitches', WHERE WHAT IT READS IS OF BULK AT MOST 1048576: true; the input reads as it did. -/
def fnRunSwitchesUptoRow : OpenClaim := { program := "ytppjfjleffabaaa", sum := "53d94db11093470585219b991d7752b636dce8788d98d38ec3055eae575c29b9", func := "loop.example/degreeswaps/laws.FnRunSwitches", spec := "fnRunSwitches", unfollowed := true, recurses := true, apart := false, narrowed := true }
def FnRunSwitchesUptoSaid : Prop := fnRunSwitchesUptoRow.holds Try.pinned (OpenSpec.upto fnRunSwitchesSpec)

/-- 'laws.FnIsTreeDegrees', WHERE WHAT IT READS IS OF BULK AT MOST 1048576: true; the input reads as it did. -/
def fnIsTreeDegreesUptoRow : OpenClaim := { program := "ytppjfjleffabaaa", sum := "53d94db11093470585219b991d7752b636dce8788d98d38ec3055eae575c29b9", func := "loop.example/degreeswaps/laws.FnIsTreeDegrees", spec := "fnIsTreeDegrees", unfollowed := true, recurses := true, apart := false, narrowed := true }
def FnIsTreeDegreesUptoSaid : Prop := fnIsTreeDegreesUptoRow.holds Try.pinned (OpenSpec.upto fnIsTreeDegreesSpec)

/-- 'laws.FnIsGraphicCount', WHERE WHAT IT READS IS OF BULK AT MOST 1048576: true; the input reads as it did. -/
def fnIsGraphicCountUptoRow : OpenClaim := { program := "ytppjfjleffabaaa", sum := "53d94db11093470585219b991d7752b636dce8788d98d38ec3055eae575c29b9", func := "loop.example/degreeswaps/laws.FnIsGraphicCount", spec := "fnIsGraphicCount", unfollowed := true, recurses := true, apart := false, narrowed := true }
def FnIsGraphicCountUptoSaid : Prop := fnIsGraphicCountUptoRow.holds Try.pinned (OpenSpec.upto fnIsGraphicCountSpec)

end Rows
end Go.Proofs.Ytppjfjleffabaaa
