/-
  No cell of these rows narrows 'for every input' (looked for: loops, veiled, ifaces, maps, wideKeys, modest, calm, conditions, laid).
  DERIVED. THE GIVEN ROWS OF THIS SEAT. 6 by the template 'for every input the law returns true; each argument reads behind the call as it read before'; 0 by the template 'total and deterministic' (their statements: YtmkagmhkjafpfaaTotals.lean).
  GIVEN WITH THE SEED: the statements are not yours to turn. If you find one false, say at which input.
  Laid BY PROGRAM, IN A SANDBOX (cutbox-rows.mjs): the forced cells as the released guide's own fill.sh prints them over the translation 8716b11e8a74ca83… (all of the seat's roots in one cut). By AI agents, Wed Nov 11 2026. No macro, syntax, notation, axiom, sorry.
-/
import Derived.Test.YtmkagmhkjafpfaaChecked
import GoSem.Claim
import GoSem.ClaimJoined
import GoSem.ClaimMapViews
import Derived.JoinedTies
import Derived.KernelRfl
namespace Go.Proofs.Ytmkagmhkjafpfaa
/- THE CELL 'sum', in the pinned program and in every row, IS THE sha256 OF THE DUMP (.gsa) THAT YtmkagmhkjafpfaaProg.lean LOADS. Nothing in Lean hashes anything: it is a label: what it is worth is what the hold of that sum in a sandbox is worth. -/
noncomputable def Try.pinned : Pinned := { name := "ytmkagmhkjafpfaa", sum := "8716b11e8a74ca83bb9cb60420fcde46a8f1c5ab5f00db5db098a2ac19e58627", checked := Try.checked }
namespace Rows
def none {H : Type} : Left H := { results := [], args := [] }

/-- 'laws.FnSwitchPath': WHATEVER THE INPUT: true; the input reads as it did. -/
def fnSwitchPathSpec : ChangeSpec := { name := "fnSwitchPath", fn := fun _ => fun
  | [d] => { results := [.lit (.bool true)], args := [d] }
  | _ => none }
def fnSwitchPathRow : OpenClaim := { program := "ytmkagmhkjafpfaa", sum := "8716b11e8a74ca83bb9cb60420fcde46a8f1c5ab5f00db5db098a2ac19e58627", func := "loop.example/degreeswaps/laws.FnSwitchPath", spec := "fnSwitchPath", unfollowed := true, recurses := true, plainKeys := false, apart := false }
def FnSwitchPathSaid : Prop := fnSwitchPathRow.holds Try.pinned (OpenSpec.ofChange fnSwitchPathSpec)

/-- ITS FALSE NEIGHBOUR: 'it returns false'. Refute it at one input. -/
def fnSwitchPathWrong : ChangeSpec := { name := "fnSwitchPath", fn := fun _ => fun
  | [d] => { results := [.lit (.bool false)], args := [d] }
  | _ => none }
def FnSwitchPathWrongFalsely : Prop := fnSwitchPathRow.holds Try.pinned (OpenSpec.ofChange fnSwitchPathWrong)

/-- 'laws.FnComposeDegrees': WHATEVER THE INPUT: true; the input reads as it did. -/
def fnComposeDegreesSpec : ChangeSpec := { name := "fnComposeDegrees", fn := fun _ => fun
  | [d] => { results := [.lit (.bool true)], args := [d] }
  | _ => none }
def fnComposeDegreesRow : OpenClaim := { program := "ytmkagmhkjafpfaa", sum := "8716b11e8a74ca83bb9cb60420fcde46a8f1c5ab5f00db5db098a2ac19e58627", func := "loop.example/degreeswaps/laws.FnComposeDegrees", spec := "fnComposeDegrees", unfollowed := true, recurses := true, plainKeys := false, apart := false }
def FnComposeDegreesSaid : Prop := fnComposeDegreesRow.holds Try.pinned (OpenSpec.ofChange fnComposeDegreesSpec)

/-- ITS FALSE NEIGHBOUR: 'it returns false'. Refute it at one input. -/
def fnComposeDegreesWrong : ChangeSpec := { name := "fnComposeDegrees", fn := fun _ => fun
  | [d] => { results := [.lit (.bool false)], args := [d] }
  | _ => none }
def FnComposeDegreesWrongFalsely : Prop := fnComposeDegreesRow.holds Try.pinned (OpenSpec.ofChange fnComposeDegreesWrong)

/-- 'laws.FnCodeOf': WHATEVER THE INPUT: true; the input reads as it did. -/
def fnCodeOfSpec : ChangeSpec := { name := "fnCodeOf", fn := fun _ => fun
  | [d] => { results := [.lit (.bool true)], args := [d] }
  | _ => none }
def fnCodeOfRow : OpenClaim := { program := "ytmkagmhkjafpfaa", sum := "8716b11e8a74ca83bb9cb60420fcde46a8f1c5ab5f00db5db098a2ac19e58627", func := "loop.example/degreeswaps/laws.FnCodeOf", spec := "fnCodeOf", unfollowed := true, recurses := true, plainKeys := false, apart := false }
def FnCodeOfSaid : Prop := fnCodeOfRow.holds Try.pinned (OpenSpec.ofChange fnCodeOfSpec)

/-- ITS FALSE NEIGHBOUR: 'it returns false'. Refute it at one input. -/
def fnCodeOfWrong : ChangeSpec := { name := "fnCodeOf", fn := fun _ => fun
  | [d] => { results := [.lit (.bool false)], args := [d] }
  | _ => none }
def FnCodeOfWrongFalsely : Prop := fnCodeOfRow.holds Try.pinned (OpenSpec.ofChange fnCodeOfWrong)

/-- 'laws.FnCodeGraph': WHATEVER THE INPUT: true; the input reads as it did. -/
def fnCodeGraphSpec : ChangeSpec := { name := "fnCodeGraph", fn := fun _ => fun
  | [d] => { results := [.lit (.bool true)], args := [d] }
  | _ => none }
def fnCodeGraphRow : OpenClaim := { program := "ytmkagmhkjafpfaa", sum := "8716b11e8a74ca83bb9cb60420fcde46a8f1c5ab5f00db5db098a2ac19e58627", func := "loop.example/degreeswaps/laws.FnCodeGraph", spec := "fnCodeGraph", unfollowed := true, recurses := true, plainKeys := false, apart := false }
def FnCodeGraphSaid : Prop := fnCodeGraphRow.holds Try.pinned (OpenSpec.ofChange fnCodeGraphSpec)

/-- ITS FALSE NEIGHBOUR: 'it returns false'. Refute it at one input. -/
def fnCodeGraphWrong : ChangeSpec := { name := "fnCodeGraph", fn := fun _ => fun
  | [d] => { results := [.lit (.bool false)], args := [d] }
  | _ => none }
def FnCodeGraphWrongFalsely : Prop := fnCodeGraphRow.holds Try.pinned (OpenSpec.ofChange fnCodeGraphWrong)

/-- 'laws.FnExactJointOf': WHATEVER THE INPUT: true; the input reads as it did. -/
def fnExactJointOfSpec : ChangeSpec := { name := "fnExactJointOf", fn := fun _ => fun
  | [d] => { results := [.lit (.bool true)], args := [d] }
  | _ => none }
def fnExactJointOfRow : OpenClaim := { program := "ytmkagmhkjafpfaa", sum := "8716b11e8a74ca83bb9cb60420fcde46a8f1c5ab5f00db5db098a2ac19e58627", func := "loop.example/degreeswaps/laws.FnExactJointOf", spec := "fnExactJointOf", unfollowed := true, recurses := true, plainKeys := false, apart := false }
def FnExactJointOfSaid : Prop := fnExactJointOfRow.holds Try.pinned (OpenSpec.ofChange fnExactJointOfSpec)

/-- ITS FALSE NEIGHBOUR: 'it returns false'. Refute it at one input. -/
def fnExactJointOfWrong : ChangeSpec := { name := "fnExactJointOf", fn := fun _ => fun
  | [d] => { results := [.lit (.bool false)], args := [d] }
  | _ => none }
def FnExactJointOfWrongFalsely : Prop := fnExactJointOfRow.holds Try.pinned (OpenSpec.ofChange fnExactJointOfWrong)

/-- 'laws.FnExactJointDegrees': WHATEVER THE INPUT: true; the input reads as it did. -/
def fnExactJointDegreesSpec : ChangeSpec := { name := "fnExactJointDegrees", fn := fun _ => fun
  | [d] => { results := [.lit (.bool true)], args := [d] }
  | _ => none }
def fnExactJointDegreesRow : OpenClaim := { program := "ytmkagmhkjafpfaa", sum := "8716b11e8a74ca83bb9cb60420fcde46a8f1c5ab5f00db5db098a2ac19e58627", func := "loop.example/degreeswaps/laws.FnExactJointDegrees", spec := "fnExactJointDegrees", unfollowed := true, recurses := true, plainKeys := false, apart := false }
def FnExactJointDegreesSaid : Prop := fnExactJointDegreesRow.holds Try.pinned (OpenSpec.ofChange fnExactJointDegreesSpec)

/-- ITS FALSE NEIGHBOUR: 'it returns false'. Refute it at one input. -/
def fnExactJointDegreesWrong : ChangeSpec := { name := "fnExactJointDegrees", fn := fun _ => fun
  | [d] => { results := [.lit (.bool false)], args := [d] }
  | _ => none }
def FnExactJointDegreesWrongFalsely : Prop := fnExactJointDegreesRow.holds Try.pinned (OpenSpec.ofChange fnExactJointDegreesWrong)

/- THE SECOND FORM. 'bulk': how many values and letters a reading holds, each counted each time it is reached (what is shared counts as often as it is met; a slice's spare places count too). A statement '..UptoSaid' is the law's where the arguments, and the package variables that the reading takes, are together of bulk at most 1048576: NARROWER than '..Said'. Prove '..Said' where nothing that the law and all that it calls make is longer than what came in: it says more and counts as full. Else prove '..UptoSaid'. A law counts once. -/
mutual
def uptoBulk {H : Type} : DataW H → Nat
  | .lit (.string bytes) => bytes.length + 1
  | .lit _ => 1
  | .nil => 1
  | .ptr d => uptoBulk d + 1
  | .slice elems spare => uptoBulkAll elems + uptoBulkAll spare + 1
  | .agg parts => uptoBulkAll parts + 1
  | .iface _ d => uptoBulk d + 1
  | .map entries => uptoBulkEntries entries + 1
  | .held _ => 1
def uptoBulkAll {H : Type} : List (DataW H) → Nat
  | [] => 0
  | d :: r => uptoBulk d + uptoBulkAll r
def uptoBulkEntries {H : Type} : List (Lit × DataW H) → Nat
  | [] => 0
  | x :: r => uptoBulkEntry x + uptoBulkEntries r
def uptoBulkEntry {H : Type} : Lit × DataW H → Nat
  | (.string bytes, d) => bytes.length + uptoBulk d + 1
  | (_, d) => uptoBulk d + 1
 end
def uptoSmall : (H : Type) → List (DataW H) → Bool := fun _ ds => decide (uptoBulkAll ds ≤ 1048576)
def OpenSpec.upto (s : _root_.Go.ChangeSpec) : _root_.Go.OpenSpec := { _root_.Go.OpenSpec.ofChange s with cond := some uptoSmall }

/-- 'laws.FnSwitchPath', WHERE WHAT IT READS IS OF BULK AT MOST 1048576: true; the input reads as it did. -/
def fnSwitchPathUptoRow : OpenClaim := { program := "ytmkagmhkjafpfaa", sum := "8716b11e8a74ca83bb9cb60420fcde46a8f1c5ab5f00db5db098a2ac19e58627", func := "loop.example/degreeswaps/laws.FnSwitchPath", spec := "fnSwitchPath", unfollowed := true, recurses := true, plainKeys := false, apart := false, narrowed := true }
def FnSwitchPathUptoSaid : Prop := fnSwitchPathUptoRow.holds Try.pinned (OpenSpec.upto fnSwitchPathSpec)

/-- 'laws.FnComposeDegrees', WHERE WHAT IT READS IS OF BULK AT MOST 1048576: true; the input reads as it did. -/
def fnComposeDegreesUptoRow : OpenClaim := { program := "ytmkagmhkjafpfaa", sum := "8716b11e8a74ca83bb9cb60420fcde46a8f1c5ab5f00db5db098a2ac19e58627", func := "loop.example/degreeswaps/laws.FnComposeDegrees", spec := "fnComposeDegrees", unfollowed := true, recurses := true, plainKeys := false, apart := false, narrowed := true }
def FnComposeDegreesUptoSaid : Prop := fnComposeDegreesUptoRow.holds Try.pinned (OpenSpec.upto fnComposeDegreesSpec)

/-- 'laws.FnCodeOf', WHERE WHAT IT READS IS OF BULK AT MOST 1048576: true; the input reads as it did. -/
def fnCodeOfUptoRow : OpenClaim := { program := "ytmkagmhkjafpfaa", sum := "8716b11e8a74ca83bb9cb60420fcde46a8f1c5ab5f00db5db098a2ac19e58627", func := "loop.example/degreeswaps/laws.FnCodeOf", spec := "fnCodeOf", unfollowed := true, recurses := true, plainKeys := false, apart := false, narrowed := true }
def FnCodeOfUptoSaid : Prop := fnCodeOfUptoRow.holds Try.pinned (OpenSpec.upto fnCodeOfSpec)

/-- 'laws.FnCodeGraph', WHERE WHAT IT READS IS OF BULK AT MOST 1048576: true; the input reads as it did. -/
def fnCodeGraphUptoRow : OpenClaim := { program := "ytmkagmhkjafpfaa", sum := "8716b11e8a74ca83bb9cb60420fcde46a8f1c5ab5f00db5db098a2ac19e58627", func := "loop.example/degreeswaps/laws.FnCodeGraph", spec := "fnCodeGraph", unfollowed := true, recurses := true, plainKeys := false, apart := false, narrowed := true }
def FnCodeGraphUptoSaid : Prop := fnCodeGraphUptoRow.holds Try.pinned (OpenSpec.upto fnCodeGraphSpec)

/-- 'laws.FnExactJointOf', WHERE WHAT IT READS IS OF BULK AT MOST 1048576: true; the input reads as it did. -/
def fnExactJointOfUptoRow : OpenClaim := { program := "ytmkagmhkjafpfaa", sum := "8716b11e8a74ca83bb9cb60420fcde46a8f1c5ab5f00db5db098a2ac19e58627", func := "loop.example/degreeswaps/laws.FnExactJointOf", spec := "fnExactJointOf", unfollowed := true, recurses := true, plainKeys := false, apart := false, narrowed := true }
def FnExactJointOfUptoSaid : Prop := fnExactJointOfUptoRow.holds Try.pinned (OpenSpec.upto fnExactJointOfSpec)

/-- 'laws.FnExactJointDegrees', WHERE WHAT IT READS IS OF BULK AT MOST 1048576: true; the input reads as it did. -/
def fnExactJointDegreesUptoRow : OpenClaim := { program := "ytmkagmhkjafpfaa", sum := "8716b11e8a74ca83bb9cb60420fcde46a8f1c5ab5f00db5db098a2ac19e58627", func := "loop.example/degreeswaps/laws.FnExactJointDegrees", spec := "fnExactJointDegrees", unfollowed := true, recurses := true, plainKeys := false, apart := false, narrowed := true }
def FnExactJointDegreesUptoSaid : Prop := fnExactJointDegreesUptoRow.holds Try.pinned (OpenSpec.upto fnExactJointDegreesSpec)

end Rows
end Go.Proofs.Ytmkagmhkjafpfaa
