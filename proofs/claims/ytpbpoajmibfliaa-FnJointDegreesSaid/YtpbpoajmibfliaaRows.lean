/-
  No cell of these rows narrows 'for every input' (looked for: loops, veiled, ifaces, maps, wideKeys, modest, calm, conditions, laid).
  DERIVED. THE GIVEN ROWS OF THIS SEAT. 5 by the template 'for every input the law returns true; each argument reads behind the call as it read before'; 0 by the template 'total and deterministic' (their statements: YtpbpoajmibfliaaTotals.lean).
  GIVEN WITH THE SEED: the statements are not yours to turn. If you find one false, say at which input.
  Laid BY PROGRAM, IN A SANDBOX (cutbox-rows.mjs): the forced cells as the released guide's own fill.sh prints them over the translation 991731207d85807e… (all of the seat's roots in one cut). By AI agents, Wed Nov 11 2026. No macro, syntax, notation, axiom, sorry.
-/
import Derived.Test.YtpbpoajmibfliaaChecked
import GoSem.Claim
import GoSem.ClaimJoined
import GoSem.ClaimMapViews
import Derived.JoinedTies
import Derived.KernelRfl
namespace Go.Proofs.Ytpbpoajmibfliaa
/- THE CELL 'sum', in the pinned program and in every row, IS THE sha256 OF THE DUMP (.gsa) THAT YtpbpoajmibfliaaProg.lean LOADS. Nothing in Lean hashes anything: it is a label: what it is worth is what the hold of that sum in a sandbox is worth. -/
noncomputable def Try.pinned : Pinned := { name := "ytpbpoajmibfliaa", sum := "991731207d85807edb75f1ef4622013cd784666f41ae35594320c8b8256f2ede", checked := Try.checked }
namespace Rows
def none {H : Type} : Left H := { results := [], args := [] }

/-- 'laws.FnCodeOf': WHATEVER THE INPUT: true; the input reads as it did. -/
def fnCodeOfSpec : ChangeSpec := { name := "fnCodeOf", fn := fun _ => fun
  | [d] => { results := [.lit (.bool true)], args := [d] }
  | _ => none }
def fnCodeOfRow : OpenClaim := { program := "ytpbpoajmibfliaa", sum := "991731207d85807edb75f1ef4622013cd784666f41ae35594320c8b8256f2ede", func := "loop.example/degreeswaps/laws.FnCodeOf", spec := "fnCodeOf", unfollowed := true, recurses := true, plainKeys := false, apart := false }
def FnCodeOfSaid : Prop := fnCodeOfRow.holds Try.pinned (OpenSpec.ofChange fnCodeOfSpec)

/-- ITS FALSE NEIGHBOUR: 'it returns false'. Refute it at one input. -/
def fnCodeOfWrong : ChangeSpec := { name := "fnCodeOf", fn := fun _ => fun
  | [d] => { results := [.lit (.bool false)], args := [d] }
  | _ => none }
def FnCodeOfWrongFalsely : Prop := fnCodeOfRow.holds Try.pinned (OpenSpec.ofChange fnCodeOfWrong)

/-- 'laws.FnCodeGraph': WHATEVER THE INPUT: true; the input reads as it did. -/
def fnCodeGraphSpec : ChangeSpec := { name := "fnCodeGraph", fn := fun _ => fun
  | [d] => { results := [.lit (.bool true)], args := [d] }
  | _ => none }
def fnCodeGraphRow : OpenClaim := { program := "ytpbpoajmibfliaa", sum := "991731207d85807edb75f1ef4622013cd784666f41ae35594320c8b8256f2ede", func := "loop.example/degreeswaps/laws.FnCodeGraph", spec := "fnCodeGraph", unfollowed := true, recurses := true, plainKeys := false, apart := false }
def FnCodeGraphSaid : Prop := fnCodeGraphRow.holds Try.pinned (OpenSpec.ofChange fnCodeGraphSpec)

/-- ITS FALSE NEIGHBOUR: 'it returns false'. Refute it at one input. -/
def fnCodeGraphWrong : ChangeSpec := { name := "fnCodeGraph", fn := fun _ => fun
  | [d] => { results := [.lit (.bool false)], args := [d] }
  | _ => none }
def FnCodeGraphWrongFalsely : Prop := fnCodeGraphRow.holds Try.pinned (OpenSpec.ofChange fnCodeGraphWrong)

/-- 'laws.FnExactJointOf': WHATEVER THE INPUT: true; the input reads as it did. -/
def fnExactJointOfSpec : ChangeSpec := { name := "fnExactJointOf", fn := fun _ => fun
  | [d] => { results := [.lit (.bool true)], args := [d] }
  | _ => none }
def fnExactJointOfRow : OpenClaim := { program := "ytpbpoajmibfliaa", sum := "991731207d85807edb75f1ef4622013cd784666f41ae35594320c8b8256f2ede", func := "loop.example/degreeswaps/laws.FnExactJointOf", spec := "fnExactJointOf", unfollowed := true, recurses := true, plainKeys := false, apart := false }
def FnExactJointOfSaid : Prop := fnExactJointOfRow.holds Try.pinned (OpenSpec.ofChange fnExactJointOfSpec)

/-- ITS FALSE NEIGHBOUR: 'it returns false'. Refute it at one input. -/
def fnExactJointOfWrong : ChangeSpec := { name := "fnExactJointOf", fn := fun _ => fun
  | [d] => { results := [.lit (.bool false)], args := [d] }
  | _ => none }
def FnExactJointOfWrongFalsely : Prop := fnExactJointOfRow.holds Try.pinned (OpenSpec.ofChange fnExactJointOfWrong)

/-- 'laws.FnExactJointDegrees': WHATEVER THE INPUT: true; the input reads as it did. -/
def fnExactJointDegreesSpec : ChangeSpec := { name := "fnExactJointDegrees", fn := fun _ => fun
  | [d] => { results := [.lit (.bool true)], args := [d] }
  | _ => none }
def fnExactJointDegreesRow : OpenClaim := { program := "ytpbpoajmibfliaa", sum := "991731207d85807edb75f1ef4622013cd784666f41ae35594320c8b8256f2ede", func := "loop.example/degreeswaps/laws.FnExactJointDegrees", spec := "fnExactJointDegrees", unfollowed := true, recurses := true, plainKeys := false, apart := false }
def FnExactJointDegreesSaid : Prop := fnExactJointDegreesRow.holds Try.pinned (OpenSpec.ofChange fnExactJointDegreesSpec)

/-- ITS FALSE NEIGHBOUR: 'it returns false'. Refute it at one input. -/
def fnExactJointDegreesWrong : ChangeSpec := { name := "fnExactJointDegrees", fn := fun _ => fun
  | [d] => { results := [.lit (.bool false)], args := [d] }
  | _ => none }
def FnExactJointDegreesWrongFalsely : Prop := fnExactJointDegreesRow.holds Try.pinned (OpenSpec.ofChange fnExactJointDegreesWrong)

/-- 'laws.FnJointDegrees': WHATEVER THE INPUT: true; the input reads as it did. -/
def fnJointDegreesSpec : ChangeSpec := { name := "fnJointDegrees", fn := fun _ => fun
  | [d] => { results := [.lit (.bool true)], args := [d] }
  | _ => none }
def fnJointDegreesRow : OpenClaim := { program := "ytpbpoajmibfliaa", sum := "991731207d85807edb75f1ef4622013cd784666f41ae35594320c8b8256f2ede", func := "loop.example/degreeswaps/laws.FnJointDegrees", spec := "fnJointDegrees", unfollowed := true, recurses := true, plainKeys := false, apart := false }
def FnJointDegreesSaid : Prop := fnJointDegreesRow.holds Try.pinned (OpenSpec.ofChange fnJointDegreesSpec)

/-- ITS FALSE NEIGHBOUR: 'it returns false'. Refute it at one input. -/
def fnJointDegreesWrong : ChangeSpec := { name := "fnJointDegrees", fn := fun _ => fun
  | [d] => { results := [.lit (.bool false)], args := [d] }
  | _ => none }
def FnJointDegreesWrongFalsely : Prop := fnJointDegreesRow.holds Try.pinned (OpenSpec.ofChange fnJointDegreesWrong)

/- THE SECOND FORM. 'bulk': how many values and letters a reading holds, each counted each time it is reached (what is shared counts as often as it is met; a slice's spare places count too). A statement '..UptoSaid' is the law's where the arguments, and the package variables that the reading takes, are together of bulk at most 1048576: NARROWER than '..Said'. Prove '..Said' where nothing that the law and all that it calls make is longer than what came in: it says more and counts as full. Else prove '..UptoSaid'. A law counts once. -/
mutual
def uptoBulk {H : Type} : DataW H → Nat
  | .lit (.string bytes) => bytes.length + 1
  | .lit _ => 1
  | .nil => 1
  | .ptr d => uptoBulk d + 1
  | .slice elems spare => uptoBulkAll elems + uptoBulkAll spare + 1
  | .agg parts => uptoBulkAll parts + 1
  | .iface _ d => uptoBulk d + 1
  | .map entries => uptoBulkEntries entries + 1
  | .held _ => 1
def uptoBulkAll {H : Type} : List (DataW H) → Nat
  | [] => 0
  | d :: r => uptoBulk d + uptoBulkAll r
def uptoBulkEntries {H : Type} : List (Lit × DataW H) → Nat
  | [] => 0
  | x :: r => uptoBulkEntry x + uptoBulkEntries r
def uptoBulkEntry {H : Type} : Lit × DataW H → Nat
  | (.string bytes, d) => bytes.length + uptoBulk d + 1
  | (_, d) => uptoBulk d + 1
 end
def uptoSmall : (H : Type) → List (DataW H) → Bool := fun _ ds => decide (uptoBulkAll ds ≤ 1048576)
def OpenSpec.upto (s : _root_.Go.ChangeSpec) : _root_.Go.OpenSpec := { _root_.Go.OpenSpec.ofChange s with cond := some uptoSmall }

/-- 'laws.FnCodeOf', WHERE WHAT IT READS IS OF BULK AT MOST 1048576: true; the input reads as it did. -/
def fnCodeOfUptoRow : OpenClaim := { program := "ytpbpoajmibfliaa", sum := "991731207d85807edb75f1ef4622013cd784666f41ae35594320c8b8256f2ede", func := "loop.example/degreeswaps/laws.FnCodeOf", spec := "fnCodeOf", unfollowed := true, recurses := true, plainKeys := false, apart := false, narrowed := true }
def FnCodeOfUptoSaid : Prop := fnCodeOfUptoRow.holds Try.pinned (OpenSpec.upto fnCodeOfSpec)

/-- 'laws.FnCodeGraph', WHERE WHAT IT READS IS OF BULK AT MOST 1048576: true; the input reads as it did. -/
def fnCodeGraphUptoRow : OpenClaim := { program := "ytpbpoajmibfliaa", sum := "991731207d85807edb75f1ef4622013cd784666f41ae35594320c8b8256f2ede", func := "loop.example/degreeswaps/laws.FnCodeGraph", spec := "fnCodeGraph", unfollowed := true, recurses := true, plainKeys := false, apart := false, narrowed := true }
def FnCodeGraphUptoSaid : Prop := fnCodeGraphUptoRow.holds Try.pinned (OpenSpec.upto fnCodeGraphSpec)

/-- 'laws.FnExactJointOf', WHERE WHAT IT READS IS OF BULK AT MOST 1048576: true; the input reads as it did. -/
def fnExactJointOfUptoRow : OpenClaim := { program := "ytpbpoajmibfliaa", sum := "991731207d85807edb75f1ef4622013cd784666f41ae35594320c8b8256f2ede", func := "loop.example/degreeswaps/laws.FnExactJointOf", spec := "fnExactJointOf", unfollowed := true, recurses := true, plainKeys := false, apart := false, narrowed := true }
def FnExactJointOfUptoSaid : Prop := fnExactJointOfUptoRow.holds Try.pinned (OpenSpec.upto fnExactJointOfSpec)

/-- 'laws.FnExactJointDegrees', WHERE WHAT IT READS IS OF BULK AT MOST 1048576: true; the input reads as it did. -/
def fnExactJointDegreesUptoRow : OpenClaim := { program := "ytpbpoajmibfliaa", sum := "991731207d85807edb75f1ef4622013cd784666f41ae35594320c8b8256f2ede", func := "loop.example/degreeswaps/laws.FnExactJointDegrees", spec := "fnExactJointDegrees", unfollowed := true, recurses := true, plainKeys := false, apart := false, narrowed := true }
def FnExactJointDegreesUptoSaid : Prop := fnExactJointDegreesUptoRow.holds Try.pinned (OpenSpec.upto fnExactJointDegreesSpec)

/-- 'laws.FnJointDegrees', WHERE WHAT IT READS IS OF BULK AT MOST 1048576: true; the input reads as it did. -/
def fnJointDegreesUptoRow : OpenClaim := { program := "ytpbpoajmibfliaa", sum := "991731207d85807edb75f1ef4622013cd784666f41ae35594320c8b8256f2ede", func := "loop.example/degreeswaps/laws.FnJointDegrees", spec := "fnJointDegrees", unfollowed := true, recurses := true, plainKeys := false, apart := false, narrowed := true }
def FnJointDegreesUptoSaid : Prop := fnJointDegreesUptoRow.holds Try.pinned (OpenSpec.upto fnJointDegreesSpec)

end Rows
end Go.Proofs.Ytpbpoajmibfliaa
