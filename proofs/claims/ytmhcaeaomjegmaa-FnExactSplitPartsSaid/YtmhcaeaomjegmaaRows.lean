/-
  No cell of these rows narrows 'for every input' (looked for: loops, veiled, ifaces, maps, wideKeys, modest, calm, conditions, laid).
  DERIVED. THE GIVEN ROWS OF THIS SEAT. 3 by the template 'for every input the law returns true; each argument reads behind the call as it read before'; 0 by the template 'total and deterministic' (their statements: YtmhcaeaomjegmaaTotals.lean).
  GIVEN WITH THE SEED: the statements are not yours to turn. If you find one false, say at which input.
  Laid BY PROGRAM, IN A SANDBOX (cutbox-rows.mjs): the forced cells as the released guide's own fill.sh prints them over the translation 5a06434935a1788e… (all of the seat's roots in one cut). By AI agents, Wed Nov 11 2026. No macro, syntax, notation, axiom, sorry.
-/
import Derived.Test.YtmhcaeaomjegmaaChecked
import GoSem.Claim
import GoSem.ClaimJoined
import GoSem.ClaimMapViews
import Derived.JoinedTies
import Derived.KernelRfl
namespace Go.Proofs.Ytmhcaeaomjegmaa
/- THE CELL 'sum', in the pinned program and in every row, IS THE sha256 OF THE DUMP (.gsa) THAT YtmhcaeaomjegmaaProg.lean LOADS. Nothing in Lean hashes anything: it is a label: what it is worth is what the hold of that sum in a sandbox is worth. -/
noncomputable def Try.pinned : Pinned := { name := "ytmhcaeaomjegmaa", sum := "5a06434935a1788ec3562f85d1a90c196f5d2c6dfe7c6bccdc98e7827397d2f8", checked := Try.checked }
namespace Rows
def none {H : Type} : Left H := { results := [], args := [] }

/-- 'laws.FnExactRealizeDegrees': WHATEVER THE INPUT: true; the input reads as it did. -/
def fnExactRealizeDegreesSpec : ChangeSpec := { name := "fnExactRealizeDegrees", fn := fun _ => fun
  | [d] => { results := [.lit (.bool true)], args := [d] }
  | _ => none }
def fnExactRealizeDegreesRow : OpenClaim := { program := "ytmhcaeaomjegmaa", sum := "5a06434935a1788ec3562f85d1a90c196f5d2c6dfe7c6bccdc98e7827397d2f8", func := "loop.example/degreeswaps/laws.FnExactRealizeDegrees", spec := "fnExactRealizeDegrees", unfollowed := true, recurses := true, apart := false }
def FnExactRealizeDegreesSaid : Prop := fnExactRealizeDegreesRow.holds Try.pinned (OpenSpec.ofChange fnExactRealizeDegreesSpec)

/-- ITS FALSE NEIGHBOUR: 'it returns false'. Refute it at one input. -/
def fnExactRealizeDegreesWrong : ChangeSpec := { name := "fnExactRealizeDegrees", fn := fun _ => fun
  | [d] => { results := [.lit (.bool false)], args := [d] }
  | _ => none }
def FnExactRealizeDegreesWrongFalsely : Prop := fnExactRealizeDegreesRow.holds Try.pinned (OpenSpec.ofChange fnExactRealizeDegreesWrong)

/-- 'laws.FnExactRunSwitches': WHATEVER THE INPUT: true; the input reads as it did. -/
def fnExactRunSwitchesSpec : ChangeSpec := { name := "fnExactRunSwitches", fn := fun _ => fun
  | [d1, d2] => { results := [.lit (.bool true)], args := [d1, d2] }
  | _ => none }
def fnExactRunSwitchesRow : OpenClaim := { program := "ytmhcaeaomjegmaa", sum := "5a06434935a1788ec3562f85d1a90c196f5d2c6dfe7c6bccdc98e7827397d2f8", func := "loop.example/degreeswaps/laws.FnExactRunSwitches", spec := "fnExactRunSwitches", unfollowed := true, recurses := true, apart := false }
def FnExactRunSwitchesSaid : Prop := fnExactRunSwitchesRow.holds Try.pinned (OpenSpec.ofChange fnExactRunSwitchesSpec)

/-- ITS FALSE NEIGHBOUR: 'it returns false'. Refute it at one input. -/
def fnExactRunSwitchesWrong : ChangeSpec := { name := "fnExactRunSwitches", fn := fun _ => fun
  | [d1, d2] => { results := [.lit (.bool false)], args := [d1, d2] }
  | _ => none }
def FnExactRunSwitchesWrongFalsely : Prop := fnExactRunSwitchesRow.holds Try.pinned (OpenSpec.ofChange fnExactRunSwitchesWrong)

/-- 'laws.FnExactSplitParts': WHATEVER THE INPUT: true; the input reads as it did. -/
def fnExactSplitPartsSpec : ChangeSpec := { name := "fnExactSplitParts", fn := fun _ => fun
  | [d] => { results := [.lit (.bool true)], args := [d] }
  | _ => none }
def fnExactSplitPartsRow : OpenClaim := { program := "ytmhcaeaomjegmaa", sum := "5a06434935a1788ec3562f85d1a90c196f5d2c6dfe7c6bccdc98e7827397d2f8", func := "loop.example/degreeswaps/laws.FnExactSplitParts", spec := "fnExactSplitParts", unfollowed := true, recurses := true, apart := false }
def FnExactSplitPartsSaid : Prop := fnExactSplitPartsRow.holds Try.pinned (OpenSpec.ofChange fnExactSplitPartsSpec)

/-- ITS FALSE NEIGHBOUR: 'it returns false'. Refute it at one input. -/
def fnExactSplitPartsWrong : ChangeSpec := { name := "fnExactSplitParts", fn := fun _ => fun
  | [d] => { results := [.lit (.bool false)], args := [d] }
  | _ => none }
def FnExactSplitPartsWrongFalsely : Prop := fnExactSplitPartsRow.holds Try.pinned (OpenSpec.ofChange fnExactSplitPartsWrong)

/- THE SECOND FORM. 'bulk': how many values and letters a reading holds, each counted each time it is reached (what is shared counts as often as it is met; a slice's spare places count too). A statement '..UptoSaid' is the law's where the arguments, and the package variables that the reading takes, are together of bulk at most 1048576: NARROWER than '..Said'. Prove '..Said' where nothing that the law and all that it calls make is longer than what came in: it says more and counts as full. Else prove '..UptoSaid'. A law counts once. -/
mutual
def uptoBulk {H : Type} : DataW H → Nat
  | .lit (.string bytes) => bytes.length + 1
  | .lit _ => 1
  | .nil => 1
  | .ptr d => uptoBulk d + 1
  | .slice elems spare => uptoBulkAll elems + uptoBulkAll spare + 1
  | .agg parts => uptoBulkAll parts + 1
  | .iface _ d => uptoBulk d + 1
  | .map entries => uptoBulkEntries entries + 1
  | .held _ => 1
def uptoBulkAll {H : Type} : List (DataW H) → Nat
  | [] => 0
  | d :: r => uptoBulk d + uptoBulkAll r
def uptoBulkEntries {H : Type} : List (Lit × DataW H) → Nat
  | [] => 0
  | x :: r => uptoBulkEntry x + uptoBulkEntries r
def uptoBulkEntry {H : Type} : Lit × DataW H → Nat
  | (.string bytes, d) => bytes.length + uptoBulk d + 1
  | (_, d) => uptoBulk d + 1
 end
def uptoSmall : (H : Type) → List (DataW H) → Bool := fun _ ds => decide (uptoBulkAll ds ≤ 1048576)
def OpenSpec.upto (s : _root_.Go.ChangeSpec) : _root_.Go.OpenSpec := { _root_.Go.OpenSpec.ofChange s with cond := some uptoSmall }

/-- 'laws.FnExactRealizeDegrees', WHERE WHAT IT READS IS OF BULK AT MOST 1048576: true; the input reads as it did. -/
def fnExactRealizeDegreesUptoRow : OpenClaim := { program := "ytmhcaeaomjegmaa", sum := "5a06434935a1788ec3562f85d1a90c196f5d2c6dfe7c6bccdc98e7827397d2f8", func := "loop.example/degreeswaps/laws.FnExactRealizeDegrees", spec := "fnExactRealizeDegrees", unfollowed := true, recurses := true, apart := false, narrowed := true }
def FnExactRealizeDegreesUptoSaid : Prop := fnExactRealizeDegreesUptoRow.holds Try.pinned (OpenSpec.upto fnExactRealizeDegreesSpec)

/-- 'laws.FnExactRunSwitches', WHERE WHAT IT READS IS OF BULK AT MOST 1048576: true; the input reads as it did. -/
def fnExactRunSwitchesUptoRow : OpenClaim := { program := "ytmhcaeaomjegmaa", sum := "5a06434935a1788ec3562f85d1a90c196f5d2c6dfe7c6bccdc98e7827397d2f8", func := "loop.example/degreeswaps/laws.FnExactRunSwitches", spec := "fnExactRunSwitches", unfollowed := true, recurses := true, apart := false, narrowed := true }
def FnExactRunSwitchesUptoSaid : Prop := fnExactRunSwitchesUptoRow.holds Try.pinned (OpenSpec.upto fnExactRunSwitchesSpec)

/-- 'laws.FnExactSplitParts', WHERE WHAT IT READS IS OF BULK AT MOST 1048576: true; the input reads as it did. -/
def fnExactSplitPartsUptoRow : OpenClaim := { program := "ytmhcaeaomjegmaa", sum := "5a06434935a1788ec3562f85d1a90c196f5d2c6dfe7c6bccdc98e7827397d2f8", func := "loop.example/degreeswaps/laws.FnExactSplitParts", spec := "fnExactSplitParts", unfollowed := true, recurses := true, apart := false, narrowed := true }
def FnExactSplitPartsUptoSaid : Prop := fnExactSplitPartsUptoRow.holds Try.pinned (OpenSpec.upto fnExactSplitPartsSpec)

end Rows
end Go.Proofs.Ytmhcaeaomjegmaa
