/-
  No cell of these rows narrows 'for every input' (looked for: loops, veiled, ifaces, maps, wideKeys, modest, calm, conditions, laid).
  DERIVED. THE GIVEN ROWS OF THIS SEAT. 3 by the template 'for every input the law returns true; each argument reads behind the call as it read before'; 0 by the template 'total and deterministic' (their statements: YtgcdgdmpdbhdhaaTotals.lean).
  GIVEN WITH THE SEED: the statements are not yours to turn. If you find one false, say at which input.
  Laid BY PROGRAM, IN A SANDBOX (cutbox-rows.mjs): the forced cells as the released guide's own fill.sh prints them over the translation ac05c26284e472df… (all of the seat's roots in one cut). By AI agents, Wed Nov 11 2026. No macro, syntax, notation, axiom, sorry.
-/
import Derived.Test.YtgcdgdmpdbhdhaaChecked
import GoSem.Claim
import GoSem.ClaimJoined
import GoSem.ClaimMapViews
import Derived.JoinedTies
import Derived.KernelRfl
namespace Go.Proofs.Ytgcdgdmpdbhdhaa
/- THE CELL 'sum', in the pinned program and in every row, IS THE sha256 OF THE DUMP (.gsa) THAT YtgcdgdmpdbhdhaaProg.lean LOADS. Nothing in Lean hashes anything: it is a label: what it is worth is what the hold of that sum in a sandbox is worth. -/
noncomputable def Try.pinned : Pinned := { name := "ytgcdgdmpdbhdhaa", sum := "ac05c26284e472df906041b3eeb40b33c396be030df5278f9030f51efd609498", checked := Try.checked }
namespace Rows
def none {H : Type} : Left H := { results := [], args := [] }

/-- 'laws.FnRunSwitches': WHATEVER THE INPUT: true; the input reads as it did. -/
def fnRunSwitchesSpec : ChangeSpec := { name := "fnRunSwitches", fn := fun _ => fun
  | [d] => { results := [.lit (.bool true)], args := [d] }
  | _ => none }
def fnRunSwitchesRow : OpenClaim := { program := "ytgcdgdmpdbhdhaa", sum := "ac05c26284e472df906041b3eeb40b33c396be030df5278f9030f51efd609498", func := "loop.example/degreeswaps/laws.FnRunSwitches", spec := "fnRunSwitches", unfollowed := true, recurses := true, apart := false }
def FnRunSwitchesSaid : Prop := fnRunSwitchesRow.holds Try.pinned (OpenSpec.ofChange fnRunSwitchesSpec)

/-- ITS FALSE NEIGHBOUR: 'it returns false'. Refute it at one input. -/
def fnRunSwitchesWrong : ChangeSpec := { name := "fnRunSwitches", fn := fun _ => fun
  | [d] => { results := [.lit (.bool false)], args := [d] }
  | _ => none }
def FnRunSwitchesWrongFalsely : Prop := fnRunSwitchesRow.holds Try.pinned (OpenSpec.ofChange fnRunSwitchesWrong)

/-- 'laws.FnLayOff': WHATEVER THE INPUT: true; the input reads as it did. -/
def fnLayOffSpec : ChangeSpec := { name := "fnLayOff", fn := fun _ => fun
  | [d] => { results := [.lit (.bool true)], args := [d] }
  | _ => none }
def fnLayOffRow : OpenClaim := { program := "ytgcdgdmpdbhdhaa", sum := "ac05c26284e472df906041b3eeb40b33c396be030df5278f9030f51efd609498", func := "loop.example/degreeswaps/laws.FnLayOff", spec := "fnLayOff", unfollowed := true, recurses := true, apart := false }
def FnLayOffSaid : Prop := fnLayOffRow.holds Try.pinned (OpenSpec.ofChange fnLayOffSpec)

/-- ITS FALSE NEIGHBOUR: 'it returns false'. Refute it at one input. -/
def fnLayOffWrong : ChangeSpec := { name := "fnLayOff", fn := fun _ => fun
  | [d] => { results := [.lit (.bool false)], args := [d] }
  | _ => none }
def FnLayOffWrongFalsely : Prop := fnLayOffRow.holds Try.pinned (OpenSpec.ofChange fnLayOffWrong)

/-- 'laws.FnIsGraphicLayOff': WHATEVER THE INPUT: true; the input reads as it did. -/
def fnIsGraphicLayOffSpec : ChangeSpec := { name := "fnIsGraphicLayOff", fn := fun _ => fun
  | [d] => { results := [.lit (.bool true)], args := [d] }
  | _ => none }
def fnIsGraphicLayOffRow : OpenClaim := { program := "ytgcdgdmpdbhdhaa", sum := "ac05c26284e472df906041b3eeb40b33c396be030df5278f9030f51efd609498", func := "loop.example/degreeswaps/laws.FnIsGraphicLayOff", spec := "fnIsGraphicLayOff", unfollowed := true, recurses := true, apart := false }
def FnIsGraphicLayOffSaid : Prop := fnIsGraphicLayOffRow.holds Try.pinned (OpenSpec.ofChange fnIsGraphicLayOffSpec)

/-- ITS FALSE NEIGHBOUR: 'it returns false'. Refute it at one input. -/
def fnIsGraphicLayOffWrong : ChangeSpec := { name := "fnIsGraphicLayOff", fn := fun _ => fun
  | [d] => { results := [.lit (.bool false)], args := [d] }
  | _ => none }
def FnIsGraphicLayOffWrongFalsely : Prop := fnIsGraphicLayOffRow.holds Try.pinned (OpenSpec.ofChange fnIsGraphicLayOffWrong)

/- THE SECOND FORM. 'bulk': how many values and letters a reading holds, each counted each time it is reached (what is shared counts as often as it is met; a slice's spare places count too). A statement '..UptoSaid' is the law's where the arguments, and the package variables that the reading takes, are together of bulk at most 1048576: NARROWER than '..Said'. Prove '..Said' where nothing that the law and all that it calls make is longer than what came in: it says more and counts as full. Else prove '..UptoSaid'. A law counts once. -/
mutual
def uptoBulk {H : Type} : DataW H → Nat
  | .lit (.string bytes) => bytes.length + 1
  | .lit _ => 1
  | .nil => 1
  | .ptr d => uptoBulk d + 1
  | .slice elems spare => uptoBulkAll elems + uptoBulkAll spare + 1
  | .agg parts => uptoBulkAll parts + 1
  | .iface _ d => uptoBulk d + 1
  | .map entries => uptoBulkEntries entries + 1
  | .held _ => 1
def uptoBulkAll {H : Type} : List (DataW H) → Nat
  | [] => 0
  | d :: r => uptoBulk d + uptoBulkAll r
def uptoBulkEntries {H : Type} : List (Lit × DataW H) → Nat
  | [] => 0
  | x :: r => uptoBulkEntry x + uptoBulkEntries r
def uptoBulkEntry {H : Type} : Lit × DataW H → Nat
  | (.string bytes, d) => bytes.length + uptoBulk d + 1
  | (_, d) => uptoBulk d + 1
 end
def uptoSmall : (H : Type) → List (DataW H) → Bool := fun _ ds => decide (uptoBulkAll ds ≤ 1048576)
def OpenSpec.upto (s : _root_.Go.ChangeSpec) : _root_.Go.OpenSpec := { _root_.Go.OpenSpec.ofChange s with cond := some uptoSmall }

/-- 'laws.FnRunSwitches', WHERE WHAT IT READS IS OF BULK AT MOST 1048576: true; the input reads as it did. -/
def fnRunSwitchesUptoRow : OpenClaim := { program := "ytgcdgdmpdbhdhaa", sum := "ac05c26284e472df906041b3eeb40b33c396be030df5278f9030f51efd609498", func := "loop.example/degreeswaps/laws.FnRunSwitches", spec := "fnRunSwitches", unfollowed := true, recurses := true, apart := false, narrowed := true }
def FnRunSwitchesUptoSaid : Prop := fnRunSwitchesUptoRow.holds Try.pinned (OpenSpec.upto fnRunSwitchesSpec)

/-- 'laws.FnLayOff', WHERE WHAT IT READS IS OF BULK AT MOST 1048576: true; the input reads as it did. -/
def fnLayOffUptoRow : OpenClaim := { program := "ytgcdgdmpdbhdhaa", sum := "ac05c26284e472df906041b3eeb40b33c396be030df5278f9030f51efd609498", func := "loop.example/degreeswaps/laws.FnLayOff", spec := "fnLayOff", unfollowed := true, recurses := true, apart := false, narrowed := true }
def FnLayOffUptoSaid : Prop := fnLayOffUptoRow.holds Try.pinned (OpenSpec.upto fnLayOffSpec)

/-- 'laws.FnIsGraphicLayOff', WHERE WHAT IT READS IS OF BULK AT MOST 1048576: true; the input reads as it did. -/
def fnIsGraphicLayOffUptoRow : OpenClaim := { program := "ytgcdgdmpdbhdhaa", sum := "ac05c26284e472df906041b3eeb40b33c396be030df5278f9030f51efd609498", func := "loop.example/degreeswaps/laws.FnIsGraphicLayOff", spec := "fnIsGraphicLayOff", unfollowed := true, recurses := true, apart := false, narrowed := true }
def FnIsGraphicLayOffUptoSaid : Prop := fnIsGraphicLayOffUptoRow.holds Try.pinned (OpenSpec.upto fnIsGraphicLayOffSpec)

end Rows
end Go.Proofs.Ytgcdgdmpdbhdhaa
