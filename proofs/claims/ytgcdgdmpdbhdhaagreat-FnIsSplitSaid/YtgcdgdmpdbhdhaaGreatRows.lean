/-
  No cell of these rows narrows 'for every input' (looked for: loops, veiled, ifaces, maps, wideKeys, modest, calm, conditions, laid).
  DERIVED. THE GIVEN ROWS OF THIS SEAT. 3 by the template 'for every input the law returns true; each argument reads behind the call as it read before'; 0 by the template 'total and deterministic' (their statements: YtgcdgdmpdbhdhaaGreatTotals.lean).
  GIVEN WITH THE SEED: the statements are not yours to turn. If you find one false, say at which input.
  Laid BY PROGRAM, IN A SANDBOX (cutbox-rows.mjs): the forced cells as the released guide's own fill.sh prints them over the translation a360b27e766b17dc… (all of the seat's roots in one cut). By AI agents, Wed Nov 11 2026. No macro, syntax, notation, axiom, sorry.
-/
import Derived.Test.YtgcdgdmpdbhdhaaGreatChecked
import GoSem.Claim
import GoSem.ClaimJoined
import GoSem.ClaimMapViews
import Derived.JoinedTies
import Derived.KernelRfl
namespace Go.Proofs.YtgcdgdmpdbhdhaaGreat
/- THE CELL 'sum', in the pinned program and in every row, IS THE sha256 OF THE DUMP (.gsa) THAT YtgcdgdmpdbhdhaaGreatProg.lean LOADS. Nothing in Lean hashes anything: it is a label: what it is worth is what the hold of that sum in a sandbox is worth. -/
noncomputable def Tryz.pinned : Pinned := { name := "ytgcdgdmpdbhdhaagreat", sum := "a360b27e766b17dc88560bc8495499d47257de9fcb5a74e3070cb3133e757322", checked := Tryz.checked }
namespace Rows
def none {H : Type} : Left H := { results := [], args := [] }

/-- 'laws.FnIsConnectable': WHATEVER THE INPUT: true; the input reads as it did. -/
def fnIsConnectableSpec : ChangeSpec := { name := "fnIsConnectable", fn := fun _ => fun
  | [d] => { results := [.lit (.bool true)], args := [d] }
  | _ => none }
def fnIsConnectableRow : OpenClaim := { program := "ytgcdgdmpdbhdhaagreat", sum := "a360b27e766b17dc88560bc8495499d47257de9fcb5a74e3070cb3133e757322", func := "loop.example/degreeswaps/laws.FnIsConnectable", spec := "fnIsConnectable", unfollowed := true, recurses := true, apart := false }
def FnIsConnectableSaid : Prop := fnIsConnectableRow.holds Tryz.pinned (OpenSpec.ofChange fnIsConnectableSpec)

/-- ITS FALSE NEIGHBOUR: 'it returns false'. Refute it at one input. -/
def fnIsConnectableWrong : ChangeSpec := { name := "fnIsConnectable", fn := fun _ => fun
  | [d] => { results := [.lit (.bool false)], args := [d] }
  | _ => none }
def FnIsConnectableWrongFalsely : Prop := fnIsConnectableRow.holds Tryz.pinned (OpenSpec.ofChange fnIsConnectableWrong)

/-- 'laws.FnConnectGraph': WHATEVER THE INPUT: true; the input reads as it did. -/
def fnConnectGraphSpec : ChangeSpec := { name := "fnConnectGraph", fn := fun _ => fun
  | [d] => { results := [.lit (.bool true)], args := [d] }
  | _ => none }
def fnConnectGraphRow : OpenClaim := { program := "ytgcdgdmpdbhdhaagreat", sum := "a360b27e766b17dc88560bc8495499d47257de9fcb5a74e3070cb3133e757322", func := "loop.example/degreeswaps/laws.FnConnectGraph", spec := "fnConnectGraph", unfollowed := true, recurses := true, apart := false }
def FnConnectGraphSaid : Prop := fnConnectGraphRow.holds Tryz.pinned (OpenSpec.ofChange fnConnectGraphSpec)

/-- ITS FALSE NEIGHBOUR: 'it returns false'. Refute it at one input. -/
def fnConnectGraphWrong : ChangeSpec := { name := "fnConnectGraph", fn := fun _ => fun
  | [d] => { results := [.lit (.bool false)], args := [d] }
  | _ => none }
def FnConnectGraphWrongFalsely : Prop := fnConnectGraphRow.holds Tryz.pinned (OpenSpec.ofChange fnConnectGraphWrong)

/-- 'laws.FnIsSplit': WHATEVER THE INPUT: true; the input reads as it did. -/
def fnIsSplitSpec : ChangeSpec := { name := "fnIsSplit", fn := fun _ => fun
  | [d] => { results := [.lit (.bool true)], args := [d] }
  | _ => none }
def fnIsSplitRow : OpenClaim := { program := "ytgcdgdmpdbhdhaagreat", sum := "a360b27e766b17dc88560bc8495499d47257de9fcb5a74e3070cb3133e757322", func := "loop.example/degreeswaps/laws.FnIsSplit", spec := "fnIsSplit", unfollowed := true, recurses := true, apart := false }
def FnIsSplitSaid : Prop := fnIsSplitRow.holds Tryz.pinned (OpenSpec.ofChange fnIsSplitSpec)

/-- ITS FALSE NEIGHBOUR: 'it returns false'. Refute it at one input. -/
def fnIsSplitWrong : ChangeSpec := { name := "fnIsSplit", fn := fun _ => fun
  | [d] => { results := [.lit (.bool false)], args := [d] }
  | _ => none }
def FnIsSplitWrongFalsely : Prop := fnIsSplitRow.holds Tryz.pinned (OpenSpec.ofChange fnIsSplitWrong)

/- THE SECOND FORM. 'bulk': how many values and letters a reading holds, each counted each time it is reached (what is shared counts as often as it is met; a slice's spare places count too). A statement '..UptoSaid' is the law's where the arguments, and the package variables that the reading takes, are together of bulk at most 1048576: NARROWER than '..Said'. Prove '..Said' where nothing that the law and all that it calls make is longer than what came in: it says more and counts as full. Else prove '..UptoSaid'. A law counts once. -/
mutual
def uptoBulk {H : Type} : DataW H → Nat
  | .lit (.string bytes) => bytes.length + 1
  | .lit _ => 1
  | .nil => 1
  | .ptr d => uptoBulk d + 1
  | .slice elems spare => uptoBulkAll elems + uptoBulkAll spare + 1
  | .agg parts => uptoBulkAll parts + 1
  | .iface _ d => uptoBulk d + 1
  | .map entries => uptoBulkEntries entries + 1
  | .held _ => 1
def uptoBulkAll {H : Type} : List (DataW H) → Nat
  | [] => 0
  | d :: r => uptoBulk d + uptoBulkAll r
def uptoBulkEntries {H : Type} : List (Lit × DataW H) → Nat
  | [] => 0
  | x :: r => uptoBulkEntry x + uptoBulkEntries r
def uptoBulkEntry {H : Type} : Lit × DataW H → Nat
  | (.string bytes, d) => bytes.length + uptoBulk d + 1
  | (_, d) => uptoBulk d + 1
 end
def uptoSmall : (H : Type) → List (DataW H) → Bool := fun _ ds => decide (uptoBulkAll ds ≤ 1048576)
def OpenSpec.upto (s : _root_.Go.ChangeSpec) : _root_.Go.OpenSpec := { _root_.Go.OpenSpec.ofChange s with cond := some uptoSmall }

/-- 'laws.FnIsConnectable', WHERE WHAT IT READS IS OF BULK AT MOST 1048576: true; the input reads as it did. -/
def fnIsConnectableUptoRow : OpenClaim := { program := "ytgcdgdmpdbhdhaagreat", sum := "a360b27e766b17dc88560bc8495499d47257de9fcb5a74e3070cb3133e757322", func := "loop.example/degreeswaps/laws.FnIsConnectable", spec := "fnIsConnectable", unfollowed := true, recurses := true, apart := false, narrowed := true }
def FnIsConnectableUptoSaid : Prop := fnIsConnectableUptoRow.holds Tryz.pinned (OpenSpec.upto fnIsConnectableSpec)

/-- 'laws.FnConnectGraph', WHERE WHAT IT READS IS OF BULK AT MOST 1048576: true; the input reads as it did. -/
def fnConnectGraphUptoRow : OpenClaim := { program := "ytgcdgdmpdbhdhaagreat", sum := "a360b27e766b17dc88560bc8495499d47257de9fcb5a74e3070cb3133e757322", func := "loop.example/degreeswaps/laws.FnConnectGraph", spec := "fnConnectGraph", unfollowed := true, recurses := true, apart := false, narrowed := true }
def FnConnectGraphUptoSaid : Prop := fnConnectGraphUptoRow.holds Tryz.pinned (OpenSpec.upto fnConnectGraphSpec)

/-- 'laws.FnIsSplit', WHERE WHAT IT READS IS OF BULK AT MOST 1048576: true; the input reads as it did. -/
def fnIsSplitUptoRow : OpenClaim := { program := "ytgcdgdmpdbhdhaagreat", sum := "a360b27e766b17dc88560bc8495499d47257de9fcb5a74e3070cb3133e757322", func := "loop.example/degreeswaps/laws.FnIsSplit", spec := "fnIsSplit", unfollowed := true, recurses := true, apart := false, narrowed := true }
def FnIsSplitUptoSaid : Prop := fnIsSplitUptoRow.holds Tryz.pinned (OpenSpec.upto fnIsSplitSpec)

end Rows
end Go.Proofs.YtgcdgdmpdbhdhaaGreat
