/-
  No cell of these rows narrows 'for every input' (looked for: loops, veiled, ifaces, maps, wideKeys, modest, calm, conditions, laid).
  DERIVED. THE GIVEN ROWS OF THIS SEAT. 6 by the template 'for every input the law returns true; each argument reads behind the call as it read before'; 0 by the template 'total and deterministic' (their statements: YtlbldcibnhgekaaTotals.lean).
  GIVEN WITH THE SEED: the statements are not yours to turn. If you find one false, say at which input.
  Laid BY PROGRAM, IN A SANDBOX (cutbox-rows.mjs): the forced cells as the released guide's own fill.sh prints them over the translation 54ad0acf558849a6… (all of the seat's roots in one cut). By AI agents, Wed Nov 11 2026. No macro, syntax, notation, axiom, sorry.
-/
import Derived.Test.YtlbldcibnhgekaaChecked
import GoSem.Claim
import GoSem.ClaimJoined
import GoSem.ClaimMapViews
import Derived.JoinedTies
import Derived.KernelRfl
namespace Go.Proofs.Ytlbldcibnhgekaa
/- THE CELL 'sum', in the pinned program and in every row, IS THE sha256 OF THE DUMP (.gsa) THAT YtlbldcibnhgekaaProg.lean LOADS. Nothing in Lean hashes anything: it is a label: what it is worth is what the hold of that sum in a sandbox is worth. -/
noncomputable def Try.pinned : Pinned := { name := "ytlbldcibnhgekaa", sum := "54ad0acf558849a6ec14ced94919203ee9d32cb809d10be19b056c89ad157107", checked := Try.checked }
namespace Rows
def none {H : Type} : Left H := { results := [], args := [] }

/-- 'laws.FnTransfer': WHATEVER THE INPUT: true; the input reads as it did. -/
def fnTransferSpec : ChangeSpec := { name := "fnTransfer", fn := fun _ => fun
  | [d] => { results := [.lit (.bool true)], args := [d] }
  | _ => none }
def fnTransferRow : OpenClaim := { program := "ytlbldcibnhgekaa", sum := "54ad0acf558849a6ec14ced94919203ee9d32cb809d10be19b056c89ad157107", func := "loop.example/degreeswaps/laws.FnTransfer", spec := "fnTransfer", unfollowed := true, recurses := true, plainKeys := false, apart := false }
def FnTransferSaid : Prop := fnTransferRow.holds Try.pinned (OpenSpec.ofChange fnTransferSpec)

/-- ITS FALSE NEIGHBOUR: 'it returns false'. Refute it at one input. -/
def fnTransferWrong : ChangeSpec := { name := "fnTransfer", fn := fun _ => fun
  | [d] => { results := [.lit (.bool false)], args := [d] }
  | _ => none }
def FnTransferWrongFalsely : Prop := fnTransferRow.holds Try.pinned (OpenSpec.ofChange fnTransferWrong)

/-- 'laws.FnExactJointOf': WHATEVER THE INPUT: true; the input reads as it did. -/
def fnExactJointOfSpec : ChangeSpec := { name := "fnExactJointOf", fn := fun _ => fun
  | [d] => { results := [.lit (.bool true)], args := [d] }
  | _ => none }
def fnExactJointOfRow : OpenClaim := { program := "ytlbldcibnhgekaa", sum := "54ad0acf558849a6ec14ced94919203ee9d32cb809d10be19b056c89ad157107", func := "loop.example/degreeswaps/laws.FnExactJointOf", spec := "fnExactJointOf", unfollowed := true, recurses := true, plainKeys := false, apart := false }
def FnExactJointOfSaid : Prop := fnExactJointOfRow.holds Try.pinned (OpenSpec.ofChange fnExactJointOfSpec)

/-- ITS FALSE NEIGHBOUR: 'it returns false'. Refute it at one input. -/
def fnExactJointOfWrong : ChangeSpec := { name := "fnExactJointOf", fn := fun _ => fun
  | [d] => { results := [.lit (.bool false)], args := [d] }
  | _ => none }
def FnExactJointOfWrongFalsely : Prop := fnExactJointOfRow.holds Try.pinned (OpenSpec.ofChange fnExactJointOfWrong)

/-- 'laws.FnIsStrong': WHATEVER THE INPUT: true; the input reads as it did. -/
def fnIsStrongSpec : ChangeSpec := { name := "fnIsStrong", fn := fun _ => fun
  | [d] => { results := [.lit (.bool true)], args := [d] }
  | _ => none }
def fnIsStrongRow : OpenClaim := { program := "ytlbldcibnhgekaa", sum := "54ad0acf558849a6ec14ced94919203ee9d32cb809d10be19b056c89ad157107", func := "loop.example/degreeswaps/laws.FnIsStrong", spec := "fnIsStrong", unfollowed := true, recurses := true, plainKeys := false, apart := false }
def FnIsStrongSaid : Prop := fnIsStrongRow.holds Try.pinned (OpenSpec.ofChange fnIsStrongSpec)

/-- ITS FALSE NEIGHBOUR: 'it returns false'. Refute it at one input. -/
def fnIsStrongWrong : ChangeSpec := { name := "fnIsStrong", fn := fun _ => fun
  | [d] => { results := [.lit (.bool false)], args := [d] }
  | _ => none }
def FnIsStrongWrongFalsely : Prop := fnIsStrongRow.holds Try.pinned (OpenSpec.ofChange fnIsStrongWrong)

/-- 'laws.FnSlacksOf': WHATEVER THE INPUT: true; the input reads as it did. -/
def fnSlacksOfSpec : ChangeSpec := { name := "fnSlacksOf", fn := fun _ => fun
  | [d] => { results := [.lit (.bool true)], args := [d] }
  | _ => none }
def fnSlacksOfRow : OpenClaim := { program := "ytlbldcibnhgekaa", sum := "54ad0acf558849a6ec14ced94919203ee9d32cb809d10be19b056c89ad157107", func := "loop.example/degreeswaps/laws.FnSlacksOf", spec := "fnSlacksOf", unfollowed := true, recurses := true, plainKeys := false, apart := false }
def FnSlacksOfSaid : Prop := fnSlacksOfRow.holds Try.pinned (OpenSpec.ofChange fnSlacksOfSpec)

/-- ITS FALSE NEIGHBOUR: 'it returns false'. Refute it at one input. -/
def fnSlacksOfWrong : ChangeSpec := { name := "fnSlacksOf", fn := fun _ => fun
  | [d] => { results := [.lit (.bool false)], args := [d] }
  | _ => none }
def FnSlacksOfWrongFalsely : Prop := fnSlacksOfRow.holds Try.pinned (OpenSpec.ofChange fnSlacksOfWrong)

/-- 'laws.FnMajorizes': WHATEVER THE INPUT: true; the input reads as it did. -/
def fnMajorizesSpec : ChangeSpec := { name := "fnMajorizes", fn := fun _ => fun
  | [d] => { results := [.lit (.bool true)], args := [d] }
  | _ => none }
def fnMajorizesRow : OpenClaim := { program := "ytlbldcibnhgekaa", sum := "54ad0acf558849a6ec14ced94919203ee9d32cb809d10be19b056c89ad157107", func := "loop.example/degreeswaps/laws.FnMajorizes", spec := "fnMajorizes", unfollowed := true, recurses := true, plainKeys := false, apart := false }
def FnMajorizesSaid : Prop := fnMajorizesRow.holds Try.pinned (OpenSpec.ofChange fnMajorizesSpec)

/-- ITS FALSE NEIGHBOUR: 'it returns false'. Refute it at one input. -/
def fnMajorizesWrong : ChangeSpec := { name := "fnMajorizes", fn := fun _ => fun
  | [d] => { results := [.lit (.bool false)], args := [d] }
  | _ => none }
def FnMajorizesWrongFalsely : Prop := fnMajorizesRow.holds Try.pinned (OpenSpec.ofChange fnMajorizesWrong)

/-- 'laws.FnTurnTriangle': WHATEVER THE INPUT: true; the input reads as it did. -/
def fnTurnTriangleSpec : ChangeSpec := { name := "fnTurnTriangle", fn := fun _ => fun
  | [d] => { results := [.lit (.bool true)], args := [d] }
  | _ => none }
def fnTurnTriangleRow : OpenClaim := { program := "ytlbldcibnhgekaa", sum := "54ad0acf558849a6ec14ced94919203ee9d32cb809d10be19b056c89ad157107", func := "loop.example/degreeswaps/laws.FnTurnTriangle", spec := "fnTurnTriangle", unfollowed := true, recurses := true, plainKeys := false, apart := false }
def FnTurnTriangleSaid : Prop := fnTurnTriangleRow.holds Try.pinned (OpenSpec.ofChange fnTurnTriangleSpec)

/-- ITS FALSE NEIGHBOUR: 'it returns false'. Refute it at one input. -/
def fnTurnTriangleWrong : ChangeSpec := { name := "fnTurnTriangle", fn := fun _ => fun
  | [d] => { results := [.lit (.bool false)], args := [d] }
  | _ => none }
def FnTurnTriangleWrongFalsely : Prop := fnTurnTriangleRow.holds Try.pinned (OpenSpec.ofChange fnTurnTriangleWrong)

/- THE SECOND FORM. 'bulk': how many values and letters a reading holds, each counted each time it is reached (what is shared counts as often as it is met; a slice's spare places count too). A statement '..UptoSaid' is the law's where the arguments, and the package variables that the reading takes, are together of bulk at most 1048576: NARROWER than '..Said'. Prove '..Said' where nothing that the law and all that it calls make is longer than what came in: it says more and counts as full. Else prove '..UptoSaid'. A law counts once. -/
mutual
def uptoBulk {H : Type} : DataW H → Nat
  | .lit (.string bytes) => bytes.length + 1
  | .lit _ => 1
  | .nil => 1
  | .ptr d => uptoBulk d + 1
  | .slice elems spare => uptoBulkAll elems + uptoBulkAll spare + 1
  | .agg parts => uptoBulkAll parts + 1
  | .iface _ d => uptoBulk d + 1
  | .map entries => uptoBulkEntries entries + 1
  | .held _ => 1
def uptoBulkAll {H : Type} : List (DataW H) → Nat
  | [] => 0
  | d :: r => uptoBulk d + uptoBulkAll r
def uptoBulkEntries {H : Type} : List (Lit × DataW H) → Nat
  | [] => 0
  | x :: r => uptoBulkEntry x + uptoBulkEntries r
def uptoBulkEntry {H : Type} : Lit × DataW H → Nat
  | (.string bytes, d) => bytes.length + uptoBulk d + 1
  | (_, d) => uptoBulk d + 1
 end
def uptoSmall : (H : Type) → List (DataW H) → Bool := fun _ ds => decide (uptoBulkAll ds ≤ 1048576)
def OpenSpec.upto (s : _root_.Go.ChangeSpec) : _root_.Go.OpenSpec := { _root_.Go.OpenSpec.ofChange s with cond := some uptoSmall }

/-- 'laws.FnTransfer', WHERE WHAT IT READS IS OF BULK AT MOST 1048576: true; the input reads as it did. -/
def fnTransferUptoRow : OpenClaim := { program := "ytlbldcibnhgekaa", sum := "54ad0acf558849a6ec14ced94919203ee9d32cb809d10be19b056c89ad157107", func := "loop.example/degreeswaps/laws.FnTransfer", spec := "fnTransfer", unfollowed := true, recurses := true, plainKeys := false, apart := false, narrowed := true }
def FnTransferUptoSaid : Prop := fnTransferUptoRow.holds Try.pinned (OpenSpec.upto fnTransferSpec)

/-- 'laws.FnExactJointOf', WHERE WHAT IT READS IS OF BULK AT MOST 1048576: true; the input reads as it did. -/
def fnExactJointOfUptoRow : OpenClaim := { program := "ytlbldcibnhgekaa", sum := "54ad0acf558849a6ec14ced94919203ee9d32cb809d10be19b056c89ad157107", func := "loop.example/degreeswaps/laws.FnExactJointOf", spec := "fnExactJointOf", unfollowed := true, recurses := true, plainKeys := false, apart := false, narrowed := true }
def FnExactJointOfUptoSaid : Prop := fnExactJointOfUptoRow.holds Try.pinned (OpenSpec.upto fnExactJointOfSpec)

/-- 'laws.FnIsStrong', WHERE WHAT IT READS IS OF BULK AT MOST 1048576: true; the input reads as it did. -/
def fnIsStrongUptoRow : OpenClaim := { program := "ytlbldcibnhgekaa", sum := "54ad0acf558849a6ec14ced94919203ee9d32cb809d10be19b056c89ad157107", func := "loop.example/degreeswaps/laws.FnIsStrong", spec := "fnIsStrong", unfollowed := true, recurses := true, plainKeys := false, apart := false, narrowed := true }
def FnIsStrongUptoSaid : Prop := fnIsStrongUptoRow.holds Try.pinned (OpenSpec.upto fnIsStrongSpec)

/-- 'laws.FnSlacksOf', WHERE WHAT IT READS IS OF BULK AT MOST 1048576: true; the input reads as it did. -/
def fnSlacksOfUptoRow : OpenClaim := { program := "ytlbldcibnhgekaa", sum := "54ad0acf558849a6ec14ced94919203ee9d32cb809d10be19b056c89ad157107", func := "loop.example/degreeswaps/laws.FnSlacksOf", spec := "fnSlacksOf", unfollowed := true, recurses := true, plainKeys := false, apart := false, narrowed := true }
def FnSlacksOfUptoSaid : Prop := fnSlacksOfUptoRow.holds Try.pinned (OpenSpec.upto fnSlacksOfSpec)

/-- 'laws.FnMajorizes', WHERE WHAT IT READS IS OF BULK AT MOST 1048576: true; the input reads as it did. -/
def fnMajorizesUptoRow : OpenClaim := { program := "ytlbldcibnhgekaa", sum := "54ad0acf558849a6ec14ced94919203ee9d32cb809d10be19b056c89ad157107", func := "loop.example/degreeswaps/laws.FnMajorizes", spec := "fnMajorizes", unfollowed := true, recurses := true, plainKeys := false, apart := false, narrowed := true }
def FnMajorizesUptoSaid : Prop := fnMajorizesUptoRow.holds Try.pinned (OpenSpec.upto fnMajorizesSpec)

/-- 'laws.FnTurnTriangle', WHERE WHAT IT READS IS OF BULK AT MOST 1048576: true; the input reads as it did. -/
def fnTurnTriangleUptoRow : OpenClaim := { program := "ytlbldcibnhgekaa", sum := "54ad0acf558849a6ec14ced94919203ee9d32cb809d10be19b056c89ad157107", func := "loop.example/degreeswaps/laws.FnTurnTriangle", spec := "fnTurnTriangle", unfollowed := true, recurses := true, plainKeys := false, apart := false, narrowed := true }
def FnTurnTriangleUptoSaid : Prop := fnTurnTriangleUptoRow.holds Try.pinned (OpenSpec.upto fnTurnTriangleSpec)

end Rows
end Go.Proofs.Ytlbldcibnhgekaa
