/-
  No cell of these rows narrows 'for every input' (looked for: loops, veiled, ifaces, maps, wideKeys, modest, calm, conditions, laid).
  DERIVED. THE GIVEN ROWS OF THIS SEAT. 5 by the template 'for every input the law returns true; each argument reads behind the call as it read before'; 0 by the template 'total and deterministic' (their statements: YtfheodjhbaaalaaTotals.lean).
  GIVEN WITH THE SEED: the statements are not yours to turn. If you find one false, say at which input.
  Laid BY PROGRAM, IN A SANDBOX (cutbox-rows.mjs): the forced cells as the released guide's own fill.sh prints them over the translation bcac2ebfe2f8d63a… (all of the seat's roots in one cut). By AI agents, Wed Nov 11 2026. No macro, syntax, notation, axiom, sorry.
-/
import Derived.Test.YtfheodjhbaaalaaChecked
import GoSem.Claim
import GoSem.ClaimJoined
import GoSem.ClaimMapViews
import Derived.JoinedTies
import Derived.KernelRfl
namespace Go.Proofs.Ytfheodjhbaaalaa
/- THE CELL 'sum', in the pinned program and in every row, IS THE sha256 OF THE DUMP (.gsa) THAT YtfheodjhbaaalaaProg.lean LOADS. Nothing in Lean hashes anything: it is a label: what it is worth is what the hold of that sum in a sandbox is worth. -/
noncomputable def Try.pinned : Pinned := { name := "ytfheodjhbaaalaa", sum := "bcac2ebfe2f8d63a2ac63c950ec6a91bc31a8e8c295ff398226c0778c3a7d2d6", checked := Try.checked }
namespace Rows
def none {H : Type} : Left H := { results := [], args := [] }

/-- 'laws.FnAllMatrices': WHATEVER THE INPUT: true; the input reads as it did. -/
def fnAllMatricesSpec : ChangeSpec := { name := "fnAllMatrices", fn := fun _ => fun
  | [d] => { results := [.lit (.bool true)], args := [d] }
  | _ => none }
def fnAllMatricesRow : OpenClaim := { program := "ytfheodjhbaaalaa", sum := "bcac2ebfe2f8d63a2ac63c950ec6a91bc31a8e8c295ff398226c0778c3a7d2d6", func := "loop.example/degreeswaps/laws.FnAllMatrices", spec := "fnAllMatrices", unfollowed := true, recurses := true, apart := false }
def FnAllMatricesSaid : Prop := fnAllMatricesRow.holds Try.pinned (OpenSpec.ofChange fnAllMatricesSpec)

/-- ITS FALSE NEIGHBOUR: 'it returns false'. Refute it at one input. -/
def fnAllMatricesWrong : ChangeSpec := { name := "fnAllMatrices", fn := fun _ => fun
  | [d] => { results := [.lit (.bool false)], args := [d] }
  | _ => none }
def FnAllMatricesWrongFalsely : Prop := fnAllMatricesRow.holds Try.pinned (OpenSpec.ofChange fnAllMatricesWrong)

/-- 'laws.FnExactConnectGraph': WHATEVER THE INPUT: true; the input reads as it did. -/
def fnExactConnectGraphSpec : ChangeSpec := { name := "fnExactConnectGraph", fn := fun _ => fun
  | [d] => { results := [.lit (.bool true)], args := [d] }
  | _ => none }
def fnExactConnectGraphRow : OpenClaim := { program := "ytfheodjhbaaalaa", sum := "bcac2ebfe2f8d63a2ac63c950ec6a91bc31a8e8c295ff398226c0778c3a7d2d6", func := "loop.example/degreeswaps/laws.FnExactConnectGraph", spec := "fnExactConnectGraph", unfollowed := true, recurses := true, apart := false }
def FnExactConnectGraphSaid : Prop := fnExactConnectGraphRow.holds Try.pinned (OpenSpec.ofChange fnExactConnectGraphSpec)

/-- ITS FALSE NEIGHBOUR: 'it returns false'. Refute it at one input. -/
def fnExactConnectGraphWrong : ChangeSpec := { name := "fnExactConnectGraph", fn := fun _ => fun
  | [d] => { results := [.lit (.bool false)], args := [d] }
  | _ => none }
def FnExactConnectGraphWrongFalsely : Prop := fnExactConnectGraphRow.holds Try.pinned (OpenSpec.ofChange fnExactConnectGraphWrong)

/-- 'laws.FnSwitchPath': WHATEVER THE INPUT: true; the input reads as it did. -/
def fnSwitchPathSpec : ChangeSpec := { name := "fnSwitchPath", fn := fun _ => fun
  | [d] => { results := [.lit (.bool true)], args := [d] }
  | _ => none }
def fnSwitchPathRow : OpenClaim := { program := "ytfheodjhbaaalaa", sum := "bcac2ebfe2f8d63a2ac63c950ec6a91bc31a8e8c295ff398226c0778c3a7d2d6", func := "loop.example/degreeswaps/laws.FnSwitchPath", spec := "fnSwitchPath", unfollowed := true, recurses := true, apart := false }
def FnSwitchPathSaid : Prop := fnSwitchPathRow.holds Try.pinned (OpenSpec.ofChange fnSwitchPathSpec)

/-- ITS FALSE NEIGHBOUR: 'it returns false'. Refute it at one input. -/
def fnSwitchPathWrong : ChangeSpec := { name := "fnSwitchPath", fn := fun _ => fun
  | [d] => { results := [.lit (.bool false)], args := [d] }
  | _ => none }
def FnSwitchPathWrongFalsely : Prop := fnSwitchPathRow.holds Try.pinned (OpenSpec.ofChange fnSwitchPathWrong)

/-- 'laws.FnExactSwitchPath': WHATEVER THE INPUT: true; the input reads as it did. -/
def fnExactSwitchPathSpec : ChangeSpec := { name := "fnExactSwitchPath", fn := fun _ => fun
  | [d1, d2] => { results := [.lit (.bool true)], args := [d1, d2] }
  | _ => none }
def fnExactSwitchPathRow : OpenClaim := { program := "ytfheodjhbaaalaa", sum := "bcac2ebfe2f8d63a2ac63c950ec6a91bc31a8e8c295ff398226c0778c3a7d2d6", func := "loop.example/degreeswaps/laws.FnExactSwitchPath", spec := "fnExactSwitchPath", unfollowed := true, recurses := true, apart := false }
def FnExactSwitchPathSaid : Prop := fnExactSwitchPathRow.holds Try.pinned (OpenSpec.ofChange fnExactSwitchPathSpec)

/-- ITS FALSE NEIGHBOUR: 'it returns false'. Refute it at one input. -/
def fnExactSwitchPathWrong : ChangeSpec := { name := "fnExactSwitchPath", fn := fun _ => fun
  | [d1, d2] => { results := [.lit (.bool false)], args := [d1, d2] }
  | _ => none }
def FnExactSwitchPathWrongFalsely : Prop := fnExactSwitchPathRow.holds Try.pinned (OpenSpec.ofChange fnExactSwitchPathWrong)

/-- 'laws.FnComposeDegrees': WHATEVER THE INPUT: true; the input reads as it did. -/
def fnComposeDegreesSpec : ChangeSpec := { name := "fnComposeDegrees", fn := fun _ => fun
  | [d] => { results := [.lit (.bool true)], args := [d] }
  | _ => none }
def fnComposeDegreesRow : OpenClaim := { program := "ytfheodjhbaaalaa", sum := "bcac2ebfe2f8d63a2ac63c950ec6a91bc31a8e8c295ff398226c0778c3a7d2d6", func := "loop.example/degreeswaps/laws.FnComposeDegrees", spec := "fnComposeDegrees", unfollowed := true, recurses := true, apart := false }
def FnComposeDegreesSaid : Prop := fnComposeDegreesRow.holds Try.pinned (OpenSpec.ofChange fnComposeDegreesSpec)

/-- ITS FALSE NEIGHBOUR: 'it returns false'. Refute it at one input. -/
def fnComposeDegreesWrong : ChangeSpec := { name := "fnComposeDegrees", fn := fun _ => fun
  | [d] => { results := [.lit (.bool false)], args := [d] }
  | _ => none }
def FnComposeDegreesWrongFalsely : Prop := fnComposeDegreesRow.holds Try.pinned (OpenSpec.ofChange fnComposeDegreesWrong)

/- THE SECOND FORM. 'bulk': how many values and letters a reading holds, each counted each time it is reached (what is shared counts as often as it is met; a slice's spare places count too). A statement '..UptoSaid' is the law's where the arguments, and the package variables that the reading takes, are together of bulk at most 1048576: NARROWER than '..Said'. Prove '..Said' where nothing that the law and all that it calls make is longer than what came in: it says more and counts as full. Else prove '..UptoSaid'. A law counts once. -/
mutual
def uptoBulk {H : Type} : DataW H → Nat
  | .lit (.string bytes) => bytes.length + 1
  | .lit _ => 1
  | .nil => 1
  | .ptr d => uptoBulk d + 1
  | .slice elems spare => uptoBulkAll elems + uptoBulkAll spare + 1
  | .agg parts => uptoBulkAll parts + 1
  | .iface _ d => uptoBulk d + 1
  | .map entries => uptoBulkEntries entries + 1
  | .held _ => 1
def uptoBulkAll {H : Type} : List (DataW H) → Nat
  | [] => 0
  | d :: r => uptoBulk d + uptoBulkAll r
def uptoBulkEntries {H : Type} : List (Lit × DataW H) → Nat
  | [] => 0
  | x :: r => uptoBulkEntry x + uptoBulkEntries r
def uptoBulkEntry {H : Type} : Lit × DataW H → Nat
  | (.string bytes, d) => bytes.length + uptoBulk d + 1
  | (_, d) => uptoBulk d + 1
 end
def uptoSmall : (H : Type) → List (DataW H) → Bool := fun _ ds => decide (uptoBulkAll ds ≤ 1048576)
def OpenSpec.upto (s : _root_.Go.ChangeSpec) : _root_.Go.OpenSpec := { _root_.Go.OpenSpec.ofChange s with cond := some uptoSmall }

/-- 'laws.FnAllMatrices', WHERE WHAT IT READS IS OF BULK AT MOST 1048576: true; the input reads as it did. -/
def fnAllMatricesUptoRow : OpenClaim := { program := "ytfheodjhbaaalaa", sum := "bcac2ebfe2f8d63a2ac63c950ec6a91bc31a8e8c295ff398226c0778c3a7d2d6", func := "loop.example/degreeswaps/laws.FnAllMatrices", spec := "fnAllMatrices", unfollowed := true, recurses := true, apart := false, narrowed := true }
def FnAllMatricesUptoSaid : Prop := fnAllMatricesUptoRow.holds Try.pinned (OpenSpec.upto fnAllMatricesSpec)

/-- 'laws.FnExactConnectGraph', WHERE WHAT IT READS IS OF BULK AT MOST 1048576: true; the input reads as it did. -/
def fnExactConnectGraphUptoRow : OpenClaim := { program := "ytfheodjhbaaalaa", sum := "bcac2ebfe2f8d63a2ac63c950ec6a91bc31a8e8c295ff398226c0778c3a7d2d6", func := "loop.example/degreeswaps/laws.FnExactConnectGraph", spec := "fnExactConnectGraph", unfollowed := true, recurses := true, apart := false, narrowed := true }
def FnExactConnectGraphUptoSaid : Prop := fnExactConnectGraphUptoRow.holds Try.pinned (OpenSpec.upto fnExactConnectGraphSpec)

/-- 'laws.FnSwitchPath', WHERE WHAT IT READS IS OF BULK AT MOST 1048576: true; the input reads as it did. -/
def fnSwitchPathUptoRow : OpenClaim := { program := "ytfheodjhbaaalaa", sum := "bcac2ebfe2f8d63a2ac63c950ec6a91bc31a8e8c295ff398226c0778c3a7d2d6", func := "loop.example/degreeswaps/laws.FnSwitchPath", spec := "fnSwitchPath", unfollowed := true, recurses := true, apart := false, narrowed := true }
def FnSwitchPathUptoSaid : Prop := fnSwitchPathUptoRow.holds Try.pinned (OpenSpec.upto fnSwitchPathSpec)

/-- 'laws.FnExactSwitchPath', WHERE WHAT IT READS IS OF BULK AT MOST 1048576: true; the input reads as it did. -/
def fnExactSwitchPathUptoRow : OpenClaim := { program := "ytfheodjhbaaalaa", sum := "bcac2ebfe2f8d63a2ac63c950ec6a91bc31a8e8c295ff398226c0778c3a7d2d6", func := "loop.example/degreeswaps/laws.FnExactSwitchPath", spec := "fnExactSwitchPath", unfollowed := true, recurses := true, apart := false, narrowed := true }
def FnExactSwitchPathUptoSaid : Prop := fnExactSwitchPathUptoRow.holds Try.pinned (OpenSpec.upto fnExactSwitchPathSpec)

/-- 'laws.FnComposeDegrees', WHERE WHAT IT READS IS OF BULK AT MOST 1048576: true; the input reads as it did. -/
def fnComposeDegreesUptoRow : OpenClaim := { program := "ytfheodjhbaaalaa", sum := "bcac2ebfe2f8d63a2ac63c950ec6a91bc31a8e8c295ff398226c0778c3a7d2d6", func := "loop.example/degreeswaps/laws.FnComposeDegrees", spec := "fnComposeDegrees", unfollowed := true, recurses := true, apart := false, narrowed := true }
def FnComposeDegreesUptoSaid : Prop := fnComposeDegreesUptoRow.holds Try.pinned (OpenSpec.upto fnComposeDegreesSpec)

end Rows
end Go.Proofs.Ytfheodjhbaaalaa
