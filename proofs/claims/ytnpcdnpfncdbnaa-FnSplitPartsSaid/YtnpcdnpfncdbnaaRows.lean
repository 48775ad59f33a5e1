/-
  No cell of these rows narrows 'for every input' (looked for: loops, veiled, ifaces, maps, wideKeys, modest, calm, conditions, laid).
  DERIVED. THE GIVEN ROWS OF THIS SEAT. 4 by the template 'for every input the law returns true; each argument reads behind the call as it read before'; 0 by the template 'total and deterministic' (their statements: YtnpcdnpfncdbnaaTotals.lean).
  GIVEN WITH THE SEED: the statements are not yours to turn. If you find one false, say at which input.
  Laid BY PROGRAM, IN A SANDBOX (cutbox-rows.mjs): the forced cells as the released guide's own fill.sh prints them over the translation 1705bf8bb3b61d9b… (all of the seat's roots in one cut). By AI agents, Wed Nov 11 2026. No macro, syntax, notation, axiom, sorry.
-/
import Derived.Test.YtnpcdnpfncdbnaaChecked
import GoSem.Claim
import GoSem.ClaimJoined
import GoSem.ClaimMapViews
import Derived.JoinedTies
import Derived.KernelRfl
namespace Go.Proofs.Ytnpcdnpfncdbnaa
/- THE CELL 'sum', in the pinned program and in every row, IS THE sha256 OF THE DUMP (.gsa) THAT YtnpcdnpfncdbnaaProg.lean LOADS. Nothing in Lean hashes anything: it is a label: what it is worth is what the hold of that sum in a sandbox is worth. -/
noncomputable def Try.pinned : Pinned := { name := "ytnpcdnpfncdbnaa", sum := "1705bf8bb3b61d9bdf3c9aafcd1c297c54acdc5cb96e7fa06ec599ca8760e54b", checked := Try.checked }
namespace Rows
def none {H : Type} : Left H := { results := [], args := [] }

/-- 'laws.FnSwitchesOf': WHATEVER THE INPUT: true; the input reads as it did. -/
def fnSwitchesOfSpec : ChangeSpec := { name := "fnSwitchesOf", fn := fun _ => fun
  | [d] => { results := [.lit (.bool true)], args := [d] }
  | _ => none }
def fnSwitchesOfRow : OpenClaim := { program := "ytnpcdnpfncdbnaa", sum := "1705bf8bb3b61d9bdf3c9aafcd1c297c54acdc5cb96e7fa06ec599ca8760e54b", func := "loop.example/degreeswaps/laws.FnSwitchesOf", spec := "fnSwitchesOf", unfollowed := true, recurses := true, apart := false }
def FnSwitchesOfSaid : Prop := fnSwitchesOfRow.holds Try.pinned (OpenSpec.ofChange fnSwitchesOfSpec)

/-- ITS FALSE NEIGHBOUR: 'it returns false'. Refute it at one input. -/
def fnSwitchesOfWrong : ChangeSpec := { name := "fnSwitchesOf", fn := fun _ => fun
  | [d] => { results := [.lit (.bool false)], args := [d] }
  | _ => none }
def FnSwitchesOfWrongFalsely : Prop := fnSwitchesOfRow.holds Try.pinned (OpenSpec.ofChange fnSwitchesOfWrong)

/-- 'laws.FnTreeCode': WHATEVER THE INPUT: true; the input reads as it did. -/
def fnTreeCodeSpec : ChangeSpec := { name := "fnTreeCode", fn := fun _ => fun
  | [d] => { results := [.lit (.bool true)], args := [d] }
  | _ => none }
def fnTreeCodeRow : OpenClaim := { program := "ytnpcdnpfncdbnaa", sum := "1705bf8bb3b61d9bdf3c9aafcd1c297c54acdc5cb96e7fa06ec599ca8760e54b", func := "loop.example/degreeswaps/laws.FnTreeCode", spec := "fnTreeCode", unfollowed := true, recurses := true, apart := false }
def FnTreeCodeSaid : Prop := fnTreeCodeRow.holds Try.pinned (OpenSpec.ofChange fnTreeCodeSpec)

/-- ITS FALSE NEIGHBOUR: 'it returns false'. Refute it at one input. -/
def fnTreeCodeWrong : ChangeSpec := { name := "fnTreeCode", fn := fun _ => fun
  | [d] => { results := [.lit (.bool false)], args := [d] }
  | _ => none }
def FnTreeCodeWrongFalsely : Prop := fnTreeCodeRow.holds Try.pinned (OpenSpec.ofChange fnTreeCodeWrong)

/-- 'laws.FnTreeOfCode': WHATEVER THE INPUT: true; the input reads as it did. -/
def fnTreeOfCodeSpec : ChangeSpec := { name := "fnTreeOfCode", fn := fun _ => fun
  | [d] => { results := [.lit (.bool true)], args := [d] }
  | _ => none }
def fnTreeOfCodeRow : OpenClaim := { program := "ytnpcdnpfncdbnaa", sum := "1705bf8bb3b61d9bdf3c9aafcd1c297c54acdc5cb96e7fa06ec599ca8760e54b", func := "loop.example/degreeswaps/laws.FnTreeOfCode", spec := "fnTreeOfCode", unfollowed := true, recurses := true, apart := false }
def FnTreeOfCodeSaid : Prop := fnTreeOfCodeRow.holds Try.pinned (OpenSpec.ofChange fnTreeOfCodeSpec)

/-- ITS FALSE NEIGHBOUR: 'it returns false'. Refute it at one input. -/
def fnTreeOfCodeWrong : ChangeSpec := { name := "fnTreeOfCode", fn := fun _ => fun
  | [d] => { results := [.lit (.bool false)], args := [d] }
  | _ => none }
def FnTreeOfCodeWrongFalsely : Prop := fnTreeOfCodeRow.holds Try.pinned (OpenSpec.ofChange fnTreeOfCodeWrong)

/-- 'laws.FnSplitParts': WHATEVER THE INPUT: true; the input reads as it did. -/
def fnSplitPartsSpec : ChangeSpec := { name := "fnSplitParts", fn := fun _ => fun
  | [d] => { results := [.lit (.bool true)], args := [d] }
  | _ => none }
def fnSplitPartsRow : OpenClaim := { program := "ytnpcdnpfncdbnaa", sum := "1705bf8bb3b61d9bdf3c9aafcd1c297c54acdc5cb96e7fa06ec599ca8760e54b", func := "loop.example/degreeswaps/laws.FnSplitParts", spec := "fnSplitParts", unfollowed := true, recurses := true, apart := false }
def FnSplitPartsSaid : Prop := fnSplitPartsRow.holds Try.pinned (OpenSpec.ofChange fnSplitPartsSpec)

/-- ITS FALSE NEIGHBOUR: 'it returns false'. Refute it at one input. -/
def fnSplitPartsWrong : ChangeSpec := { name := "fnSplitParts", fn := fun _ => fun
  | [d] => { results := [.lit (.bool false)], args := [d] }
  | _ => none }
def FnSplitPartsWrongFalsely : Prop := fnSplitPartsRow.holds Try.pinned (OpenSpec.ofChange fnSplitPartsWrong)

/- THE SECOND FORM. 'bulk': how many values and letters a reading holds, each counted each time it is reached (what is shared counts as often as it is met; a slice's spare places count too). A statement '..UptoSaid' is the law's where the arguments, and the package variables that the reading takes, are together of bulk at most 1048576: NARROWER than '..Said'. Prove '..Said' where nothing that the law and all that it calls make is longer than what came in: it says more and counts as full. Else prove '..UptoSaid'. A law counts once. -/
mutual
def uptoBulk {H : Type} : DataW H → Nat
  | .lit (.string bytes) => bytes.length + 1
  | .lit _ => 1
  | .nil => 1
  | .ptr d => uptoBulk d + 1
  | .slice elems spare => uptoBulkAll elems + uptoBulkAll spare + 1
  | .agg parts => uptoBulkAll parts + 1
  | .iface _ d => uptoBulk d + 1
  | .map entries => uptoBulkEntries entries + 1
  | .held _ => 1
def uptoBulkAll {H : Type} : List (DataW H) → Nat
  | [] => 0
  | d :: r => uptoBulk d + uptoBulkAll r
def uptoBulkEntries {H : Type} : List (Lit × DataW H) → Nat
  | [] => 0
  | x :: r => uptoBulkEntry x + uptoBulkEntries r
def uptoBulkEntry {H : Type} : Lit × DataW H → Nat
  | (.string bytes, d) => bytes.length + uptoBulk d + 1
  | (_, d) => uptoBulk d + 1
 end
def uptoSmall : (H : Type) → List (DataW H) → Bool := fun _ ds => decide (uptoBulkAll ds ≤ 1048576)
def OpenSpec.upto (s : _root_.Go.ChangeSpec) : _root_.Go.OpenSpec := { _root_.Go.OpenSpec.ofChange s with cond := some uptoSmall }

/-- 'laws.FnSwitchesOf', WHERE WHAT IT READS IS OF BULK AT MOST 1048576: true; the input reads as it did. -/
def fnSwitchesOfUptoRow : OpenClaim := { program := "ytnpcdnpfncdbnaa", sum := "1705bf8bb3b61d9bdf3c9aafcd1c297c54acdc5cb96e7fa06ec599ca8760e54b", func := "loop.example/degreeswaps/laws.FnSwitchesOf", spec := "fnSwitchesOf", unfollowed := true, recurses := true, apart := false, narrowed := true }
def FnSwitchesOfUptoSaid : Prop := fnSwitchesOfUptoRow.holds Try.pinned (OpenSpec.upto fnSwitchesOfSpec)

/-- 'laws.FnTreeCode', WHERE WHAT IT READS IS OF BULK AT MOST 1048576: true; the input reads as it did. -/
def fnTreeCodeUptoRow : OpenClaim := { program := "ytnpcdnpfncdbnaa", sum := "1705bf8bb3b61d9bdf3c9aafcd1c297c54acdc5cb96e7fa06ec599ca8760e54b", func := "loop.example/degreeswaps/laws.FnTreeCode", spec := "fnTreeCode", unfollowed := true, recurses := true, apart := false, narrowed := true }
def FnTreeCodeUptoSaid : Prop := fnTreeCodeUptoRow.holds Try.pinned (OpenSpec.upto fnTreeCodeSpec)

/-- 'laws.FnTreeOfCode', WHERE WHAT IT READS IS OF BULK AT MOST 1048576: true; the input reads as it did. -/
def fnTreeOfCodeUptoRow : OpenClaim := { program := "ytnpcdnpfncdbnaa", sum := "1705bf8bb3b61d9bdf3c9aafcd1c297c54acdc5cb96e7fa06ec599ca8760e54b", func := "loop.example/degreeswaps/laws.FnTreeOfCode", spec := "fnTreeOfCode", unfollowed := true, recurses := true, apart := false, narrowed := true }
def FnTreeOfCodeUptoSaid : Prop := fnTreeOfCodeUptoRow.holds Try.pinned (OpenSpec.upto fnTreeOfCodeSpec)

/-- 'laws.FnSplitParts', WHERE WHAT IT READS IS OF BULK AT MOST 1048576: true; the input reads as it did. -/
def fnSplitPartsUptoRow : OpenClaim := { program := "ytnpcdnpfncdbnaa", sum := "1705bf8bb3b61d9bdf3c9aafcd1c297c54acdc5cb96e7fa06ec599ca8760e54b", func := "loop.example/degreeswaps/laws.FnSplitParts", spec := "fnSplitParts", unfollowed := true, recurses := true, apart := false, narrowed := true }
def FnSplitPartsUptoSaid : Prop := fnSplitPartsUptoRow.holds Try.pinned (OpenSpec.upto fnSplitPartsSpec)

end Rows
end Go.Proofs.Ytnpcdnpfncdbnaa
