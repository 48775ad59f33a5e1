/-
  No cell of these rows narrows 'for every input' (looked for: loops, veiled, ifaces, maps, wideKeys, modest, calm, conditions, laid).
  DERIVED. THE GIVEN ROWS OF THIS SEAT. 5 by the template 'for every input the law returns true; each argument reads behind the call as it read before'; 0 by the template 'total and deterministic' (their statements: YtelicgkafbdboaaTotals.lean).
  GIVEN WITH THE SEED: the statements are not yours to turn. If you find one false, say at which input.
  Laid BY PROGRAM, IN A SANDBOX (cutbox-rows.mjs): the forced cells as the released guide's own fill.sh prints them over the translation c5d7fa7c6d6b5fb0… (all of the seat's roots in one cut). By AI agents, Wed Nov 11 2026. No macro, syntax, notation, axiom, sorry.
-/
import Derived.Test.YtelicgkafbdboaaChecked
import GoSem.Claim
import GoSem.ClaimJoined
import GoSem.ClaimMapViews
import Derived.JoinedTies
import Derived.KernelRfl
namespace Go.Proofs.Ytelicgkafbdboaa
/- THE CELL 'sum', in the pinned program and in every row, IS THE sha256 OF THE DUMP (.gsa) THAT YtelicgkafbdboaaProg.lean LOADS. Nothing in Lean hashes anything: it is a label: what it is worth is what the hold of that sum in a sandbox is worth. -/
noncomputable def Try.pinned : Pinned := { name := "ytelicgkafbdboaa", sum := "c5d7fa7c6d6b5fb0a1ed270df448a2989621955153f96ac5fabad3222dd71448", checked := Try.checked }
namespace Rows
def none {H : Type} : Left H := { results := [], args := [] }

/-- 'laws.FnCorrectedOf': WHATEVER THE INPUT: true; the input reads as it did. -/
def fnCorrectedOfSpec : ChangeSpec := { name := "fnCorrectedOf", fn := fun _ => fun
  | [d] => { results := [.lit (.bool true)], args := [d] }
  | _ => none }
def fnCorrectedOfRow : OpenClaim := { program := "ytelicgkafbdboaa", sum := "c5d7fa7c6d6b5fb0a1ed270df448a2989621955153f96ac5fabad3222dd71448", func := "loop.example/degreeswaps/laws.FnCorrectedOf", spec := "fnCorrectedOf", unfollowed := true, recurses := true, apart := false }
def FnCorrectedOfSaid : Prop := fnCorrectedOfRow.holds Try.pinned (OpenSpec.ofChange fnCorrectedOfSpec)

/-- ITS FALSE NEIGHBOUR: 'it returns false'. Refute it at one input. -/
def fnCorrectedOfWrong : ChangeSpec := { name := "fnCorrectedOf", fn := fun _ => fun
  | [d] => { results := [.lit (.bool false)], args := [d] }
  | _ => none }
def FnCorrectedOfWrongFalsely : Prop := fnCorrectedOfRow.holds Try.pinned (OpenSpec.ofChange fnCorrectedOfWrong)

/-- 'laws.FnIsBigraphicSplit': WHATEVER THE INPUT: true; the input reads as it did. -/
def fnIsBigraphicSplitSpec : ChangeSpec := { name := "fnIsBigraphicSplit", fn := fun _ => fun
  | [d] => { results := [.lit (.bool true)], args := [d] }
  | _ => none }
def fnIsBigraphicSplitRow : OpenClaim := { program := "ytelicgkafbdboaa", sum := "c5d7fa7c6d6b5fb0a1ed270df448a2989621955153f96ac5fabad3222dd71448", func := "loop.example/degreeswaps/laws.FnIsBigraphicSplit", spec := "fnIsBigraphicSplit", unfollowed := true, recurses := true, apart := false }
def FnIsBigraphicSplitSaid : Prop := fnIsBigraphicSplitRow.holds Try.pinned (OpenSpec.ofChange fnIsBigraphicSplitSpec)

/-- ITS FALSE NEIGHBOUR: 'it returns false'. Refute it at one input. -/
def fnIsBigraphicSplitWrong : ChangeSpec := { name := "fnIsBigraphicSplit", fn := fun _ => fun
  | [d] => { results := [.lit (.bool false)], args := [d] }
  | _ => none }
def FnIsBigraphicSplitWrongFalsely : Prop := fnIsBigraphicSplitRow.holds Try.pinned (OpenSpec.ofChange fnIsBigraphicSplitWrong)

/-- 'laws.FnDegreesOf': WHATEVER THE INPUT: true; the input reads as it did. -/
def fnDegreesOfSpec : ChangeSpec := { name := "fnDegreesOf", fn := fun _ => fun
  | [d] => { results := [.lit (.bool true)], args := [d] }
  | _ => none }
def fnDegreesOfRow : OpenClaim := { program := "ytelicgkafbdboaa", sum := "c5d7fa7c6d6b5fb0a1ed270df448a2989621955153f96ac5fabad3222dd71448", func := "loop.example/degreeswaps/laws.FnDegreesOf", spec := "fnDegreesOf", unfollowed := true, recurses := true, apart := false }
def FnDegreesOfSaid : Prop := fnDegreesOfRow.holds Try.pinned (OpenSpec.ofChange fnDegreesOfSpec)

/-- ITS FALSE NEIGHBOUR: 'it returns false'. Refute it at one input. -/
def fnDegreesOfWrong : ChangeSpec := { name := "fnDegreesOf", fn := fun _ => fun
  | [d] => { results := [.lit (.bool false)], args := [d] }
  | _ => none }
def FnDegreesOfWrongFalsely : Prop := fnDegreesOfRow.holds Try.pinned (OpenSpec.ofChange fnDegreesOfWrong)

/-- 'laws.FnExactSwitchesOf': WHATEVER THE INPUT: true; the input reads as it did. -/
def fnExactSwitchesOfSpec : ChangeSpec := { name := "fnExactSwitchesOf", fn := fun _ => fun
  | [d] => { results := [.lit (.bool true)], args := [d] }
  | _ => none }
def fnExactSwitchesOfRow : OpenClaim := { program := "ytelicgkafbdboaa", sum := "c5d7fa7c6d6b5fb0a1ed270df448a2989621955153f96ac5fabad3222dd71448", func := "loop.example/degreeswaps/laws.FnExactSwitchesOf", spec := "fnExactSwitchesOf", unfollowed := true, recurses := true, apart := false }
def FnExactSwitchesOfSaid : Prop := fnExactSwitchesOfRow.holds Try.pinned (OpenSpec.ofChange fnExactSwitchesOfSpec)

/-- ITS FALSE NEIGHBOUR: 'it returns false'. Refute it at one input. -/
def fnExactSwitchesOfWrong : ChangeSpec := { name := "fnExactSwitchesOf", fn := fun _ => fun
  | [d] => { results := [.lit (.bool false)], args := [d] }
  | _ => none }
def FnExactSwitchesOfWrongFalsely : Prop := fnExactSwitchesOfRow.holds Try.pinned (OpenSpec.ofChange fnExactSwitchesOfWrong)

/-- 'laws.FnIsDigraphic': WHATEVER THE INPUT: true; the input reads as it did. -/
def fnIsDigraphicSpec : ChangeSpec := { name := "fnIsDigraphic", fn := fun _ => fun
  | [d] => { results := [.lit (.bool true)], args := [d] }
  | _ => none }
def fnIsDigraphicRow : OpenClaim := { program := "ytelicgkafbdboaa", sum := "c5d7fa7c6d6b5fb0a1ed270df448a2989621955153f96ac5fabad3222dd71448", func := "loop.example/degreeswaps/laws.FnIsDigraphic", spec := "fnIsDigraphic", unfollowed := true, recurses := true, apart := false }
def FnIsDigraphicSaid : Prop := fnIsDigraphicRow.holds Try.pinned (OpenSpec.ofChange fnIsDigraphicSpec)

/-- ITS FALSE NEIGHBOUR: 'it returns false'. Refute it at one input. -/
def fnIsDigraphicWrong : ChangeSpec := { name := "fnIsDigraphic", fn := fun _ => fun
  | [d] => { results := [.lit (.bool false)], args := [d] }
  | _ => none }
def FnIsDigraphicWrongFalsely : Prop := fnIsDigraphicRow.holds Try.pinned (OpenSpec.ofChange fnIsDigraphicWrong)

/- THE SECOND FORM. 'bulk': how many values and letters a reading holds, each counted each time it is reached (what is shared counts as often as it is met; a slice's spare places count too). A statement '..UptoSaid' is the law's where the arguments, and the package variables that the reading takes, are together of bulk at most 1048576: NARROWER than '..Said'. Prove '..Said' where nothing that the law and all that it calls make is longer than what came in: it says more and counts as full. Else prove '..UptoSaid'. A law counts once. -/
mutual
def uptoBulk {H : Type} : DataW H → Nat
  | .lit (.string bytes) => bytes.length + 1
  | .lit _ => 1
  | .nil => 1
  | .ptr d => uptoBulk d + 1
  | .slice elems spare => uptoBulkAll elems + uptoBulkAll spare + 1
  | .agg parts => uptoBulkAll parts + 1
  | .iface _ d => uptoBulk d + 1
  | .map entries => uptoBulkEntries entries + 1
  | .held _ => 1
def uptoBulkAll {H : Type} : List (DataW H) → Nat
  | [] => 0
  | d :: r => uptoBulk d + uptoBulkAll r
def uptoBulkEntries {H : Type} : List (Lit × DataW H) → Nat
  | [] => 0
  | x :: r => uptoBulkEntry x + uptoBulkEntries r
def uptoBulkEntry {H : Type} : Lit × DataW H → Nat
  | (.string bytes, d) => bytes.length + uptoBulk d + 1
  | (_, d) => uptoBulk d + 1
 end
def uptoSmall : (H : Type) → List (DataW H) → Bool := fun _ ds => decide (uptoBulkAll ds ≤ 1048576)
def OpenSpec.upto (s : _root_.Go.ChangeSpec) : _root_.Go.OpenSpec := { _root_.Go.OpenSpec.ofChange s with cond := some uptoSmall }

/-- 'laws.FnCorrectedOf', WHERE WHAT IT READS IS OF BULK AT MOST 1048576: true; the input reads as it did. -/
def fnCorrectedOfUptoRow : OpenClaim := { program := "ytelicgkafbdboaa", sum := "c5d7fa7c6d6b5fb0a1ed270df448a2989621955153f96ac5fabad3222dd71448", func := "loop.example/degreeswaps/laws.FnCorrectedOf", spec := "fnCorrectedOf", unfollowed := true, recurses := true, apart := false, narrowed := true }
def FnCorrectedOfUptoSaid : Prop := fnCorrectedOfUptoRow.holds Try.pinned (OpenSpec.upto fnCorrectedOfSpec)

/-- 'laws.FnIsBigraphicSplit', WHERE WHAT IT READS IS OF BULK AT MOST 1048576: true; the input reads as it did. -/
def fnIsBigraphicSplitUptoRow : OpenClaim := { program := "ytelicgkafbdboaa", sum := "c5d7fa7c6d6b5fb0a1ed270df448a2989621955153f96ac5fabad3222dd71448", func := "loop.example/degreeswaps/laws.FnIsBigraphicSplit", spec := "fnIsBigraphicSplit", unfollowed := true, recurses := true, apart := false, narrowed := true }
def FnIsBigraphicSplitUptoSaid : Prop := fnIsBigraphicSplitUptoRow.holds Try.pinned (OpenSpec.upto fnIsBigraphicSplitSpec)

/-- 'laws.FnDegreesOf', WHERE WHAT IT READS IS OF BULK AT MOST 1048576: true; the input reads as it did. -/
def fnDegreesOfUptoRow : OpenClaim := { program := "ytelicgkafbdboaa", sum := "c5d7fa7c6d6b5fb0a1ed270df448a2989621955153f96ac5fabad3222dd71448", func := "loop.example/degreeswaps/laws.FnDegreesOf", spec := "fnDegreesOf", unfollowed := true, recurses := true, apart := false, narrowed := true }
def FnDegreesOfUptoSaid : Prop := fnDegreesOfUptoRow.holds Try.pinned (OpenSpec.upto fnDegreesOfSpec)

/-- 'laws.FnExactSwitchesOf', WHERE WHAT IT READS IS OF BULK AT MOST 1048576: true; the input reads as it did. -/
def fnExactSwitchesOfUptoRow : OpenClaim := { program := "ytelicgkafbdboaa", sum := "c5d7fa7c6d6b5fb0a1ed270df448a2989621955153f96ac5fabad3222dd71448", func := "loop.example/degreeswaps/laws.FnExactSwitchesOf", spec := "fnExactSwitchesOf", unfollowed := true, recurses := true, apart := false, narrowed := true }
def FnExactSwitchesOfUptoSaid : Prop := fnExactSwitchesOfUptoRow.holds Try.pinned (OpenSpec.upto fnExactSwitchesOfSpec)

/-- 'laws.FnIsDigraphic', WHERE WHAT IT READS IS OF BULK AT MOST 1048576: true; the input reads as it did. -/
def fnIsDigraphicUptoRow : OpenClaim := { program := "ytelicgkafbdboaa", sum := "c5d7fa7c6d6b5fb0a1ed270df448a2989621955153f96ac5fabad3222dd71448", func := "loop.example/degreeswaps/laws.FnIsDigraphic", spec := "fnIsDigraphic", unfollowed := true, recurses := true, apart := false, narrowed := true }
def FnIsDigraphicUptoSaid : Prop := fnIsDigraphicUptoRow.holds Try.pinned (OpenSpec.upto fnIsDigraphicSpec)

end Rows
end Go.Proofs.Ytelicgkafbdboaa
