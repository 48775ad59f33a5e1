/-
  No cell of these rows narrows 'for every input' (looked for: loops, veiled, ifaces, maps, wideKeys, modest, calm, conditions, laid).
  DERIVED. THE GIVEN ROWS OF THIS SEAT. 5 by the template 'for every input the law returns true; each argument reads behind the call as it read before'; 0 by the template 'total and deterministic' (their statements: YtedjkjnjbljadaaTotals.lean).
  GIVEN WITH THE SEED: the statements are not yours to turn. If you find one false, say at which input.
  Laid BY PROGRAM, IN A SANDBOX (cutbox-rows.mjs): the forced cells as the released guide's own fill.sh prints them over the translation e1454e5fefcc1fb4… (all of the seat's roots in one cut). By AI agents, Wed Nov 11 2026. No macro, syntax, notation, axiom, sorry.
-/
import Derived.Test.YtedjkjnjbljadaaChecked
import GoSem.Claim
import GoSem.ClaimJoined
import GoSem.ClaimMapViews
import Derived.JoinedTies
import Derived.KernelRfl
namespace Go.Proofs.Ytedjkjnjbljadaa
/- THE CELL 'sum', in the pinned program and in every row, IS THE sha256 OF THE DUMP (.gsa) THAT YtedjkjnjbljadaaProg.lean LOADS. Nothing in Lean hashes anything: it is a label: what it is worth is what the hold of that sum in a sandbox is worth. -/
noncomputable def Try.pinned : Pinned := { name := "ytedjkjnjbljadaa", sum := "e1454e5fefcc1fb47ec271016fc93a50eda1bc71b069e557bf76457e444f33ab", checked := Try.checked }
namespace Rows
def none {H : Type} : Left H := { results := [], args := [] }

/-- 'laws.FnIsDigraphic': WHATEVER THE INPUT: true; the input reads as it did. -/
def fnIsDigraphicSpec : ChangeSpec := { name := "fnIsDigraphic", fn := fun _ => fun
  | [d] => { results := [.lit (.bool true)], args := [d] }
  | _ => none }
def fnIsDigraphicRow : OpenClaim := { program := "ytedjkjnjbljadaa", sum := "e1454e5fefcc1fb47ec271016fc93a50eda1bc71b069e557bf76457e444f33ab", func := "loop.example/degreeswaps/laws.FnIsDigraphic", spec := "fnIsDigraphic", unfollowed := true, recurses := true, apart := false }
def FnIsDigraphicSaid : Prop := fnIsDigraphicRow.holds Try.pinned (OpenSpec.ofChange fnIsDigraphicSpec)

/-- ITS FALSE NEIGHBOUR: 'it returns false'. Refute it at one input. -/
def fnIsDigraphicWrong : ChangeSpec := { name := "fnIsDigraphic", fn := fun _ => fun
  | [d] => { results := [.lit (.bool false)], args := [d] }
  | _ => none }
def FnIsDigraphicWrongFalsely : Prop := fnIsDigraphicRow.holds Try.pinned (OpenSpec.ofChange fnIsDigraphicWrong)

/-- 'laws.FnAllMatrices': WHATEVER THE INPUT: true; the input reads as it did. -/
def fnAllMatricesSpec : ChangeSpec := { name := "fnAllMatrices", fn := fun _ => fun
  | [d] => { results := [.lit (.bool true)], args := [d] }
  | _ => none }
def fnAllMatricesRow : OpenClaim := { program := "ytedjkjnjbljadaa", sum := "e1454e5fefcc1fb47ec271016fc93a50eda1bc71b069e557bf76457e444f33ab", func := "loop.example/degreeswaps/laws.FnAllMatrices", spec := "fnAllMatrices", unfollowed := true, recurses := true, apart := false }
def FnAllMatricesSaid : Prop := fnAllMatricesRow.holds Try.pinned (OpenSpec.ofChange fnAllMatricesSpec)

/-- ITS FALSE NEIGHBOUR: 'it returns false'. Refute it at one input. -/
def fnAllMatricesWrong : ChangeSpec := { name := "fnAllMatrices", fn := fun _ => fun
  | [d] => { results := [.lit (.bool false)], args := [d] }
  | _ => none }
def FnAllMatricesWrongFalsely : Prop := fnAllMatricesRow.holds Try.pinned (OpenSpec.ofChange fnAllMatricesWrong)

/-- 'laws.FnIsBigraphic': WHATEVER THE INPUT: true; the input reads as it did. -/
def fnIsBigraphicSpec : ChangeSpec := { name := "fnIsBigraphic", fn := fun _ => fun
  | [d] => { results := [.lit (.bool true)], args := [d] }
  | _ => none }
def fnIsBigraphicRow : OpenClaim := { program := "ytedjkjnjbljadaa", sum := "e1454e5fefcc1fb47ec271016fc93a50eda1bc71b069e557bf76457e444f33ab", func := "loop.example/degreeswaps/laws.FnIsBigraphic", spec := "fnIsBigraphic", unfollowed := true, recurses := true, apart := false }
def FnIsBigraphicSaid : Prop := fnIsBigraphicRow.holds Try.pinned (OpenSpec.ofChange fnIsBigraphicSpec)

/-- ITS FALSE NEIGHBOUR: 'it returns false'. Refute it at one input. -/
def fnIsBigraphicWrong : ChangeSpec := { name := "fnIsBigraphic", fn := fun _ => fun
  | [d] => { results := [.lit (.bool false)], args := [d] }
  | _ => none }
def FnIsBigraphicWrongFalsely : Prop := fnIsBigraphicRow.holds Try.pinned (OpenSpec.ofChange fnIsBigraphicWrong)

/-- 'laws.FnMatrixGraph': WHATEVER THE INPUT: true; the input reads as it did. -/
def fnMatrixGraphSpec : ChangeSpec := { name := "fnMatrixGraph", fn := fun _ => fun
  | [d] => { results := [.lit (.bool true)], args := [d] }
  | _ => none }
def fnMatrixGraphRow : OpenClaim := { program := "ytedjkjnjbljadaa", sum := "e1454e5fefcc1fb47ec271016fc93a50eda1bc71b069e557bf76457e444f33ab", func := "loop.example/degreeswaps/laws.FnMatrixGraph", spec := "fnMatrixGraph", unfollowed := true, recurses := true, apart := false }
def FnMatrixGraphSaid : Prop := fnMatrixGraphRow.holds Try.pinned (OpenSpec.ofChange fnMatrixGraphSpec)

/-- ITS FALSE NEIGHBOUR: 'it returns false'. Refute it at one input. -/
def fnMatrixGraphWrong : ChangeSpec := { name := "fnMatrixGraph", fn := fun _ => fun
  | [d] => { results := [.lit (.bool false)], args := [d] }
  | _ => none }
def FnMatrixGraphWrongFalsely : Prop := fnMatrixGraphRow.holds Try.pinned (OpenSpec.ofChange fnMatrixGraphWrong)

/-- 'laws.FnComposeDegrees': WHATEVER THE INPUT: true; the input reads as it did. -/
def fnComposeDegreesSpec : ChangeSpec := { name := "fnComposeDegrees", fn := fun _ => fun
  | [d] => { results := [.lit (.bool true)], args := [d] }
  | _ => none }
def fnComposeDegreesRow : OpenClaim := { program := "ytedjkjnjbljadaa", sum := "e1454e5fefcc1fb47ec271016fc93a50eda1bc71b069e557bf76457e444f33ab", func := "loop.example/degreeswaps/laws.FnComposeDegrees", spec := "fnComposeDegrees", unfollowed := true, recurses := true, apart := false }
def FnComposeDegreesSaid : Prop := fnComposeDegreesRow.holds Try.pinned (OpenSpec.ofChange fnComposeDegreesSpec)

/-- ITS FALSE NEIGHBOUR: 'it returns false'. Refute it at one input. -/
def fnComposeDegreesWrong : ChangeSpec := { name := "fnComposeDegrees", fn := fun _ => fun
  | [d] => { results := [.lit (.bool false)], args := [d] }
  | _ => none }
def FnComposeDegreesWrongFalsely : Prop := fnComposeDegreesRow.holds Try.pinned (OpenSpec.ofChange fnComposeDegreesWrong)

/- THE SECOND FORM. 'bulk': how many values and letters a reading holds, each counted each time it is reached (what is shared counts as often as it is met; a slice's spare places count too). A statement '..UptoSaid' is the law's where the arguments, and the package variables that the reading takes, are together of bulk at most 1048576: NARROWER than '..Said'. Prove '..Said' where nothing that the law and all that it calls make is longer than what came in: it says more and counts as full. Else prove '..UptoSaid'. A law counts once. -/
mutual
def uptoBulk {H : Type} : DataW H → Nat
  | .lit (.string bytes) => bytes.length + 1
  | .lit _ => 1
  | .nil => 1
  | .ptr d => uptoBulk d + 1
  | .slice elems spare => uptoBulkAll elems + uptoBulkAll spare + 1
  | .agg parts => uptoBulkAll parts + 1
  | .iface _ d => uptoBulk d + 1
  | .map entries => uptoBulkEntries entries + 1
  | .held _ => 1
def uptoBulkAll {H : Type} : List (DataW H) → Nat
  | [] => 0
  | d :: r => uptoBulk d + uptoBulkAll r
def uptoBulkEntries {H : Type} : List (Lit × DataW H) → Nat
  | [] => 0
  | x :: r => uptoBulkEntry x + uptoBulkEntries r
def uptoBulkEntry {H : Type} : Lit × DataW H → Nat
  | (.string bytes, d) => bytes.length + uptoBulk d + 1
  | (_, d) => uptoBulk d + 1
 end
def uptoSmall : (H : Type) → List (DataW H) → Bool := fun _ ds => decide (uptoBulkAll ds ≤ 1048576)
def OpenSpec.upto (s : _root_.Go.ChangeSpec) : _root_.Go.OpenSpec := { _root_.Go.OpenSpec.ofChange s with cond := some uptoSmall }

/-- 'laws.FnIsDigraphic', WHERE WHAT IT READS IS OF BULK AT MOST 1048576: true; the input reads as it did. -/
def fnIsDigraphicUptoRow : OpenClaim := { program := "ytedjkjnjbljadaa", sum := "e1454e5fefcc1fb47ec271016fc93a50eda1bc71b069e557bf76457e444f33ab", func := "loop.example/degreeswaps/laws.FnIsDigraphic", spec := "fnIsDigraphic", unfollowed := true, recurses := true, apart := false, narrowed := true }
def FnIsDigraphicUptoSaid : Prop := fnIsDigraphicUptoRow.holds Try.pinned (OpenSpec.upto fnIsDigraphicSpec)

/-- 'laws.FnAllMatrices', WHERE WHAT IT READS IS OF BULK AT MOST 1048576: true; the input reads as it did. -/
def fnAllMatricesUptoRow : OpenClaim := { program := "ytedjkjnjbljadaa", sum := "e1454e5fefcc1fb47ec271016fc93a50eda1bc71b069e557bf76457e444f33ab", func := "loop.example/degreeswaps/laws.FnAllMatrices", spec := "fnAllMatrices", unfollowed := true, recurses := true, apart := false, narrowed := true }
def FnAllMatricesUptoSaid : Prop := fnAllMatricesUptoRow.holds Try.pinned (OpenSpec.upto fnAllMatricesSpec)

/-- 'laws.FnIsBigraphic', WHERE WHAT IT READS IS OF BULK AT MOST 1048576: true; the input reads as it did. -/
def fnIsBigraphicUptoRow : OpenClaim := { program := "ytedjkjnjbljadaa", sum := "e1454e5fefcc1fb47ec271016fc93a50eda1bc71b069e557bf76457e444f33ab", func := "loop.example/degreeswaps/laws.FnIsBigraphic", spec := "fnIsBigraphic", unfollowed := true, recurses := true, apart := false, narrowed := true }
def FnIsBigraphicUptoSaid : Prop := fnIsBigraphicUptoRow.holds Try.pinned (OpenSpec.upto fnIsBigraphicSpec)

/-- 'laws.FnMatrixGraph', WHERE WHAT IT READS IS OF BULK AT MOST 1048576: true; the input reads as it did. -/
def fnMatrixGraphUptoRow : OpenClaim := { program := "ytedjkjnjbljadaa", sum := "e1454e5fefcc1fb47ec271016fc93a50eda1bc71b069e557bf76457e444f33ab", func := "loop.example/degreeswaps/laws.FnMatrixGraph", spec := "fnMatrixGraph", unfollowed := true, recurses := true, apart := false, narrowed := true }
def FnMatrixGraphUptoSaid : Prop := fnMatrixGraphUptoRow.holds Try.pinned (OpenSpec.upto fnMatrixGraphSpec)

/-- 'laws.FnComposeDegrees', WHERE WHAT IT READS IS OF BULK AT MOST 1048576: true; the input reads as it did. -/
def fnComposeDegreesUptoRow : OpenClaim := { program := "ytedjkjnjbljadaa", sum := "e1454e5fefcc1fb47ec271016fc93a50eda1bc71b069e557bf76457e444f33ab", func := "loop.example/degreeswaps/laws.FnComposeDegrees", spec := "fnComposeDegrees", unfollowed := true, recurses := true, apart := false, narrowed := true }
def FnComposeDegreesUptoSaid : Prop := fnComposeDegreesUptoRow.holds Try.pinned (OpenSpec.upto fnComposeDegreesSpec)

end Rows
end Go.Proofs.Ytedjkjnjbljadaa
