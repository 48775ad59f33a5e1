/-
  DERIVED. GIVEN WITH THE SEED: THE CARDS: each row of YtbbennmmjlgmoaaDoorRows.lean that lists a variable, with what it lists TIED to the program's text (the seventh form; the later family's looks); each row that meets fmt, with fmt's text TOLD by the authors' own Lean function (tested against real Go, not proved from fmt's source: count such statements apart). THE CARD IS WHAT COUNTS. Prove the row's statement (the work); the ties are given (YtbbennmmjlgmoaaDoorTie.lean); close each card by the builder's one call (the guide's Derived/Test/ToyasCard.lean, 'card_holds'). Laid BY PROGRAM, IN A SANDBOX (cutbox-door.mjs). By AI agents, Wed Nov 11 2026. No macro, syntax, notation, axiom, sorry.
-/
import Derived.Test.YtbbennmmjlgmoaaDoorRows
import GoSem.ClaimSeven
namespace Go.Proofs.YtbbennmmjlgmoaaDoor
namespace Rows

/-- THE TIED CARD OF 'laws.FnGraphText'. -/
def fnGraphTextCard : Claim7 := { stood := { row := fnGraphTextRow, standIns := [], harness := (true, "3d899d41057fa088452c5a27c369e6b9935d76fdd487c246f60c3ec41cb8f5c3"), looks := false }, kinds := [], alts := [], laidByText := true, laidKinds := [.data, .data, .data, .data, .pinned], laidTests := true, laidLooks := .later }
def FnGraphTextCardSaid : Prop := Claim7.holds Tryd.pinned (.plain (OpenSpec.ofChange fnGraphTextSpec)) fnGraphTextCard

/-- THE TIED CARD OF 'laws.FnParseGraph'. -/
def fnParseGraphCard : Claim7 := { stood := { row := fnParseGraphRow, standIns := [], harness := (true, "3d899d41057fa088452c5a27c369e6b9935d76fdd487c246f60c3ec41cb8f5c3"), looks := false }, kinds := [], alts := [], laidByText := true, laidKinds := [.data, .data, .data, .data, .pinned], laidTests := true, laidLooks := .later }
def FnParseGraphCardSaid : Prop := Claim7.holds Tryd.pinned (.plain (OpenSpec.ofChange fnParseGraphSpec)) fnParseGraphCard

/-- THE TIED CARD OF 'laws.FnExactParseGraph'. -/
def fnExactParseGraphCard : Claim7 := { stood := { row := fnExactParseGraphRow, standIns := [], harness := (true, "3d899d41057fa088452c5a27c369e6b9935d76fdd487c246f60c3ec41cb8f5c3"), looks := false }, kinds := [], alts := [], laidByText := true, laidKinds := [.data, .data, .data, .data, .pinned], laidTests := true, laidLooks := .later }
def FnExactParseGraphCardSaid : Prop := Claim7.holds Tryd.pinned (.plain (OpenSpec.ofChange fnExactParseGraphSpec)) fnExactParseGraphCard

/-- THE SECOND FORM's CARD OF 'laws.FnGraphText'. -/
def fnGraphTextUptoCard : Claim7 := { stood := { row := fnGraphTextUptoRow, standIns := [], harness := (true, "3d899d41057fa088452c5a27c369e6b9935d76fdd487c246f60c3ec41cb8f5c3"), looks := false }, kinds := [], alts := [], laidByText := true, laidKinds := [.data, .data, .data, .data, .pinned], laidTests := true, laidLooks := .later }
def FnGraphTextUptoCardSaid : Prop := Claim7.holds Tryd.pinned (.plain (OpenSpec.upto fnGraphTextSpec)) fnGraphTextUptoCard

/-- THE SECOND FORM's CARD OF 'laws.FnParseGraph'. -/
def fnParseGraphUptoCard : Claim7 := { stood := { row := fnParseGraphUptoRow, standIns := [], harness := (true, "3d899d41057fa088452c5a27c369e6b9935d76fdd487c246f60c3ec41cb8f5c3"), looks := false }, kinds := [], alts := [], laidByText := true, laidKinds := [.data, .data, .data, .data, .pinned], laidTests := true, laidLooks := .later }
def FnParseGraphUptoCardSaid : Prop := Claim7.holds Tryd.pinned (.plain (OpenSpec.upto fnParseGraphSpec)) fnParseGraphUptoCard

/-- THE SECOND FORM's CARD OF 'laws.FnExactParseGraph'. -/
def fnExactParseGraphUptoCard : Claim7 := { stood := { row := fnExactParseGraphUptoRow, standIns := [], harness := (true, "3d899d41057fa088452c5a27c369e6b9935d76fdd487c246f60c3ec41cb8f5c3"), looks := false }, kinds := [], alts := [], laidByText := true, laidKinds := [.data, .data, .data, .data, .pinned], laidTests := true, laidLooks := .later }
def FnExactParseGraphUptoCardSaid : Prop := Claim7.holds Tryd.pinned (.plain (OpenSpec.upto fnExactParseGraphSpec)) fnExactParseGraphUptoCard
end Rows
end Go.Proofs.YtbbennmmjlgmoaaDoor
