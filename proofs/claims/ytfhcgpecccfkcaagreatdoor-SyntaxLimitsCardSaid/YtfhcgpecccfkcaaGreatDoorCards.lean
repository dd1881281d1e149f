/-
  DERIVED. GIVEN WITH THE SEED: THE CARDS: each row of YtfhcgpecccfkcaaGreatDoorRows.lean that lists a variable, with what it lists TIED to the program's text (the seventh form; the later family's looks); each row that meets fmt, with fmt's text TOLD by the authors' own Lean function (tested against real Go, not proved from fmt's source: count such statements apart). THE CARD IS WHAT COUNTS. Prove the row's statement (the work); the ties are given (YtfhcgpecccfkcaaGreatDoorTie.lean); close each card by the builder's one call (the guide's Derived/Test/ToyasCard.lean, 'card_holds'). Laid BY PROGRAM, IN A SANDBOX (cutbox-door.mjs). By AI agents, Wed Nov 11 2026. No macro, syntax, notation, axiom, sorry.
-/
import Derived.Test.YtfhcgpecccfkcaaGreatDoorRows
import GoSem.ClaimSeven
namespace Go.Proofs.YtfhcgpecccfkcaaGreatDoor
namespace Rows

/-- THE TIED CARD OF 'tellaw18.SyntaxLimits'. -/
def syntaxLimitsCard : Claim7 := { stood := { row := syntaxLimitsRow, standIns := [], harness := (true, "57c201a3f2e2b4595fa73e6fb9af61aef3fb7b1f69246a78424b26a2f05c94fe"), looks := true }, kinds := [], alts := [], laidByText := true, laidKinds := [.data, .data, .data, .sentinel, .sentinel, .widerDeep, .widerDeep, .widerDeep], laidTests := true, laidLooks := .later }
def SyntaxLimitsCardSaid : Prop := Claim7.holds Tryz.pinned (.plain (OpenSpec.ofChange syntaxLimitsSpec)) syntaxLimitsCard

/-- THE SECOND FORM's CARD OF 'tellaw18.SyntaxLimits'. -/
def syntaxLimitsUptoCard : Claim7 := { stood := { row := syntaxLimitsUptoRow, standIns := [], harness := (true, "57c201a3f2e2b4595fa73e6fb9af61aef3fb7b1f69246a78424b26a2f05c94fe"), looks := true }, kinds := [], alts := [], laidByText := true, laidKinds := [.data, .data, .data, .sentinel, .sentinel, .widerDeep, .widerDeep, .widerDeep], laidTests := true, laidLooks := .later }
def SyntaxLimitsUptoCardSaid : Prop := Claim7.holds Tryz.pinned (.plain (OpenSpec.upto syntaxLimitsSpec)) syntaxLimitsUptoCard
end Rows
end Go.Proofs.YtfhcgpecccfkcaaGreatDoor
