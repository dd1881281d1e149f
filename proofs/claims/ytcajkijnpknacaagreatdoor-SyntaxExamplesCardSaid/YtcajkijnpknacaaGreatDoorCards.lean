/-
  DERIVED. GIVEN WITH THE SEED: THE CARDS: each row of YtcajkijnpknacaaGreatDoorRows.lean that lists a variable, with what it lists TIED to the program's text (the seventh form; the later family's looks); each row that meets fmt, with fmt's text TOLD by the authors' own Lean function (tested against real Go, not proved from fmt's source: count such statements apart). THE CARD IS WHAT COUNTS. Prove the row's statement (the work); the ties are given (YtcajkijnpknacaaGreatDoorTie.lean); close each card by the builder's one call (the guide's Derived/Test/ToyasCard.lean, 'card_holds'). Laid BY PROGRAM, IN A SANDBOX (cutbox-door.mjs). By AI agents, Wed Nov 11 2026. No macro, syntax, notation, axiom, sorry.
-/
import Derived.Test.YtcajkijnpknacaaGreatDoorRows
import GoSem.ClaimSeven
namespace Go.Proofs.YtcajkijnpknacaaGreatDoor
namespace Rows

/-- THE TIED CARD OF 'tellaw18.SyntaxExamples'. -/
def syntaxExamplesCard : Claim7 := { stood := { row := syntaxExamplesRow, standIns := [], harness := (true, "7d2b1d4b786b972f19724dbda4915ef721b16015f105e357285406e36ea7e7c5"), looks := true }, kinds := [], alts := [], laidByText := true, laidKinds := [.data, .data, .data, .sentinel, .sentinel, .widerDeep, .widerDeep, .data, .widerDeep], laidTests := true, laidLooks := .later }
def SyntaxExamplesCardSaid : Prop := Claim7.holds Tryz.pinned (.plain (OpenSpec.ofChange syntaxExamplesSpec)) syntaxExamplesCard

/-- THE SECOND FORM's CARD OF 'tellaw18.SyntaxExamples'. -/
def syntaxExamplesUptoCard : Claim7 := { stood := { row := syntaxExamplesUptoRow, standIns := [], harness := (true, "7d2b1d4b786b972f19724dbda4915ef721b16015f105e357285406e36ea7e7c5"), looks := true }, kinds := [], alts := [], laidByText := true, laidKinds := [.data, .data, .data, .sentinel, .sentinel, .widerDeep, .widerDeep, .data, .widerDeep], laidTests := true, laidLooks := .later }
def SyntaxExamplesUptoCardSaid : Prop := Claim7.holds Tryz.pinned (.plain (OpenSpec.upto syntaxExamplesSpec)) syntaxExamplesUptoCard
end Rows
end Go.Proofs.YtcajkijnpknacaaGreatDoor
