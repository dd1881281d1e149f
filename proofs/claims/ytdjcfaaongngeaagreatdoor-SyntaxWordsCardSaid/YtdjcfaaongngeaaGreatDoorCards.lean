/-
  DERIVED. GIVEN WITH THE SEED: THE CARDS: each row of YtdjcfaaongngeaaGreatDoorRows.lean that lists a variable, with what it lists TIED to the program's text (the seventh form; the later family's looks); each row that meets fmt, with fmt's text TOLD by the authors' own Lean function (tested against real Go, not proved from fmt's source: count such statements apart). THE CARD IS WHAT COUNTS. Prove the row's statement (the work); the ties are given (YtdjcfaaongngeaaGreatDoorTie.lean); close each card by the builder's one call (the guide's Derived/Test/ToyasCard.lean, 'card_holds'). Laid BY PROGRAM, IN A SANDBOX (cutbox-door.mjs). By AI agents, Wed Nov 11 2026. No macro, syntax, notation, axiom, sorry.
-/
import Derived.Test.YtdjcfaaongngeaaGreatDoorRows
import GoSem.ClaimSeven
namespace Go.Proofs.YtdjcfaaongngeaaGreatDoor
namespace Rows

/-- THE TIED CARD OF 'tellaw18.SyntaxParse'. -/
def syntaxParseCard : Claim7 := { stood := { row := syntaxParseRow, standIns := [], harness := (true, "ce2f6d22ec1ab6b6983773e5a5673d6df0ad457cbc35673e0a1c7c6e2101b5e8"), looks := true }, kinds := [], alts := [], laidByText := true, laidKinds := [.data, .data, .data, .sentinel, .sentinel, .widerDeep, .widerDeep, .widerDeep], laidTests := true, laidLooks := .later }
def SyntaxParseCardSaid : Prop := Claim7.holds Tryz.pinned (.plain (OpenSpec.ofChange syntaxParseSpec)) syntaxParseCard

/-- THE TIED CARD OF 'tellaw18.SyntaxWords'. -/
def syntaxWordsCard : Claim7 := { stood := { row := syntaxWordsRow, standIns := [], harness := (true, "ce2f6d22ec1ab6b6983773e5a5673d6df0ad457cbc35673e0a1c7c6e2101b5e8"), looks := true }, kinds := [], alts := [], laidByText := true, laidKinds := [.data, .data, .data, .sentinel, .sentinel, .widerDeep, .widerDeep, .widerDeep, .data], laidTests := true, laidLooks := .later }
def SyntaxWordsCardSaid : Prop := Claim7.holds Tryz.pinned (.plain (OpenSpec.ofChange syntaxWordsSpec)) syntaxWordsCard

/-- THE SECOND FORM's CARD OF 'tellaw18.SyntaxParse'. -/
def syntaxParseUptoCard : Claim7 := { stood := { row := syntaxParseUptoRow, standIns := [], harness := (true, "ce2f6d22ec1ab6b6983773e5a5673d6df0ad457cbc35673e0a1c7c6e2101b5e8"), looks := true }, kinds := [], alts := [], laidByText := true, laidKinds := [.data, .data, .data, .sentinel, .sentinel, .widerDeep, .widerDeep, .widerDeep], laidTests := true, laidLooks := .later }
def SyntaxParseUptoCardSaid : Prop := Claim7.holds Tryz.pinned (.plain (OpenSpec.upto syntaxParseSpec)) syntaxParseUptoCard

/-- THE SECOND FORM's CARD OF 'tellaw18.SyntaxWords'. -/
def syntaxWordsUptoCard : Claim7 := { stood := { row := syntaxWordsUptoRow, standIns := [], harness := (true, "ce2f6d22ec1ab6b6983773e5a5673d6df0ad457cbc35673e0a1c7c6e2101b5e8"), looks := true }, kinds := [], alts := [], laidByText := true, laidKinds := [.data, .data, .data, .sentinel, .sentinel, .widerDeep, .widerDeep, .widerDeep, .data], laidTests := true, laidLooks := .later }
def SyntaxWordsUptoCardSaid : Prop := Claim7.holds Tryz.pinned (.plain (OpenSpec.upto syntaxWordsSpec)) syntaxWordsUptoCard
end Rows
end Go.Proofs.YtdjcfaaongngeaaGreatDoor
