/-
  DERIVED. GIVEN WITH THE SEED: THE CARDS: each row of YtjaaajmiojigbaaGreatDoorRows.lean that lists a variable, with what it lists TIED to the program's text (the seventh form; the later family's looks); each row that meets fmt, with fmt's text TOLD by the authors' own Lean function (tested against real Go, not proved from fmt's source: count such statements apart). THE CARD IS WHAT COUNTS. Prove the row's statement (the work); the ties are given (YtjaaajmiojigbaaGreatDoorTie.lean); close each card by the builder's one call (the guide's Derived/Test/ToyasCard.lean, 'card_holds'). Laid BY PROGRAM, IN A SANDBOX (cutbox-door.mjs). By AI agents, Wed Nov 11 2026. No macro, syntax, notation, axiom, sorry.
-/
import Derived.Test.YtjaaajmiojigbaaGreatDoorRows
import GoSem.ClaimSeven
namespace Go.Proofs.YtjaaajmiojigbaaGreatDoor
namespace Rows

/-- THE TIED CARD OF 'tellaw20.InterpDepth'. -/
def interpDepthCard : Claim7 := { stood := { row := interpDepthRow, standIns := [], harness := (true, "bad5b20e560c9c8e6792b5cec5a494932d2ca2ccc55ab9e206178ec38865cfd2"), looks := true }, kinds := [], alts := [], laidByText := true, laidKinds := [.data, .data, .data, .sentinel, .sentinel, .widerDeep, .widerDeep], laidTests := true, laidLooks := .later }
def InterpDepthCardSaid : Prop := Claim7.holds Tryz.pinned (.plain (OpenSpec.ofChange interpDepthSpec)) interpDepthCard

/-- THE SECOND FORM's CARD OF 'tellaw20.InterpDepth'. -/
def interpDepthUptoCard : Claim7 := { stood := { row := interpDepthUptoRow, standIns := [], harness := (true, "bad5b20e560c9c8e6792b5cec5a494932d2ca2ccc55ab9e206178ec38865cfd2"), looks := true }, kinds := [], alts := [], laidByText := true, laidKinds := [.data, .data, .data, .sentinel, .sentinel, .widerDeep, .widerDeep], laidTests := true, laidLooks := .later }
def InterpDepthUptoCardSaid : Prop := Claim7.holds Tryz.pinned (.plain (OpenSpec.upto interpDepthSpec)) interpDepthUptoCard
end Rows
end Go.Proofs.YtjaaajmiojigbaaGreatDoor
