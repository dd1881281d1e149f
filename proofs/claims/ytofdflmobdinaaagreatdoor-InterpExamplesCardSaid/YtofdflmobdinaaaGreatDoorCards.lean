/-
  DERIVED. GIVEN WITH THE SEED: THE CARDS: each row of YtofdflmobdinaaaGreatDoorRows.lean that lists a variable, with what it lists TIED to the program's text (the seventh form; the later family's looks); each row that meets fmt, with fmt's text TOLD by the authors' own Lean function (tested against real Go, not proved from fmt's source: count such statements apart). THE CARD IS WHAT COUNTS. Prove the row's statement (the work); the ties are given (YtofdflmobdinaaaGreatDoorTie.lean); close each card by the builder's one call (the guide's Derived/Test/ToyasCard.lean, 'card_holds'). Laid BY PROGRAM, IN A SANDBOX (cutbox-door.mjs). By AI agents, Wed Nov 11 2026. No macro, syntax, notation, axiom, sorry.
-/
import Derived.Test.YtofdflmobdinaaaGreatDoorRows
import GoSem.ClaimSeven
namespace Go.Proofs.YtofdflmobdinaaaGreatDoor
namespace Rows

/-- THE TIED CARD OF 'tellaw20.InterpExamples'. -/
def interpExamplesCard : Claim7 := { stood := { row := interpExamplesRow, standIns := [], harness := (true, "e2f3573fd133841f3b35e0ca8947be4147577dde4f7316b3e81d1908a6a4eec5"), looks := true }, kinds := [], alts := [], laidByText := true, laidKinds := [.data, .data, .data, .sentinel, .sentinel, .widerDeep, .widerDeep], laidTests := true, laidLooks := .later }
def InterpExamplesCardSaid : Prop := Claim7.holds Tryz.pinned (.plain (OpenSpec.ofChange interpExamplesSpec)) interpExamplesCard

/-- THE SECOND FORM's CARD OF 'tellaw20.InterpExamples'. -/
def interpExamplesUptoCard : Claim7 := { stood := { row := interpExamplesUptoRow, standIns := [], harness := (true, "e2f3573fd133841f3b35e0ca8947be4147577dde4f7316b3e81d1908a6a4eec5"), looks := true }, kinds := [], alts := [], laidByText := true, laidKinds := [.data, .data, .data, .sentinel, .sentinel, .widerDeep, .widerDeep], laidTests := true, laidLooks := .later }
def InterpExamplesUptoCardSaid : Prop := Claim7.holds Tryz.pinned (.plain (OpenSpec.upto interpExamplesSpec)) interpExamplesUptoCard
end Rows
end Go.Proofs.YtofdflmobdinaaaGreatDoor
