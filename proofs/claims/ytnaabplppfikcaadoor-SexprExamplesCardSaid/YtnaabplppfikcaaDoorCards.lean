/-
  DERIVED. GIVEN WITH THE SEED: THE CARDS: each row of YtnaabplppfikcaaDoorRows.lean that lists a variable, with what it lists TIED to the program's text (the seventh form; the later family's looks); each row that meets fmt, with fmt's text TOLD by the authors' own Lean function (tested against real Go, not proved from fmt's source: count such statements apart). THE CARD IS WHAT COUNTS. Prove the row's statement (the work); the ties are given (YtnaabplppfikcaaDoorTie.lean); close each card by the builder's one call (the guide's Derived/Test/ToyasCard.lean, 'card_holds'). Laid BY PROGRAM, IN A SANDBOX (cutbox-door.mjs). By AI agents, Wed Nov 11 2026. No macro, syntax, notation, axiom, sorry.
-/
import Derived.Test.YtnaabplppfikcaaDoorRows
import GoSem.ClaimSeven
namespace Go.Proofs.YtnaabplppfikcaaDoor
namespace Rows

/-- THE TIED CARD OF 'tellaw1.SexprPrefix'. -/
def sexprPrefixCard : Claim7 := { stood := { row := sexprPrefixRow, standIns := [], harness := (true, "0d5cf6c9aacb970580883e22a9cec82e19d54c2563d464c031d90e3060b78841"), looks := true }, kinds := [], alts := [], laidByText := true, laidKinds := [.data, .data], laidTests := true, laidLooks := .later }
def SexprPrefixCardSaid : Prop := Claim7.holds Tryd.pinned (.plain (OpenSpec.ofChange sexprPrefixSpec)) sexprPrefixCard

/-- THE TIED CARD OF 'tellaw1.SexprSpacing'. -/
def sexprSpacingCard : Claim7 := { stood := { row := sexprSpacingRow, standIns := [], harness := (true, "0d5cf6c9aacb970580883e22a9cec82e19d54c2563d464c031d90e3060b78841"), looks := true }, kinds := [], alts := [], laidByText := true, laidKinds := [.data, .data, .data], laidTests := true, laidLooks := .later }
def SexprSpacingCardSaid : Prop := Claim7.holds Tryd.pinned (.plain (OpenSpec.ofChange sexprSpacingSpec)) sexprSpacingCard

/-- THE TIED CARD OF 'tellaw1.SexprMeasures'. -/
def sexprMeasuresCard : Claim7 := { stood := { row := sexprMeasuresRow, standIns := [], harness := (true, "0d5cf6c9aacb970580883e22a9cec82e19d54c2563d464c031d90e3060b78841"), looks := true }, kinds := [], alts := [], laidByText := true, laidKinds := [.data, .data], laidTests := true, laidLooks := .later }
def SexprMeasuresCardSaid : Prop := Claim7.holds Tryd.pinned (.plain (OpenSpec.ofChange sexprMeasuresSpec)) sexprMeasuresCard

/-- THE TIED CARD OF 'tellaw1.SexprValid'. -/
def sexprValidCard : Claim7 := { stood := { row := sexprValidRow, standIns := [], harness := (true, "0d5cf6c9aacb970580883e22a9cec82e19d54c2563d464c031d90e3060b78841"), looks := true }, kinds := [], alts := [], laidByText := true, laidKinds := [.data, .data], laidTests := true, laidLooks := .later }
def SexprValidCardSaid : Prop := Claim7.holds Tryd.pinned (.plain (OpenSpec.ofChange sexprValidSpec)) sexprValidCard

/-- THE TIED CARD OF 'tellaw1.SexprRoundTrip'. -/
def sexprRoundTripCard : Claim7 := { stood := { row := sexprRoundTripRow, standIns := [], harness := (true, "0d5cf6c9aacb970580883e22a9cec82e19d54c2563d464c031d90e3060b78841"), looks := true }, kinds := [], alts := [], laidByText := true, laidKinds := [.data, .data], laidTests := true, laidLooks := .later }
def SexprRoundTripCardSaid : Prop := Claim7.holds Tryd.pinned (.plain (OpenSpec.ofChange sexprRoundTripSpec)) sexprRoundTripCard

/-- THE TIED CARD OF 'tellaw1.SexprWords'. -/
def sexprWordsCard : Claim7 := { stood := { row := sexprWordsRow, standIns := [], harness := (true, "0d5cf6c9aacb970580883e22a9cec82e19d54c2563d464c031d90e3060b78841"), looks := true }, kinds := [], alts := [], laidByText := true, laidKinds := [.data, .data, .data, .sentinel, .sentinel], laidTests := true, laidLooks := .later }
def SexprWordsCardSaid : Prop := Claim7.holds Tryd.pinned (.plain (OpenSpec.ofChange sexprWordsSpec)) sexprWordsCard

/-- THE TIED CARD OF 'tellaw1.SexprExamples'. -/
def sexprExamplesCard : Claim7 := { stood := { row := sexprExamplesRow, standIns := [], harness := (true, "0d5cf6c9aacb970580883e22a9cec82e19d54c2563d464c031d90e3060b78841"), looks := true }, kinds := [], alts := [], laidByText := true, laidKinds := [.data, .data, .data, .sentinel, .sentinel], laidTests := true, laidLooks := .later }
def SexprExamplesCardSaid : Prop := Claim7.holds Tryd.pinned (.plain (OpenSpec.ofChange sexprExamplesSpec)) sexprExamplesCard

/-- THE SECOND FORM's CARD OF 'tellaw1.SexprPrefix'. -/
def sexprPrefixUptoCard : Claim7 := { stood := { row := sexprPrefixUptoRow, standIns := [], harness := (true, "0d5cf6c9aacb970580883e22a9cec82e19d54c2563d464c031d90e3060b78841"), looks := true }, kinds := [], alts := [], laidByText := true, laidKinds := [.data, .data], laidTests := true, laidLooks := .later }
def SexprPrefixUptoCardSaid : Prop := Claim7.holds Tryd.pinned (.plain (OpenSpec.upto sexprPrefixSpec)) sexprPrefixUptoCard

/-- THE SECOND FORM's CARD OF 'tellaw1.SexprSpacing'. -/
def sexprSpacingUptoCard : Claim7 := { stood := { row := sexprSpacingUptoRow, standIns := [], harness := (true, "0d5cf6c9aacb970580883e22a9cec82e19d54c2563d464c031d90e3060b78841"), looks := true }, kinds := [], alts := [], laidByText := true, laidKinds := [.data, .data, .data], laidTests := true, laidLooks := .later }
def SexprSpacingUptoCardSaid : Prop := Claim7.holds Tryd.pinned (.plain (OpenSpec.upto sexprSpacingSpec)) sexprSpacingUptoCard

/-- THE SECOND FORM's CARD OF 'tellaw1.SexprMeasures'. -/
def sexprMeasuresUptoCard : Claim7 := { stood := { row := sexprMeasuresUptoRow, standIns := [], harness := (true, "0d5cf6c9aacb970580883e22a9cec82e19d54c2563d464c031d90e3060b78841"), looks := true }, kinds := [], alts := [], laidByText := true, laidKinds := [.data, .data], laidTests := true, laidLooks := .later }
def SexprMeasuresUptoCardSaid : Prop := Claim7.holds Tryd.pinned (.plain (OpenSpec.upto sexprMeasuresSpec)) sexprMeasuresUptoCard

/-- THE SECOND FORM's CARD OF 'tellaw1.SexprValid'. -/
def sexprValidUptoCard : Claim7 := { stood := { row := sexprValidUptoRow, standIns := [], harness := (true, "0d5cf6c9aacb970580883e22a9cec82e19d54c2563d464c031d90e3060b78841"), looks := true }, kinds := [], alts := [], laidByText := true, laidKinds := [.data, .data], laidTests := true, laidLooks := .later }
def SexprValidUptoCardSaid : Prop := Claim7.holds Tryd.pinned (.plain (OpenSpec.upto sexprValidSpec)) sexprValidUptoCard

/-- THE SECOND FORM's CARD OF 'tellaw1.SexprRoundTrip'. -/
def sexprRoundTripUptoCard : Claim7 := { stood := { row := sexprRoundTripUptoRow, standIns := [], harness := (true, "0d5cf6c9aacb970580883e22a9cec82e19d54c2563d464c031d90e3060b78841"), looks := true }, kinds := [], alts := [], laidByText := true, laidKinds := [.data, .data], laidTests := true, laidLooks := .later }
def SexprRoundTripUptoCardSaid : Prop := Claim7.holds Tryd.pinned (.plain (OpenSpec.upto sexprRoundTripSpec)) sexprRoundTripUptoCard

/-- THE SECOND FORM's CARD OF 'tellaw1.SexprWords'. -/
def sexprWordsUptoCard : Claim7 := { stood := { row := sexprWordsUptoRow, standIns := [], harness := (true, "0d5cf6c9aacb970580883e22a9cec82e19d54c2563d464c031d90e3060b78841"), looks := true }, kinds := [], alts := [], laidByText := true, laidKinds := [.data, .data, .data, .sentinel, .sentinel], laidTests := true, laidLooks := .later }
def SexprWordsUptoCardSaid : Prop := Claim7.holds Tryd.pinned (.plain (OpenSpec.upto sexprWordsSpec)) sexprWordsUptoCard

/-- THE SECOND FORM's CARD OF 'tellaw1.SexprExamples'. -/
def sexprExamplesUptoCard : Claim7 := { stood := { row := sexprExamplesUptoRow, standIns := [], harness := (true, "0d5cf6c9aacb970580883e22a9cec82e19d54c2563d464c031d90e3060b78841"), looks := true }, kinds := [], alts := [], laidByText := true, laidKinds := [.data, .data, .data, .sentinel, .sentinel], laidTests := true, laidLooks := .later }
def SexprExamplesUptoCardSaid : Prop := Claim7.holds Tryd.pinned (.plain (OpenSpec.upto sexprExamplesSpec)) sexprExamplesUptoCard
end Rows
end Go.Proofs.YtnaabplppfikcaaDoor
