/-
  NARROWER THAN 'FOR EVERY INPUT', by the rows' own cells (each row's printed sentence says how): SexprPrefix: laid · SexprSpacing: laid · SexprMeasures: laid · SexprValid: laid · SexprRoundTrip: laid · SexprWords: laid · SexprExamples: laid.
  DERIVED. THE GIVEN ROWS OF THIS SEAT. 7 by the template 'for every input the law returns true; each argument reads behind the call as it read before'; 0 by the template 'total and deterministic' (their statements: YtnaabplppfikcaaDoorTotals.lean).
  GIVEN WITH THE SEED: the statements are not yours to turn. If you find one false, say at which input.
  Laid BY PROGRAM, IN A SANDBOX (cutbox-rows.mjs): the forced cells as the released guide's own fill.sh prints them over the translation 4856a1fff0d20fca… (all of the seat's roots in one cut). By AI agents, Wed Nov 11 2026. No macro, syntax, notation, axiom, sorry.
-/
import Derived.Test.YtnaabplppfikcaaDoorChecked
import GoSem.Claim
import GoSem.ClaimJoined
import GoSem.ClaimMapViews
import Derived.JoinedTies
import Derived.KernelRfl
namespace Go.Proofs.YtnaabplppfikcaaDoor
/- THE CELL 'sum', in the pinned program and in every row, IS THE sha256 OF THE DUMP (.gsa) THAT YtnaabplppfikcaaDoorProg.lean LOADS. Nothing in Lean hashes anything: it is a label: what it is worth is what the hold of that sum in a sandbox is worth. -/
noncomputable def Tryd.pinned : Pinned := { name := "ytnaabplppfikcaadoor", sum := "4856a1fff0d20fcac6ba1dab869e7d1bfe3d70d9aa3448599433da0d13dc8a73", checked := Tryd.checked }
namespace Rows
def none {H : Type} : Left H := { results := [], args := [] }

/- WHAT THE LISTED PACKAGE-LEVEL VARIABLES READ AS WHEN THE CALL BEGINS. Each datum BY PROGRAM (the guide's laid-datum.mjs) off the statement by which the dump's own 'gosem.cut.vars' lays the variable. In a bare row this is a premise. The card (YtnaabplppfikcaaDoorCards.lean) ties it to the program's text. -/
def laid_telpher_telmake_words {H : Type} : DataW H := .slice [.lit (.string [97]), .lit (.string [120, 49]), .lit (.string [45, 55]), .lit (.string [48]), .lit (.string [66, 111, 120]), .lit (.string [97, 100, 100]), .lit (.string [108, 101, 116]), .lit (.string [116, 114, 117, 101]), .lit (.string [110, 105, 108]), .lit (.string [65]), .lit (.string [65, 110, 121]), .lit (.string [116, 117, 112, 108, 101]), .lit (.string [97, 45, 98]), .lit (.string [101, 120, 105, 115, 116, 115]), .lit (.string [116, 97, 115, 107]), .lit (.string [50, 49, 52, 55, 52, 56, 51, 54, 52, 56])] []
def laid_telpher_telmake_strings {H : Type} : DataW H := .slice [.lit (.string []), .lit (.string [97, 32, 98]), .lit (.string [113, 117, 111, 116, 101, 32, 34, 32, 97, 110, 100, 32, 92]), .lit (.string [126]), .lit (.string [40, 110, 111, 116, 32, 97, 32, 108, 105, 115, 116, 41]), .lit (.string [59, 32, 110, 111, 32, 99, 111, 109, 109, 101, 110, 116])] []
def laid_telpher_tellaw1_separators {H : Type} : DataW H := .slice [.lit (.string [32]), .lit (.string [10]), .lit (.string [32, 32]), .lit (.string [59, 120, 10]), .lit (.string [32, 59, 32, 40, 10, 32]), .lit (.string [10, 10])] []
def laid_math_bits_deBruijn32tab {H : Type} : DataW H := .agg [.lit (.int .u8 0), .lit (.int .u8 1), .lit (.int .u8 28), .lit (.int .u8 2), .lit (.int .u8 29), .lit (.int .u8 14), .lit (.int .u8 24), .lit (.int .u8 3), .lit (.int .u8 30), .lit (.int .u8 22), .lit (.int .u8 20), .lit (.int .u8 15), .lit (.int .u8 25), .lit (.int .u8 17), .lit (.int .u8 4), .lit (.int .u8 8), .lit (.int .u8 31), .lit (.int .u8 27), .lit (.int .u8 13), .lit (.int .u8 23), .lit (.int .u8 21), .lit (.int .u8 19), .lit (.int .u8 16), .lit (.int .u8 7), .lit (.int .u8 26), .lit (.int .u8 12), .lit (.int .u8 18), .lit (.int .u8 6), .lit (.int .u8 11), .lit (.int .u8 5), .lit (.int .u8 10), .lit (.int .u8 9)]
def laid_math_bits_deBruijn64tab {H : Type} : DataW H := .agg [.lit (.int .u8 0), .lit (.int .u8 1), .lit (.int .u8 56), .lit (.int .u8 2), .lit (.int .u8 57), .lit (.int .u8 49), .lit (.int .u8 28), .lit (.int .u8 3), .lit (.int .u8 61), .lit (.int .u8 58), .lit (.int .u8 42), .lit (.int .u8 50), .lit (.int .u8 38), .lit (.int .u8 29), .lit (.int .u8 17), .lit (.int .u8 4), .lit (.int .u8 62), .lit (.int .u8 47), .lit (.int .u8 59), .lit (.int .u8 36), .lit (.int .u8 45), .lit (.int .u8 43), .lit (.int .u8 51), .lit (.int .u8 22), .lit (.int .u8 53), .lit (.int .u8 39), .lit (.int .u8 33), .lit (.int .u8 30), .lit (.int .u8 24), .lit (.int .u8 18), .lit (.int .u8 12), .lit (.int .u8 5), .lit (.int .u8 63), .lit (.int .u8 55), .lit (.int .u8 48), .lit (.int .u8 27), .lit (.int .u8 60), .lit (.int .u8 41), .lit (.int .u8 37), .lit (.int .u8 16), .lit (.int .u8 46), .lit (.int .u8 35), .lit (.int .u8 44), .lit (.int .u8 21), .lit (.int .u8 52), .lit (.int .u8 32), .lit (.int .u8 23), .lit (.int .u8 11), .lit (.int .u8 54), .lit (.int .u8 26), .lit (.int .u8 40), .lit (.int .u8 15), .lit (.int .u8 34), .lit (.int .u8 20), .lit (.int .u8 31), .lit (.int .u8 10), .lit (.int .u8 25), .lit (.int .u8 14), .lit (.int .u8 19), .lit (.int .u8 9), .lit (.int .u8 13), .lit (.int .u8 8), .lit (.int .u8 7), .lit (.int .u8 6)]
def laid_internal_strconv_uint64pow10 {H : Type} : DataW H := .agg [.lit (.int .u64 1), .lit (.int .u64 10), .lit (.int .u64 100), .lit (.int .u64 1000), .lit (.int .u64 10000), .lit (.int .u64 100000), .lit (.int .u64 1000000), .lit (.int .u64 10000000), .lit (.int .u64 100000000), .lit (.int .u64 1000000000), .lit (.int .u64 10000000000), .lit (.int .u64 100000000000), .lit (.int .u64 1000000000000), .lit (.int .u64 10000000000000), .lit (.int .u64 100000000000000), .lit (.int .u64 1000000000000000), .lit (.int .u64 10000000000000000), .lit (.int .u64 100000000000000000), .lit (.int .u64 1000000000000000000), .lit (.int .u64 10000000000000000000)]
def laid_strconv_ErrRange {H : Type} : DataW H := .iface "*errors.errorString" (.ptr (.agg [.lit (.string [118, 97, 108, 117, 101, 32, 111, 117, 116, 32, 111, 102, 32, 114, 97, 110, 103, 101])]))
def laid_strconv_ErrSyntax {H : Type} : DataW H := .iface "*errors.errorString" (.ptr (.agg [.lit (.string [105, 110, 118, 97, 108, 105, 100, 32, 115, 121, 110, 116, 97, 120])]))

/-- 'tellaw1.SexprPrefix': WHATEVER THE INPUT: true; the input reads as it did. -/
def sexprPrefixSpec : ChangeSpec := { name := "sexprPrefix", fn := fun _ => fun
  | [d1, d2, d3] => { results := [.lit (.bool true)], args := [d1, d2, d3] }
  | _ => none }
def sexprPrefixRow : OpenClaim := { program := "ytnaabplppfikcaadoor", sum := "4856a1fff0d20fcac6ba1dab869e7d1bfe3d70d9aa3448599433da0d13dc8a73", func := "telpher/tellaw1.SexprPrefix", spec := "sexprPrefix", inPlace := ["internal/bytealg.IndexByteString"], unfollowed := true, recurses := true, named := ["telpher/telmake.strings", "telpher/telmake.words"], apart := false, laid := [("telpher/telmake.words", laid_telpher_telmake_words), ("telpher/telmake.strings", laid_telpher_telmake_strings)] }
def SexprPrefixSaid : Prop := sexprPrefixRow.holds Tryd.pinned (OpenSpec.ofChange sexprPrefixSpec)

/-- ITS FALSE NEIGHBOUR: 'it returns false'. Refute it at one input. -/
def sexprPrefixWrong : ChangeSpec := { name := "sexprPrefix", fn := fun _ => fun
  | [d1, d2, d3] => { results := [.lit (.bool false)], args := [d1, d2, d3] }
  | _ => none }
def SexprPrefixWrongFalsely : Prop := sexprPrefixRow.holds Tryd.pinned (OpenSpec.ofChange sexprPrefixWrong)

/-- 'tellaw1.SexprSpacing': WHATEVER THE INPUT: true; the input reads as it did. -/
def sexprSpacingSpec : ChangeSpec := { name := "sexprSpacing", fn := fun _ => fun
  | [d1, d2] => { results := [.lit (.bool true)], args := [d1, d2] }
  | _ => none }
def sexprSpacingRow : OpenClaim := { program := "ytnaabplppfikcaadoor", sum := "4856a1fff0d20fcac6ba1dab869e7d1bfe3d70d9aa3448599433da0d13dc8a73", func := "telpher/tellaw1.SexprSpacing", spec := "sexprSpacing", inPlace := ["internal/bytealg.IndexByteString"], unfollowed := true, recurses := true, named := ["telpher/tellaw1.separators", "telpher/telmake.strings", "telpher/telmake.words"], apart := false, laid := [("telpher/telmake.words", laid_telpher_telmake_words), ("telpher/telmake.strings", laid_telpher_telmake_strings), ("telpher/tellaw1.separators", laid_telpher_tellaw1_separators)] }
def SexprSpacingSaid : Prop := sexprSpacingRow.holds Tryd.pinned (OpenSpec.ofChange sexprSpacingSpec)

/-- ITS FALSE NEIGHBOUR: 'it returns false'. Refute it at one input. -/
def sexprSpacingWrong : ChangeSpec := { name := "sexprSpacing", fn := fun _ => fun
  | [d1, d2] => { results := [.lit (.bool false)], args := [d1, d2] }
  | _ => none }
def SexprSpacingWrongFalsely : Prop := sexprSpacingRow.holds Tryd.pinned (OpenSpec.ofChange sexprSpacingWrong)

/-- 'tellaw1.SexprMeasures': WHATEVER THE INPUT: true; the input reads as it did. -/
def sexprMeasuresSpec : ChangeSpec := { name := "sexprMeasures", fn := fun _ => fun
  | [d1, d2] => { results := [.lit (.bool true)], args := [d1, d2] }
  | _ => none }
def sexprMeasuresRow : OpenClaim := { program := "ytnaabplppfikcaadoor", sum := "4856a1fff0d20fcac6ba1dab869e7d1bfe3d70d9aa3448599433da0d13dc8a73", func := "telpher/tellaw1.SexprMeasures", spec := "sexprMeasures", inPlace := ["internal/bytealg.IndexByteString"], unfollowed := true, recurses := true, named := ["telpher/telmake.strings", "telpher/telmake.words"], apart := false, laid := [("telpher/telmake.words", laid_telpher_telmake_words), ("telpher/telmake.strings", laid_telpher_telmake_strings)] }
def SexprMeasuresSaid : Prop := sexprMeasuresRow.holds Tryd.pinned (OpenSpec.ofChange sexprMeasuresSpec)

/-- ITS FALSE NEIGHBOUR: 'it returns false'. Refute it at one input. -/
def sexprMeasuresWrong : ChangeSpec := { name := "sexprMeasures", fn := fun _ => fun
  | [d1, d2] => { results := [.lit (.bool false)], args := [d1, d2] }
  | _ => none }
def SexprMeasuresWrongFalsely : Prop := sexprMeasuresRow.holds Tryd.pinned (OpenSpec.ofChange sexprMeasuresWrong)

/-- 'tellaw1.SexprValid': WHATEVER THE INPUT: true; the input reads as it did. -/
def sexprValidSpec : ChangeSpec := { name := "sexprValid", fn := fun _ => fun
  | [d1, d2] => { results := [.lit (.bool true)], args := [d1, d2] }
  | _ => none }
def sexprValidRow : OpenClaim := { program := "ytnaabplppfikcaadoor", sum := "4856a1fff0d20fcac6ba1dab869e7d1bfe3d70d9aa3448599433da0d13dc8a73", func := "telpher/tellaw1.SexprValid", spec := "sexprValid", inPlace := ["internal/abi.NoEscape", "internal/bytealg.IndexByteString"], unfollowed := true, recurses := true, named := ["telpher/telmake.strings", "telpher/telmake.words"], apart := false, laid := [("telpher/telmake.words", laid_telpher_telmake_words), ("telpher/telmake.strings", laid_telpher_telmake_strings)] }
def SexprValidSaid : Prop := sexprValidRow.holds Tryd.pinned (OpenSpec.ofChange sexprValidSpec)

/-- ITS FALSE NEIGHBOUR: 'it returns false'. Refute it at one input. -/
def sexprValidWrong : ChangeSpec := { name := "sexprValid", fn := fun _ => fun
  | [d1, d2] => { results := [.lit (.bool false)], args := [d1, d2] }
  | _ => none }
def SexprValidWrongFalsely : Prop := sexprValidRow.holds Tryd.pinned (OpenSpec.ofChange sexprValidWrong)

/-- 'tellaw1.SexprRoundTrip': WHATEVER THE INPUT: true; the input reads as it did. -/
def sexprRoundTripSpec : ChangeSpec := { name := "sexprRoundTrip", fn := fun _ => fun
  | [d] => { results := [.lit (.bool true)], args := [d] }
  | _ => none }
def sexprRoundTripRow : OpenClaim := { program := "ytnaabplppfikcaadoor", sum := "4856a1fff0d20fcac6ba1dab869e7d1bfe3d70d9aa3448599433da0d13dc8a73", func := "telpher/tellaw1.SexprRoundTrip", spec := "sexprRoundTrip", inPlace := ["internal/abi.NoEscape", "internal/bytealg.IndexByteString"], unfollowed := true, recurses := true, named := ["telpher/telmake.strings", "telpher/telmake.words"], apart := false, laid := [("telpher/telmake.words", laid_telpher_telmake_words), ("telpher/telmake.strings", laid_telpher_telmake_strings)] }
def SexprRoundTripSaid : Prop := sexprRoundTripRow.holds Tryd.pinned (OpenSpec.ofChange sexprRoundTripSpec)

/-- ITS FALSE NEIGHBOUR: 'it returns false'. Refute it at one input. -/
def sexprRoundTripWrong : ChangeSpec := { name := "sexprRoundTrip", fn := fun _ => fun
  | [d] => { results := [.lit (.bool false)], args := [d] }
  | _ => none }
def SexprRoundTripWrongFalsely : Prop := sexprRoundTripRow.holds Tryd.pinned (OpenSpec.ofChange sexprRoundTripWrong)

/-- 'tellaw1.SexprWords': WHATEVER THE INPUT: true; the input reads as it did. -/
def sexprWordsSpec : ChangeSpec := { name := "sexprWords", fn := fun _ => fun
  | [d1, d2] => { results := [.lit (.bool true)], args := [d1, d2] }
  | _ => none }
def sexprWordsRow : OpenClaim := { program := "ytnaabplppfikcaadoor", sum := "4856a1fff0d20fcac6ba1dab869e7d1bfe3d70d9aa3448599433da0d13dc8a73", func := "telpher/tellaw1.SexprWords", spec := "sexprWords", inPlace := ["internal/bytealg.IndexByteString"], unfollowed := true, recurses := true, named := ["strconv.ErrSyntax", "strconv.ErrRange", "internal/strconv.uint64pow10", "math/bits.deBruijn32tab", "math/bits.deBruijn64tab"], apart := false, laid := [("math/bits.deBruijn32tab", laid_math_bits_deBruijn32tab), ("math/bits.deBruijn64tab", laid_math_bits_deBruijn64tab), ("internal/strconv.uint64pow10", laid_internal_strconv_uint64pow10), ("strconv.ErrRange", laid_strconv_ErrRange), ("strconv.ErrSyntax", laid_strconv_ErrSyntax)] }
def SexprWordsSaid : Prop := sexprWordsRow.holds Tryd.pinned (OpenSpec.ofChange sexprWordsSpec)

/-- ITS FALSE NEIGHBOUR: 'it returns false'. Refute it at one input. -/
def sexprWordsWrong : ChangeSpec := { name := "sexprWords", fn := fun _ => fun
  | [d1, d2] => { results := [.lit (.bool false)], args := [d1, d2] }
  | _ => none }
def SexprWordsWrongFalsely : Prop := sexprWordsRow.holds Tryd.pinned (OpenSpec.ofChange sexprWordsWrong)

/-- 'tellaw1.SexprExamples': WHATEVER THE INPUT: true; the input reads as it did. -/
def sexprExamplesSpec : ChangeSpec := { name := "sexprExamples", fn := fun _ => fun
  | [] => { results := [.lit (.bool true)], args := [] }
  | _ => none }
def sexprExamplesRow : OpenClaim := { program := "ytnaabplppfikcaadoor", sum := "4856a1fff0d20fcac6ba1dab869e7d1bfe3d70d9aa3448599433da0d13dc8a73", func := "telpher/tellaw1.SexprExamples", spec := "sexprExamples", inPlace := ["internal/bytealg.IndexByteString", "internal/abi.NoEscape"], unfollowed := true, recurses := true, named := ["strconv.ErrSyntax", "strconv.ErrRange", "internal/strconv.uint64pow10", "math/bits.deBruijn32tab", "math/bits.deBruijn64tab"], apart := false, laid := [("math/bits.deBruijn32tab", laid_math_bits_deBruijn32tab), ("math/bits.deBruijn64tab", laid_math_bits_deBruijn64tab), ("internal/strconv.uint64pow10", laid_internal_strconv_uint64pow10), ("strconv.ErrRange", laid_strconv_ErrRange), ("strconv.ErrSyntax", laid_strconv_ErrSyntax)] }
def SexprExamplesSaid : Prop := sexprExamplesRow.holds Tryd.pinned (OpenSpec.ofChange sexprExamplesSpec)

/-- ITS FALSE NEIGHBOUR: 'it returns false'. Refute it at one input. -/
def sexprExamplesWrong : ChangeSpec := { name := "sexprExamples", fn := fun _ => fun
  | [] => { results := [.lit (.bool false)], args := [] }
  | _ => none }
def SexprExamplesWrongFalsely : Prop := sexprExamplesRow.holds Tryd.pinned (OpenSpec.ofChange sexprExamplesWrong)

/- THE SECOND FORM. 'bulk': how many values and letters a reading holds, each counted each time it is reached (what is shared counts as often as it is met; a slice's spare places count too). A statement '..UptoSaid' is the law's where the arguments, and the package variables that the reading takes, are together of bulk at most 1048576: NARROWER than '..Said'. Prove '..Said' where nothing that the law and all that it calls make is longer than what came in: it says more and counts as full. Else prove '..UptoSaid'. A law counts once. -/
mutual
def uptoBulk {H : Type} : DataW H → Nat
  | .lit (.string bytes) => bytes.length + 1
  | .lit _ => 1
  | .nil => 1
  | .ptr d => uptoBulk d + 1
  | .slice elems spare => uptoBulkAll elems + uptoBulkAll spare + 1
  | .agg parts => uptoBulkAll parts + 1
  | .iface _ d => uptoBulk d + 1
  | .map entries => uptoBulkEntries entries + 1
  | .held _ => 1
def uptoBulkAll {H : Type} : List (DataW H) → Nat
  | [] => 0
  | d :: r => uptoBulk d + uptoBulkAll r
def uptoBulkEntries {H : Type} : List (Lit × DataW H) → Nat
  | [] => 0
  | x :: r => uptoBulkEntry x + uptoBulkEntries r
def uptoBulkEntry {H : Type} : Lit × DataW H → Nat
  | (.string bytes, d) => bytes.length + uptoBulk d + 1
  | (_, d) => uptoBulk d + 1
 end
def uptoSmall : (H : Type) → List (DataW H) → Bool := fun _ ds => decide (uptoBulkAll ds ≤ 1048576)
def OpenSpec.upto (s : _root_.Go.ChangeSpec) : _root_.Go.OpenSpec := { _root_.Go.OpenSpec.ofChange s with cond := some uptoSmall }

/-- 'tellaw1.SexprPrefix', WHERE WHAT IT READS IS OF BULK AT MOST 1048576: true; the input reads as it did. -/
def sexprPrefixUptoRow : OpenClaim := { program := "ytnaabplppfikcaadoor", sum := "4856a1fff0d20fcac6ba1dab869e7d1bfe3d70d9aa3448599433da0d13dc8a73", func := "telpher/tellaw1.SexprPrefix", spec := "sexprPrefix", inPlace := ["internal/bytealg.IndexByteString"], unfollowed := true, recurses := true, named := ["telpher/telmake.strings", "telpher/telmake.words"], apart := false, laid := [("telpher/telmake.words", laid_telpher_telmake_words), ("telpher/telmake.strings", laid_telpher_telmake_strings)], narrowed := true }
def SexprPrefixUptoSaid : Prop := sexprPrefixUptoRow.holds Tryd.pinned (OpenSpec.upto sexprPrefixSpec)

/-- 'tellaw1.SexprSpacing', WHERE WHAT IT READS IS OF BULK AT MOST 1048576: true; the input reads as it did. -/
def sexprSpacingUptoRow : OpenClaim := { program := "ytnaabplppfikcaadoor", sum := "4856a1fff0d20fcac6ba1dab869e7d1bfe3d70d9aa3448599433da0d13dc8a73", func := "telpher/tellaw1.SexprSpacing", spec := "sexprSpacing", inPlace := ["internal/bytealg.IndexByteString"], unfollowed := true, recurses := true, named := ["telpher/tellaw1.separators", "telpher/telmake.strings", "telpher/telmake.words"], apart := false, laid := [("telpher/telmake.words", laid_telpher_telmake_words), ("telpher/telmake.strings", laid_telpher_telmake_strings), ("telpher/tellaw1.separators", laid_telpher_tellaw1_separators)], narrowed := true }
def SexprSpacingUptoSaid : Prop := sexprSpacingUptoRow.holds Tryd.pinned (OpenSpec.upto sexprSpacingSpec)

/-- 'tellaw1.SexprMeasures', WHERE WHAT IT READS IS OF BULK AT MOST 1048576: true; the input reads as it did. -/
def sexprMeasuresUptoRow : OpenClaim := { program := "ytnaabplppfikcaadoor", sum := "4856a1fff0d20fcac6ba1dab869e7d1bfe3d70d9aa3448599433da0d13dc8a73", func := "telpher/tellaw1.SexprMeasures", spec := "sexprMeasures", inPlace := ["internal/bytealg.IndexByteString"], unfollowed := true, recurses := true, named := ["telpher/telmake.strings", "telpher/telmake.words"], apart := false, laid := [("telpher/telmake.words", laid_telpher_telmake_words), ("telpher/telmake.strings", laid_telpher_telmake_strings)], narrowed := true }
def SexprMeasuresUptoSaid : Prop := sexprMeasuresUptoRow.holds Tryd.pinned (OpenSpec.upto sexprMeasuresSpec)

/-- 'tellaw1.SexprValid', WHERE WHAT IT READS IS OF BULK AT MOST 1048576: true; the input reads as it did. -/
def sexprValidUptoRow : OpenClaim := { program := "ytnaabplppfikcaadoor", sum := "4856a1fff0d20fcac6ba1dab869e7d1bfe3d70d9aa3448599433da0d13dc8a73", func := "telpher/tellaw1.SexprValid", spec := "sexprValid", inPlace := ["internal/abi.NoEscape", "internal/bytealg.IndexByteString"], unfollowed := true, recurses := true, named := ["telpher/telmake.strings", "telpher/telmake.words"], apart := false, laid := [("telpher/telmake.words", laid_telpher_telmake_words), ("telpher/telmake.strings", laid_telpher_telmake_strings)], narrowed := true }
def SexprValidUptoSaid : Prop := sexprValidUptoRow.holds Tryd.pinned (OpenSpec.upto sexprValidSpec)

/-- 'tellaw1.SexprRoundTrip', WHERE WHAT IT READS IS OF BULK AT MOST 1048576: true; the input reads as it did. -/
def sexprRoundTripUptoRow : OpenClaim := { program := "ytnaabplppfikcaadoor", sum := "4856a1fff0d20fcac6ba1dab869e7d1bfe3d70d9aa3448599433da0d13dc8a73", func := "telpher/tellaw1.SexprRoundTrip", spec := "sexprRoundTrip", inPlace := ["internal/abi.NoEscape", "internal/bytealg.IndexByteString"], unfollowed := true, recurses := true, named := ["telpher/telmake.strings", "telpher/telmake.words"], apart := false, laid := [("telpher/telmake.words", laid_telpher_telmake_words), ("telpher/telmake.strings", laid_telpher_telmake_strings)], narrowed := true }
def SexprRoundTripUptoSaid : Prop := sexprRoundTripUptoRow.holds Tryd.pinned (OpenSpec.upto sexprRoundTripSpec)

/-- 'tellaw1.SexprWords', WHERE WHAT IT READS IS OF BULK AT MOST 1048576: true; the input reads as it did. -/
def sexprWordsUptoRow : OpenClaim := { program := "ytnaabplppfikcaadoor", sum := "4856a1fff0d20fcac6ba1dab869e7d1bfe3d70d9aa3448599433da0d13dc8a73", func := "telpher/tellaw1.SexprWords", spec := "sexprWords", inPlace := ["internal/bytealg.IndexByteString"], unfollowed := true, recurses := true, named := ["strconv.ErrSyntax", "strconv.ErrRange", "internal/strconv.uint64pow10", "math/bits.deBruijn32tab", "math/bits.deBruijn64tab"], apart := false, laid := [("math/bits.deBruijn32tab", laid_math_bits_deBruijn32tab), ("math/bits.deBruijn64tab", laid_math_bits_deBruijn64tab), ("internal/strconv.uint64pow10", laid_internal_strconv_uint64pow10), ("strconv.ErrRange", laid_strconv_ErrRange), ("strconv.ErrSyntax", laid_strconv_ErrSyntax)], narrowed := true }
def SexprWordsUptoSaid : Prop := sexprWordsUptoRow.holds Tryd.pinned (OpenSpec.upto sexprWordsSpec)

/-- 'tellaw1.SexprExamples', WHERE WHAT IT READS IS OF BULK AT MOST 1048576: true; the input reads as it did. -/
def sexprExamplesUptoRow : OpenClaim := { program := "ytnaabplppfikcaadoor", sum := "4856a1fff0d20fcac6ba1dab869e7d1bfe3d70d9aa3448599433da0d13dc8a73", func := "telpher/tellaw1.SexprExamples", spec := "sexprExamples", inPlace := ["internal/bytealg.IndexByteString", "internal/abi.NoEscape"], unfollowed := true, recurses := true, named := ["strconv.ErrSyntax", "strconv.ErrRange", "internal/strconv.uint64pow10", "math/bits.deBruijn32tab", "math/bits.deBruijn64tab"], apart := false, laid := [("math/bits.deBruijn32tab", laid_math_bits_deBruijn32tab), ("math/bits.deBruijn64tab", laid_math_bits_deBruijn64tab), ("internal/strconv.uint64pow10", laid_internal_strconv_uint64pow10), ("strconv.ErrRange", laid_strconv_ErrRange), ("strconv.ErrSyntax", laid_strconv_ErrSyntax)], narrowed := true }
def SexprExamplesUptoSaid : Prop := sexprExamplesUptoRow.holds Tryd.pinned (OpenSpec.upto sexprExamplesSpec)

end Rows
end Go.Proofs.YtnaabplppfikcaaDoor
