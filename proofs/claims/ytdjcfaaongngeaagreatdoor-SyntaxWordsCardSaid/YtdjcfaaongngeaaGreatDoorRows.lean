/-
  NARROWER THAN 'FOR EVERY INPUT', by the rows' own cells (each row's printed sentence says how): SyntaxParse: laid · SyntaxWords: laid.
  DERIVED. THE GIVEN ROWS OF THIS SEAT. 2 by the template 'for every input the law returns true; each argument reads behind the call as it read before'; 0 by the template 'total and deterministic' (their statements: YtdjcfaaongngeaaGreatDoorTotals.lean).
  GIVEN WITH THE SEED: the statements are not yours to turn. If you find one false, say at which input.
  Laid BY PROGRAM, IN A SANDBOX (cutbox-rows.mjs): the forced cells as the released guide's own fill.sh prints them over the translation 9ca9c3032f06b676… (all of the seat's roots in one cut). By AI agents, Wed Nov 11 2026. No macro, syntax, notation, axiom, sorry.
-/
import Derived.Test.YtdjcfaaongngeaaGreatDoorChecked
import GoSem.Claim
import GoSem.ClaimJoined
import GoSem.ClaimMapViews
import Derived.JoinedTies
import Derived.KernelRfl
namespace Go.Proofs.YtdjcfaaongngeaaGreatDoor
/- THE CELL 'sum', in the pinned program and in every row, IS THE sha256 OF THE DUMP (.gsa) THAT YtdjcfaaongngeaaGreatDoorProg.lean LOADS. Nothing in Lean hashes anything: it is a label: what it is worth is what the hold of that sum in a sandbox is worth. -/
noncomputable def Tryz.pinned : Pinned := { name := "ytdjcfaaongngeaagreatdoor", sum := "9ca9c3032f06b6766c950684ec4d7a68ba9eabdf492df277c471baacf0c985c8", checked := Tryz.checked }
namespace Rows
def none {H : Type} : Left H := { results := [], args := [] }

/- WHAT THE LISTED PACKAGE-LEVEL VARIABLES READ AS WHEN THE CALL BEGINS. Each datum BY PROGRAM (the guide's laid-datum.mjs) off the statement by which the dump's own 'gosem.cut.vars' lays the variable. In a bare row this is a premise. The card (YtdjcfaaongngeaaGreatDoorCards.lean) ties it to the program's text. -/
def laid_math_bits_deBruijn32tab {H : Type} : DataW H := .agg [.lit (.int .u8 0), .lit (.int .u8 1), .lit (.int .u8 28), .lit (.int .u8 2), .lit (.int .u8 29), .lit (.int .u8 14), .lit (.int .u8 24), .lit (.int .u8 3), .lit (.int .u8 30), .lit (.int .u8 22), .lit (.int .u8 20), .lit (.int .u8 15), .lit (.int .u8 25), .lit (.int .u8 17), .lit (.int .u8 4), .lit (.int .u8 8), .lit (.int .u8 31), .lit (.int .u8 27), .lit (.int .u8 13), .lit (.int .u8 23), .lit (.int .u8 21), .lit (.int .u8 19), .lit (.int .u8 16), .lit (.int .u8 7), .lit (.int .u8 26), .lit (.int .u8 12), .lit (.int .u8 18), .lit (.int .u8 6), .lit (.int .u8 11), .lit (.int .u8 5), .lit (.int .u8 10), .lit (.int .u8 9)]
def laid_math_bits_deBruijn64tab {H : Type} : DataW H := .agg [.lit (.int .u8 0), .lit (.int .u8 1), .lit (.int .u8 56), .lit (.int .u8 2), .lit (.int .u8 57), .lit (.int .u8 49), .lit (.int .u8 28), .lit (.int .u8 3), .lit (.int .u8 61), .lit (.int .u8 58), .lit (.int .u8 42), .lit (.int .u8 50), .lit (.int .u8 38), .lit (.int .u8 29), .lit (.int .u8 17), .lit (.int .u8 4), .lit (.int .u8 62), .lit (.int .u8 47), .lit (.int .u8 59), .lit (.int .u8 36), .lit (.int .u8 45), .lit (.int .u8 43), .lit (.int .u8 51), .lit (.int .u8 22), .lit (.int .u8 53), .lit (.int .u8 39), .lit (.int .u8 33), .lit (.int .u8 30), .lit (.int .u8 24), .lit (.int .u8 18), .lit (.int .u8 12), .lit (.int .u8 5), .lit (.int .u8 63), .lit (.int .u8 55), .lit (.int .u8 48), .lit (.int .u8 27), .lit (.int .u8 60), .lit (.int .u8 41), .lit (.int .u8 37), .lit (.int .u8 16), .lit (.int .u8 46), .lit (.int .u8 35), .lit (.int .u8 44), .lit (.int .u8 21), .lit (.int .u8 52), .lit (.int .u8 32), .lit (.int .u8 23), .lit (.int .u8 11), .lit (.int .u8 54), .lit (.int .u8 26), .lit (.int .u8 40), .lit (.int .u8 15), .lit (.int .u8 34), .lit (.int .u8 20), .lit (.int .u8 31), .lit (.int .u8 10), .lit (.int .u8 25), .lit (.int .u8 14), .lit (.int .u8 19), .lit (.int .u8 9), .lit (.int .u8 13), .lit (.int .u8 8), .lit (.int .u8 7), .lit (.int .u8 6)]
def laid_internal_strconv_uint64pow10 {H : Type} : DataW H := .agg [.lit (.int .u64 1), .lit (.int .u64 10), .lit (.int .u64 100), .lit (.int .u64 1000), .lit (.int .u64 10000), .lit (.int .u64 100000), .lit (.int .u64 1000000), .lit (.int .u64 10000000), .lit (.int .u64 100000000), .lit (.int .u64 1000000000), .lit (.int .u64 10000000000), .lit (.int .u64 100000000000), .lit (.int .u64 1000000000000), .lit (.int .u64 10000000000000), .lit (.int .u64 100000000000000), .lit (.int .u64 1000000000000000), .lit (.int .u64 10000000000000000), .lit (.int .u64 100000000000000000), .lit (.int .u64 1000000000000000000), .lit (.int .u64 10000000000000000000)]
def laid_strconv_ErrRange {H : Type} : DataW H := .iface "*errors.errorString" (.ptr (.agg [.lit (.string [118, 97, 108, 117, 101, 32, 111, 117, 116, 32, 111, 102, 32, 114, 97, 110, 103, 101])]))
def laid_strconv_ErrSyntax {H : Type} : DataW H := .iface "*errors.errorString" (.ptr (.agg [.lit (.string [105, 110, 118, 97, 108, 105, 100, 32, 115, 121, 110, 116, 97, 120])]))
def laid_telpher_typeterm_reserved {H : Type} : DataW H := .slice [.lit (.string [65, 110, 121]), .lit (.string [78, 101, 118, 101, 114]), .lit (.string [116, 117, 112, 108, 101]), .lit (.string [117, 110, 105, 111, 110]), .lit (.string [101, 120, 105, 115, 116, 115])] []
def laid_telpher_typetext_reserved {H : Type} : DataW H := .slice [.lit (.string [65, 110, 121]), .lit (.string [78, 101, 118, 101, 114]), .lit (.string [116, 117, 112, 108, 101]), .lit (.string [117, 110, 105, 111, 110]), .lit (.string [101, 120, 105, 115, 116, 115])] []
def laid_telpher_syntax_reserved {H : Type} : DataW H := .slice [.lit (.string [97, 98, 115, 116, 114, 97, 99, 116]), .lit (.string [115, 116, 114, 117, 99, 116]), .lit (.string [109, 101, 116, 104, 111, 100]), .lit (.string [100, 101, 108, 101, 116, 101]), .lit (.string [108, 111, 97, 100]), .lit (.string [117, 110, 108, 111, 97, 100]), .lit (.string [101, 118, 97, 108]), .lit (.string [112, 97, 99, 107, 97, 103, 101]), .lit (.string [116, 97, 115, 107]), .lit (.string [108, 101, 116]), .lit (.string [97, 115, 115, 105, 103, 110]), .lit (.string [100, 111]), .lit (.string [105, 102]), .lit (.string [119, 104, 105, 108, 101]), .lit (.string [110, 101, 119]), .lit (.string [103, 101, 116]), .lit (.string [115, 101, 116]), .lit (.string [116, 117, 112, 108, 101]), .lit (.string [101, 108, 101, 109, 101, 110, 116]), .lit (.string [105, 115]), .lit (.string [115, 97, 109, 101]), .lit (.string [97, 100, 100]), .lit (.string [115, 117, 98]), .lit (.string [109, 117, 108]), .lit (.string [108, 101, 115, 115]), .lit (.string [110, 111, 116]), .lit (.string [99, 111, 110, 99, 97, 116]), .lit (.string [111, 117, 116, 112, 117, 116]), .lit (.string [102, 97, 105, 108]), .lit (.string [108, 97, 116, 101, 115, 116]), .lit (.string [101, 100, 105, 116]), .lit (.string [112, 97, 117, 115, 101]), .lit (.string [116, 114, 117, 101]), .lit (.string [102, 97, 108, 115, 101]), .lit (.string [110, 105, 108]), .lit (.string [117, 110, 105, 111, 110]), .lit (.string [101, 120, 105, 115, 116, 115]), .lit (.string [65, 110, 121]), .lit (.string [78, 101, 118, 101, 114])] []
def laid_telpher_tellaw18_words {H : Type} : DataW H := .slice [.lit (.string [40]), .lit (.string [41]), .lit (.string [40]), .lit (.string [41]), .lit (.string [40, 116, 97, 115, 107]), .lit (.string [40, 112, 97, 99, 107, 97, 103, 101, 32, 112]), .lit (.string [40, 101, 118, 97, 108]), .lit (.string [40, 109, 101, 116, 104, 111, 100, 32, 102, 32, 40, 41, 32, 40, 40, 120, 32, 73, 110, 116, 41, 41]), .lit (.string [40, 115, 116, 114, 117, 99, 116, 32, 83, 32, 40, 41, 32, 65, 110, 121, 32, 40, 41]), .lit (.string [40, 108, 101, 116, 32, 120]), .lit (.string [40, 97, 100, 100]), .lit (.string [40, 105, 102]), .lit (.string [40, 116, 117, 112, 108, 101]), .lit (.string [40, 102]), .lit (.string [120]), .lit (.string [49]), .lit (.string [116, 114, 117, 101]), .lit (.string [34, 115, 34]), .lit (.string [110, 105, 108]), .lit (.string [40, 110, 101, 119, 32, 68, 111, 116]), .lit (.string [40, 111, 117, 116, 112, 117, 116]), .lit (.string [40, 101, 100, 105, 116]), .lit (.string [40, 108, 111, 97, 100, 32, 112, 41]), .lit (.string [40, 112, 97, 117, 115, 101, 41]), .lit (.string [40, 103, 101, 116]), .lit (.string [105, 116, 101, 109]), .lit (.string [40, 105, 115]), .lit (.string [73, 110, 116]), .lit (.string [65, 110, 121])] []

/-- 'tellaw18.SyntaxParse': WHATEVER THE INPUT: true; the input reads as it did. -/
def syntaxParseSpec : ChangeSpec := { name := "syntaxParse", fn := fun _ => fun
  | [d] => { results := [.lit (.bool true)], args := [d] }
  | _ => none }
def syntaxParseRow : OpenClaim := { program := "ytdjcfaaongngeaagreatdoor", sum := "9ca9c3032f06b6766c950684ec4d7a68ba9eabdf492df277c471baacf0c985c8", func := "telpher/tellaw18.SyntaxParse", spec := "syntaxParse", inPlace := ["internal/bytealg.IndexByteString"], unfollowed := true, recurses := true, named := ["telpher/syntax.reserved", "telpher/typetext.reserved", "telpher/typeterm.reserved", "strconv.ErrSyntax", "strconv.ErrRange", "internal/strconv.uint64pow10", "math/bits.deBruijn32tab", "math/bits.deBruijn64tab"], apart := false, laid := [("math/bits.deBruijn32tab", laid_math_bits_deBruijn32tab), ("math/bits.deBruijn64tab", laid_math_bits_deBruijn64tab), ("internal/strconv.uint64pow10", laid_internal_strconv_uint64pow10), ("strconv.ErrRange", laid_strconv_ErrRange), ("strconv.ErrSyntax", laid_strconv_ErrSyntax), ("telpher/typeterm.reserved", laid_telpher_typeterm_reserved), ("telpher/typetext.reserved", laid_telpher_typetext_reserved), ("telpher/syntax.reserved", laid_telpher_syntax_reserved)] }
def SyntaxParseSaid : Prop := syntaxParseRow.holds Tryz.pinned (OpenSpec.ofChange syntaxParseSpec)

/-- ITS FALSE NEIGHBOUR: 'it returns false'. Refute it at one input. -/
def syntaxParseWrong : ChangeSpec := { name := "syntaxParse", fn := fun _ => fun
  | [d] => { results := [.lit (.bool false)], args := [d] }
  | _ => none }
def SyntaxParseWrongFalsely : Prop := syntaxParseRow.holds Tryz.pinned (OpenSpec.ofChange syntaxParseWrong)

/-- 'tellaw18.SyntaxWords': WHATEVER THE INPUT: true; the input reads as it did. -/
def syntaxWordsSpec : ChangeSpec := { name := "syntaxWords", fn := fun _ => fun
  | [d] => { results := [.lit (.bool true)], args := [d] }
  | _ => none }
def syntaxWordsRow : OpenClaim := { program := "ytdjcfaaongngeaagreatdoor", sum := "9ca9c3032f06b6766c950684ec4d7a68ba9eabdf492df277c471baacf0c985c8", func := "telpher/tellaw18.SyntaxWords", spec := "syntaxWords", inPlace := ["internal/bytealg.IndexByteString"], unfollowed := true, recurses := true, named := ["telpher/tellaw18.words", "telpher/syntax.reserved", "telpher/typetext.reserved", "telpher/typeterm.reserved", "strconv.ErrSyntax", "strconv.ErrRange", "internal/strconv.uint64pow10", "math/bits.deBruijn32tab", "math/bits.deBruijn64tab"], apart := false, laid := [("math/bits.deBruijn32tab", laid_math_bits_deBruijn32tab), ("math/bits.deBruijn64tab", laid_math_bits_deBruijn64tab), ("internal/strconv.uint64pow10", laid_internal_strconv_uint64pow10), ("strconv.ErrRange", laid_strconv_ErrRange), ("strconv.ErrSyntax", laid_strconv_ErrSyntax), ("telpher/typeterm.reserved", laid_telpher_typeterm_reserved), ("telpher/typetext.reserved", laid_telpher_typetext_reserved), ("telpher/syntax.reserved", laid_telpher_syntax_reserved), ("telpher/tellaw18.words", laid_telpher_tellaw18_words)] }
def SyntaxWordsSaid : Prop := syntaxWordsRow.holds Tryz.pinned (OpenSpec.ofChange syntaxWordsSpec)

/-- ITS FALSE NEIGHBOUR: 'it returns false'. Refute it at one input. -/
def syntaxWordsWrong : ChangeSpec := { name := "syntaxWords", fn := fun _ => fun
  | [d] => { results := [.lit (.bool false)], args := [d] }
  | _ => none }
def SyntaxWordsWrongFalsely : Prop := syntaxWordsRow.holds Tryz.pinned (OpenSpec.ofChange syntaxWordsWrong)

/- THE SECOND FORM. 'bulk': how many values and letters a reading holds, each counted each time it is reached (what is shared counts as often as it is met; a slice's spare places count too). A statement '..UptoSaid' is the law's where the arguments, and the package variables that the reading takes, are together of bulk at most 1048576: NARROWER than '..Said'. Prove '..Said' where nothing that the law and all that it calls make is longer than what came in: it says more and counts as full. Else prove '..UptoSaid'. A law counts once. -/
mutual
def uptoBulk {H : Type} : DataW H → Nat
  | .lit (.string bytes) => bytes.length + 1
  | .lit _ => 1
  | .nil => 1
  | .ptr d => uptoBulk d + 1
  | .slice elems spare => uptoBulkAll elems + uptoBulkAll spare + 1
  | .agg parts => uptoBulkAll parts + 1
  | .iface _ d => uptoBulk d + 1
  | .map entries => uptoBulkEntries entries + 1
  | .held _ => 1
def uptoBulkAll {H : Type} : List (DataW H) → Nat
  | [] => 0
  | d :: r => uptoBulk d + uptoBulkAll r
def uptoBulkEntries {H : Type} : List (Lit × DataW H) → Nat
  | [] => 0
  | x :: r => uptoBulkEntry x + uptoBulkEntries r
def uptoBulkEntry {H : Type} : Lit × DataW H → Nat
  | (.string bytes, d) => bytes.length + uptoBulk d + 1
  | (_, d) => uptoBulk d + 1
 end
def uptoSmall : (H : Type) → List (DataW H) → Bool := fun _ ds => decide (uptoBulkAll ds ≤ 1048576)
def OpenSpec.upto (s : _root_.Go.ChangeSpec) : _root_.Go.OpenSpec := { _root_.Go.OpenSpec.ofChange s with cond := some uptoSmall }

/-- 'tellaw18.SyntaxParse', WHERE WHAT IT READS IS OF BULK AT MOST 1048576: true; the input reads as it did. -/
def syntaxParseUptoRow : OpenClaim := { program := "ytdjcfaaongngeaagreatdoor", sum := "9ca9c3032f06b6766c950684ec4d7a68ba9eabdf492df277c471baacf0c985c8", func := "telpher/tellaw18.SyntaxParse", spec := "syntaxParse", inPlace := ["internal/bytealg.IndexByteString"], unfollowed := true, recurses := true, named := ["telpher/syntax.reserved", "telpher/typetext.reserved", "telpher/typeterm.reserved", "strconv.ErrSyntax", "strconv.ErrRange", "internal/strconv.uint64pow10", "math/bits.deBruijn32tab", "math/bits.deBruijn64tab"], apart := false, laid := [("math/bits.deBruijn32tab", laid_math_bits_deBruijn32tab), ("math/bits.deBruijn64tab", laid_math_bits_deBruijn64tab), ("internal/strconv.uint64pow10", laid_internal_strconv_uint64pow10), ("strconv.ErrRange", laid_strconv_ErrRange), ("strconv.ErrSyntax", laid_strconv_ErrSyntax), ("telpher/typeterm.reserved", laid_telpher_typeterm_reserved), ("telpher/typetext.reserved", laid_telpher_typetext_reserved), ("telpher/syntax.reserved", laid_telpher_syntax_reserved)], narrowed := true }
def SyntaxParseUptoSaid : Prop := syntaxParseUptoRow.holds Tryz.pinned (OpenSpec.upto syntaxParseSpec)

/-- 'tellaw18.SyntaxWords', WHERE WHAT IT READS IS OF BULK AT MOST 1048576: true; the input reads as it did. -/
def syntaxWordsUptoRow : OpenClaim := { program := "ytdjcfaaongngeaagreatdoor", sum := "9ca9c3032f06b6766c950684ec4d7a68ba9eabdf492df277c471baacf0c985c8", func := "telpher/tellaw18.SyntaxWords", spec := "syntaxWords", inPlace := ["internal/bytealg.IndexByteString"], unfollowed := true, recurses := true, named := ["telpher/tellaw18.words", "telpher/syntax.reserved", "telpher/typetext.reserved", "telpher/typeterm.reserved", "strconv.ErrSyntax", "strconv.ErrRange", "internal/strconv.uint64pow10", "math/bits.deBruijn32tab", "math/bits.deBruijn64tab"], apart := false, laid := [("math/bits.deBruijn32tab", laid_math_bits_deBruijn32tab), ("math/bits.deBruijn64tab", laid_math_bits_deBruijn64tab), ("internal/strconv.uint64pow10", laid_internal_strconv_uint64pow10), ("strconv.ErrRange", laid_strconv_ErrRange), ("strconv.ErrSyntax", laid_strconv_ErrSyntax), ("telpher/typeterm.reserved", laid_telpher_typeterm_reserved), ("telpher/typetext.reserved", laid_telpher_typetext_reserved), ("telpher/syntax.reserved", laid_telpher_syntax_reserved), ("telpher/tellaw18.words", laid_telpher_tellaw18_words)], narrowed := true }
def SyntaxWordsUptoSaid : Prop := syntaxWordsUptoRow.holds Tryz.pinned (OpenSpec.upto syntaxWordsSpec)

end Rows
end Go.Proofs.YtdjcfaaongngeaaGreatDoor
