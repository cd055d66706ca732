/-
  NARROWER THAN 'FOR EVERY INPUT', by the rows' own cells (each row's printed sentence says how): WordJoins: laid · RowsTell: laid · RowsWords: laid · OpParses: laid · OpTells: laid · OpNames: laid · OpTexts: laid · WordNums: laid · WordTells: laid · ScriptParses: laid · ScriptBlanks: laid · ScriptCuts: laid.
  DERIVED. THE GIVEN ROWS OF THIS SEAT. 12 by the template 'for every input the law returns true; each argument reads behind the call as it read before'; 0 by the template 'total and deterministic' (their statements: YtmjedjhgomlfiaaDoorTotals.lean).
  GIVEN WITH THE SEED: the statements are not yours to turn. If you find one false, say at which input.
  Laid BY PROGRAM, IN A SANDBOX (cutbox-rows.mjs): the forced cells as the released guide's own fill.sh prints them over the translation c60b7723fe7a823e… (all of the seat's roots in one cut). By AI agents, Wed Nov 11 2026. No macro, syntax, notation, axiom, sorry.
-/
import Derived.Test.YtmjedjhgomlfiaaDoorChecked
import GoSem.PinnedTables
import GoSem.Claim
import GoSem.ClaimJoined
import GoSem.ClaimMapViews
import Derived.JoinedTies
import Derived.KernelRfl
namespace Go.Proofs.YtmjedjhgomlfiaaDoor
/- THE CELL 'sum', in the pinned program and in every row, IS THE sha256 OF THE DUMP (.gsa) THAT YtmjedjhgomlfiaaDoorProg.lean LOADS. Nothing in Lean hashes anything: it is a label: what it is worth is what the hold of that sum in a sandbox is worth. -/
noncomputable def Tryd.pinned : Pinned := { name := "ytmjedjhgomlfiaadoor", sum := "c60b7723fe7a823e93d266d9761abe8c872329682b30310c827801be9a113081", checked := Tryd.checked }
namespace Rows
def none {H : Type} : Left H := { results := [], args := [] }

/- WHAT THE LISTED PACKAGE-LEVEL VARIABLES READ AS WHEN THE CALL BEGINS. Each datum BY PROGRAM (the guide's laid-datum.mjs) off the statement by which the dump's own 'gosem.cut.vars' lays the variable. In a bare row this is a premise. The card (YtmjedjhgomlfiaaDoorCards.lean) ties it to the program's text. -/
def laid_unicode_utf8_acceptRanges {H : Type} : DataW H := .agg [.agg [.lit (.int .u8 128), .lit (.int .u8 191)], .agg [.lit (.int .u8 160), .lit (.int .u8 191)], .agg [.lit (.int .u8 128), .lit (.int .u8 159)], .agg [.lit (.int .u8 144), .lit (.int .u8 191)], .agg [.lit (.int .u8 128), .lit (.int .u8 143)], .agg [.lit (.int .u8 0), .lit (.int .u8 0)], .agg [.lit (.int .u8 0), .lit (.int .u8 0)], .agg [.lit (.int .u8 0), .lit (.int .u8 0)], .agg [.lit (.int .u8 0), .lit (.int .u8 0)], .agg [.lit (.int .u8 0), .lit (.int .u8 0)], .agg [.lit (.int .u8 0), .lit (.int .u8 0)], .agg [.lit (.int .u8 0), .lit (.int .u8 0)], .agg [.lit (.int .u8 0), .lit (.int .u8 0)], .agg [.lit (.int .u8 0), .lit (.int .u8 0)], .agg [.lit (.int .u8 0), .lit (.int .u8 0)], .agg [.lit (.int .u8 0), .lit (.int .u8 0)]]
/-- One of Go's own tables, pinned by name: the form's constant. -/
def laid_unicode_utf8_first : DataW Unit := Go.Pinned.utf8First
def laid_math_bits_deBruijn32tab {H : Type} : DataW H := .agg [.lit (.int .u8 0), .lit (.int .u8 1), .lit (.int .u8 28), .lit (.int .u8 2), .lit (.int .u8 29), .lit (.int .u8 14), .lit (.int .u8 24), .lit (.int .u8 3), .lit (.int .u8 30), .lit (.int .u8 22), .lit (.int .u8 20), .lit (.int .u8 15), .lit (.int .u8 25), .lit (.int .u8 17), .lit (.int .u8 4), .lit (.int .u8 8), .lit (.int .u8 31), .lit (.int .u8 27), .lit (.int .u8 13), .lit (.int .u8 23), .lit (.int .u8 21), .lit (.int .u8 19), .lit (.int .u8 16), .lit (.int .u8 7), .lit (.int .u8 26), .lit (.int .u8 12), .lit (.int .u8 18), .lit (.int .u8 6), .lit (.int .u8 11), .lit (.int .u8 5), .lit (.int .u8 10), .lit (.int .u8 9)]
def laid_math_bits_deBruijn64tab {H : Type} : DataW H := .agg [.lit (.int .u8 0), .lit (.int .u8 1), .lit (.int .u8 56), .lit (.int .u8 2), .lit (.int .u8 57), .lit (.int .u8 49), .lit (.int .u8 28), .lit (.int .u8 3), .lit (.int .u8 61), .lit (.int .u8 58), .lit (.int .u8 42), .lit (.int .u8 50), .lit (.int .u8 38), .lit (.int .u8 29), .lit (.int .u8 17), .lit (.int .u8 4), .lit (.int .u8 62), .lit (.int .u8 47), .lit (.int .u8 59), .lit (.int .u8 36), .lit (.int .u8 45), .lit (.int .u8 43), .lit (.int .u8 51), .lit (.int .u8 22), .lit (.int .u8 53), .lit (.int .u8 39), .lit (.int .u8 33), .lit (.int .u8 30), .lit (.int .u8 24), .lit (.int .u8 18), .lit (.int .u8 12), .lit (.int .u8 5), .lit (.int .u8 63), .lit (.int .u8 55), .lit (.int .u8 48), .lit (.int .u8 27), .lit (.int .u8 60), .lit (.int .u8 41), .lit (.int .u8 37), .lit (.int .u8 16), .lit (.int .u8 46), .lit (.int .u8 35), .lit (.int .u8 44), .lit (.int .u8 21), .lit (.int .u8 52), .lit (.int .u8 32), .lit (.int .u8 23), .lit (.int .u8 11), .lit (.int .u8 54), .lit (.int .u8 26), .lit (.int .u8 40), .lit (.int .u8 15), .lit (.int .u8 34), .lit (.int .u8 20), .lit (.int .u8 31), .lit (.int .u8 10), .lit (.int .u8 25), .lit (.int .u8 14), .lit (.int .u8 19), .lit (.int .u8 9), .lit (.int .u8 13), .lit (.int .u8 8), .lit (.int .u8 7), .lit (.int .u8 6)]
def laid_internal_strconv_uint64pow10 {H : Type} : DataW H := .agg [.lit (.int .u64 1), .lit (.int .u64 10), .lit (.int .u64 100), .lit (.int .u64 1000), .lit (.int .u64 10000), .lit (.int .u64 100000), .lit (.int .u64 1000000), .lit (.int .u64 10000000), .lit (.int .u64 100000000), .lit (.int .u64 1000000000), .lit (.int .u64 10000000000), .lit (.int .u64 100000000000), .lit (.int .u64 1000000000000), .lit (.int .u64 10000000000000), .lit (.int .u64 100000000000000), .lit (.int .u64 1000000000000000), .lit (.int .u64 10000000000000000), .lit (.int .u64 100000000000000000), .lit (.int .u64 1000000000000000000), .lit (.int .u64 10000000000000000000)]
def laid_towncrier_op_names {H : Type} : DataW H := .agg [.lit (.string []), .lit (.string [109, 97, 107, 101]), .lit (.string [119, 97, 110, 116]), .lit (.string [110, 97, 109, 101]), .lit (.string [97, 112, 112, 101, 110, 100]), .lit (.string [98, 101, 102, 111, 114, 101]), .lit (.string [114, 101, 109, 111, 118, 101]), .lit (.string [97, 116, 116, 97, 99, 104]), .lit (.string [115, 105, 103, 110, 97, 108]), .lit (.string [97, 98, 111, 114, 116]), .lit (.string [108, 105, 115, 116, 101, 110]), .lit (.string [117, 110, 108, 105, 115, 116, 101, 110]), .lit (.string [101, 118, 101, 110, 116]), .lit (.string [115, 101, 110, 100]), .lit (.string [112, 114, 101, 118, 101, 110, 116]), .lit (.string [115, 116, 111, 112]), .lit (.string [115, 116, 111, 112, 110, 111, 119]), .lit (.string [99, 108, 101, 97, 114])]
def laid_strconv_ErrRange {H : Type} : DataW H := .iface "*errors.errorString" (.ptr (.agg [.lit (.string [118, 97, 108, 117, 101, 32, 111, 117, 116, 32, 111, 102, 32, 114, 97, 110, 103, 101])]))
def laid_strconv_ErrSyntax {H : Type} : DataW H := .iface "*errors.errorString" (.ptr (.agg [.lit (.string [105, 110, 118, 97, 108, 105, 100, 32, 115, 121, 110, 116, 97, 120])]))
def laid_towncrier_op_numbers {H : Type} : DataW H := .agg [.lit (.int .i64 0), .lit (.int .i64 2), .lit (.int .i64 1), .lit (.int .i64 1), .lit (.int .i64 2), .lit (.int .i64 3), .lit (.int .i64 2), .lit (.int .i64 2), .lit (.int .i64 2), .lit (.int .i64 1), .lit (.int .i64 4), .lit (.int .i64 3), .lit (.int .i64 2), .lit (.int .i64 2), .lit (.int .i64 1), .lit (.int .i64 1), .lit (.int .i64 1), .lit (.int .i64 1)]
def laid_towncrier_op_worded {H : Type} : DataW H := .agg [.lit (.bool false), .lit (.bool true), .lit (.bool true), .lit (.bool true), .lit (.bool false), .lit (.bool false), .lit (.bool false), .lit (.bool false), .lit (.bool false), .lit (.bool false), .lit (.bool true), .lit (.bool true), .lit (.bool true), .lit (.bool false), .lit (.bool false), .lit (.bool false), .lit (.bool false), .lit (.bool false)]

/-- 'towncrierlaw01.WordJoins': WHATEVER THE INPUT: true; the input reads as it did. -/
def wordJoinsSpec : ChangeSpec := { name := "wordJoins", fn := fun _ => fun
  | [d] => { results := [.lit (.bool true)], args := [d] }
  | _ => none }
def wordJoinsRow : OpenClaim := { program := "ytmjedjhgomlfiaadoor", sum := "c60b7723fe7a823e93d266d9761abe8c872329682b30310c827801be9a113081", func := "towncrier/towncrierlaw01.WordJoins", spec := "wordJoins", inPlace := ["internal/bytealg.CountString", "internal/bytealg.IndexByteString", "internal/bytealg.IndexString", "internal/abi.NoEscape", "internal/bytealg.MakeNoZero"], unfollowed := true, recurses := true, named := ["unicode/utf8.first", "unicode/utf8.acceptRanges", "internal/bytealg.MaxLen"], apart := false, laid := [("unicode/utf8.acceptRanges", laid_unicode_utf8_acceptRanges), ("unicode/utf8.first", laid_unicode_utf8_first)] }
def WordJoinsSaid : Prop := wordJoinsRow.holds Tryd.pinned (OpenSpec.ofChange wordJoinsSpec)

/-- ITS FALSE NEIGHBOUR: 'it returns false'. Refute it at one input. -/
def wordJoinsWrong : ChangeSpec := { name := "wordJoins", fn := fun _ => fun
  | [d] => { results := [.lit (.bool false)], args := [d] }
  | _ => none }
def WordJoinsWrongFalsely : Prop := wordJoinsRow.holds Tryd.pinned (OpenSpec.ofChange wordJoinsWrong)

/-- 'towncrierlaw24.RowsTell': WHATEVER THE INPUT: true; the input reads as it did. -/
def rowsTellSpec : ChangeSpec := { name := "rowsTell", fn := fun _ => fun
  | [d] => { results := [.lit (.bool true)], args := [d] }
  | _ => none }
def rowsTellRow : OpenClaim := { program := "ytmjedjhgomlfiaadoor", sum := "c60b7723fe7a823e93d266d9761abe8c872329682b30310c827801be9a113081", func := "towncrier/towncrierlaw24.RowsTell", spec := "rowsTell", inPlace := ["internal/abi.NoEscape", "internal/bytealg.MakeNoZero"], named := ["internal/strconv.uint64pow10", "math/bits.deBruijn32tab", "math/bits.deBruijn64tab", "towncrier/op.names"], apart := false, laid := [("math/bits.deBruijn32tab", laid_math_bits_deBruijn32tab), ("math/bits.deBruijn64tab", laid_math_bits_deBruijn64tab), ("internal/strconv.uint64pow10", laid_internal_strconv_uint64pow10), ("towncrier/op.names", laid_towncrier_op_names)] }
def RowsTellSaid : Prop := rowsTellRow.holds Tryd.pinned (OpenSpec.ofChange rowsTellSpec)

/-- ITS FALSE NEIGHBOUR: 'it returns false'. Refute it at one input. -/
def rowsTellWrong : ChangeSpec := { name := "rowsTell", fn := fun _ => fun
  | [d] => { results := [.lit (.bool false)], args := [d] }
  | _ => none }
def RowsTellWrongFalsely : Prop := rowsTellRow.holds Tryd.pinned (OpenSpec.ofChange rowsTellWrong)

/-- 'towncrierlaw24.RowsWords': WHATEVER THE INPUT: true; the input reads as it did. -/
def rowsWordsSpec : ChangeSpec := { name := "rowsWords", fn := fun _ => fun
  | [d] => { results := [.lit (.bool true)], args := [d] }
  | _ => none }
def rowsWordsRow : OpenClaim := { program := "ytmjedjhgomlfiaadoor", sum := "c60b7723fe7a823e93d266d9761abe8c872329682b30310c827801be9a113081", func := "towncrier/towncrierlaw24.RowsWords", spec := "rowsWords", inPlace := ["internal/abi.NoEscape", "internal/bytealg.MakeNoZero"], named := ["internal/strconv.uint64pow10", "math/bits.deBruijn32tab", "math/bits.deBruijn64tab", "towncrier/op.names"], apart := false, laid := [("math/bits.deBruijn32tab", laid_math_bits_deBruijn32tab), ("math/bits.deBruijn64tab", laid_math_bits_deBruijn64tab), ("internal/strconv.uint64pow10", laid_internal_strconv_uint64pow10), ("towncrier/op.names", laid_towncrier_op_names)] }
def RowsWordsSaid : Prop := rowsWordsRow.holds Tryd.pinned (OpenSpec.ofChange rowsWordsSpec)

/-- ITS FALSE NEIGHBOUR: 'it returns false'. Refute it at one input. -/
def rowsWordsWrong : ChangeSpec := { name := "rowsWords", fn := fun _ => fun
  | [d] => { results := [.lit (.bool false)], args := [d] }
  | _ => none }
def RowsWordsWrongFalsely : Prop := rowsWordsRow.holds Tryd.pinned (OpenSpec.ofChange rowsWordsWrong)

/-- 'towncrierlaw19.OpParses': WHATEVER THE INPUT: true; the input reads as it did. -/
def opParsesSpec : ChangeSpec := { name := "opParses", fn := fun _ => fun
  | [d] => { results := [.lit (.bool true)], args := [d] }
  | _ => none }
def opParsesRow : OpenClaim := { program := "ytmjedjhgomlfiaadoor", sum := "c60b7723fe7a823e93d266d9761abe8c872329682b30310c827801be9a113081", func := "towncrier/towncrierlaw19.OpParses", spec := "opParses", named := ["towncrier/op.names", "towncrier/op.numbers", "towncrier/op.worded", "strconv.ErrSyntax", "strconv.ErrRange", "internal/strconv.uint64pow10", "math/bits.deBruijn32tab", "math/bits.deBruijn64tab"], apart := false, laid := [("math/bits.deBruijn32tab", laid_math_bits_deBruijn32tab), ("math/bits.deBruijn64tab", laid_math_bits_deBruijn64tab), ("internal/strconv.uint64pow10", laid_internal_strconv_uint64pow10), ("strconv.ErrRange", laid_strconv_ErrRange), ("strconv.ErrSyntax", laid_strconv_ErrSyntax), ("towncrier/op.names", laid_towncrier_op_names), ("towncrier/op.numbers", laid_towncrier_op_numbers), ("towncrier/op.worded", laid_towncrier_op_worded)] }
def OpParsesSaid : Prop := opParsesRow.holds Tryd.pinned (OpenSpec.ofChange opParsesSpec)

/-- ITS FALSE NEIGHBOUR: 'it returns false'. Refute it at one input. -/
def opParsesWrong : ChangeSpec := { name := "opParses", fn := fun _ => fun
  | [d] => { results := [.lit (.bool false)], args := [d] }
  | _ => none }
def OpParsesWrongFalsely : Prop := opParsesRow.holds Tryd.pinned (OpenSpec.ofChange opParsesWrong)

/-- 'towncrierlaw19.OpTells': WHATEVER THE INPUT: true; the input reads as it did. -/
def opTellsSpec : ChangeSpec := { name := "opTells", fn := fun _ => fun
  | [d1, d2] => { results := [.lit (.bool true)], args := [d1, d2] }
  | _ => none }
def opTellsRow : OpenClaim := { program := "ytmjedjhgomlfiaadoor", sum := "c60b7723fe7a823e93d266d9761abe8c872329682b30310c827801be9a113081", func := "towncrier/towncrierlaw19.OpTells", spec := "opTells", named := ["towncrier/op.names", "towncrier/op.numbers", "towncrier/op.worded", "strconv.ErrSyntax", "strconv.ErrRange", "internal/strconv.uint64pow10", "math/bits.deBruijn32tab", "math/bits.deBruijn64tab"], apart := false, laid := [("math/bits.deBruijn32tab", laid_math_bits_deBruijn32tab), ("math/bits.deBruijn64tab", laid_math_bits_deBruijn64tab), ("internal/strconv.uint64pow10", laid_internal_strconv_uint64pow10), ("strconv.ErrRange", laid_strconv_ErrRange), ("strconv.ErrSyntax", laid_strconv_ErrSyntax), ("towncrier/op.names", laid_towncrier_op_names), ("towncrier/op.numbers", laid_towncrier_op_numbers), ("towncrier/op.worded", laid_towncrier_op_worded)] }
def OpTellsSaid : Prop := opTellsRow.holds Tryd.pinned (OpenSpec.ofChange opTellsSpec)

/-- ITS FALSE NEIGHBOUR: 'it returns false'. Refute it at one input. -/
def opTellsWrong : ChangeSpec := { name := "opTells", fn := fun _ => fun
  | [d1, d2] => { results := [.lit (.bool false)], args := [d1, d2] }
  | _ => none }
def OpTellsWrongFalsely : Prop := opTellsRow.holds Tryd.pinned (OpenSpec.ofChange opTellsWrong)

/-- 'towncrierlaw19.OpNames': WHATEVER THE INPUT: true; the input reads as it did. -/
def opNamesSpec : ChangeSpec := { name := "opNames", fn := fun _ => fun
  | [d] => { results := [.lit (.bool true)], args := [d] }
  | _ => none }
def opNamesRow : OpenClaim := { program := "ytmjedjhgomlfiaadoor", sum := "c60b7723fe7a823e93d266d9761abe8c872329682b30310c827801be9a113081", func := "towncrier/towncrierlaw19.OpNames", spec := "opNames", named := ["towncrier/op.names", "towncrier/op.numbers", "towncrier/op.worded", "strconv.ErrSyntax", "strconv.ErrRange", "internal/strconv.uint64pow10", "math/bits.deBruijn32tab", "math/bits.deBruijn64tab"], apart := false, laid := [("math/bits.deBruijn32tab", laid_math_bits_deBruijn32tab), ("math/bits.deBruijn64tab", laid_math_bits_deBruijn64tab), ("internal/strconv.uint64pow10", laid_internal_strconv_uint64pow10), ("strconv.ErrRange", laid_strconv_ErrRange), ("strconv.ErrSyntax", laid_strconv_ErrSyntax), ("towncrier/op.names", laid_towncrier_op_names), ("towncrier/op.numbers", laid_towncrier_op_numbers), ("towncrier/op.worded", laid_towncrier_op_worded)] }
def OpNamesSaid : Prop := opNamesRow.holds Tryd.pinned (OpenSpec.ofChange opNamesSpec)

/-- ITS FALSE NEIGHBOUR: 'it returns false'. Refute it at one input. -/
def opNamesWrong : ChangeSpec := { name := "opNames", fn := fun _ => fun
  | [d] => { results := [.lit (.bool false)], args := [d] }
  | _ => none }
def OpNamesWrongFalsely : Prop := opNamesRow.holds Tryd.pinned (OpenSpec.ofChange opNamesWrong)

/-- 'towncrierlaw19.OpTexts': WHATEVER THE INPUT: true; the input reads as it did. -/
def opTextsSpec : ChangeSpec := { name := "opTexts", fn := fun _ => fun
  | [d] => { results := [.lit (.bool true)], args := [d] }
  | _ => none }
def opTextsRow : OpenClaim := { program := "ytmjedjhgomlfiaadoor", sum := "c60b7723fe7a823e93d266d9761abe8c872329682b30310c827801be9a113081", func := "towncrier/towncrierlaw19.OpTexts", spec := "opTexts", inPlace := ["internal/abi.NoEscape", "internal/bytealg.MakeNoZero"], named := ["towncrier/op.names", "towncrier/op.numbers", "towncrier/op.worded", "strconv.ErrSyntax", "strconv.ErrRange", "internal/strconv.uint64pow10", "math/bits.deBruijn32tab", "math/bits.deBruijn64tab"], apart := false, laid := [("math/bits.deBruijn32tab", laid_math_bits_deBruijn32tab), ("math/bits.deBruijn64tab", laid_math_bits_deBruijn64tab), ("internal/strconv.uint64pow10", laid_internal_strconv_uint64pow10), ("strconv.ErrRange", laid_strconv_ErrRange), ("strconv.ErrSyntax", laid_strconv_ErrSyntax), ("towncrier/op.names", laid_towncrier_op_names), ("towncrier/op.numbers", laid_towncrier_op_numbers), ("towncrier/op.worded", laid_towncrier_op_worded)] }
def OpTextsSaid : Prop := opTextsRow.holds Tryd.pinned (OpenSpec.ofChange opTextsSpec)

/-- ITS FALSE NEIGHBOUR: 'it returns false'. Refute it at one input. -/
def opTextsWrong : ChangeSpec := { name := "opTexts", fn := fun _ => fun
  | [d] => { results := [.lit (.bool false)], args := [d] }
  | _ => none }
def OpTextsWrongFalsely : Prop := opTextsRow.holds Tryd.pinned (OpenSpec.ofChange opTextsWrong)

/-- 'towncrierlaw01.WordNums': WHATEVER THE INPUT: true; the input reads as it did. -/
def wordNumsSpec : ChangeSpec := { name := "wordNums", fn := fun _ => fun
  | [d] => { results := [.lit (.bool true)], args := [d] }
  | _ => none }
def wordNumsRow : OpenClaim := { program := "ytmjedjhgomlfiaadoor", sum := "c60b7723fe7a823e93d266d9761abe8c872329682b30310c827801be9a113081", func := "towncrier/towncrierlaw01.WordNums", spec := "wordNums", inPlace := ["internal/bytealg.CountString", "internal/bytealg.IndexByteString", "internal/bytealg.IndexString"], unfollowed := true, recurses := true, named := ["unicode/utf8.first", "unicode/utf8.acceptRanges", "internal/bytealg.MaxLen", "internal/strconv.uint64pow10", "math/bits.deBruijn32tab", "math/bits.deBruijn64tab", "strconv.ErrSyntax", "strconv.ErrRange"], apart := false, laid := [("math/bits.deBruijn32tab", laid_math_bits_deBruijn32tab), ("math/bits.deBruijn64tab", laid_math_bits_deBruijn64tab), ("internal/strconv.uint64pow10", laid_internal_strconv_uint64pow10), ("unicode/utf8.acceptRanges", laid_unicode_utf8_acceptRanges), ("strconv.ErrRange", laid_strconv_ErrRange), ("strconv.ErrSyntax", laid_strconv_ErrSyntax), ("unicode/utf8.first", laid_unicode_utf8_first)] }
def WordNumsSaid : Prop := wordNumsRow.holds Tryd.pinned (OpenSpec.ofChange wordNumsSpec)

/-- ITS FALSE NEIGHBOUR: 'it returns false'. Refute it at one input. -/
def wordNumsWrong : ChangeSpec := { name := "wordNums", fn := fun _ => fun
  | [d] => { results := [.lit (.bool false)], args := [d] }
  | _ => none }
def WordNumsWrongFalsely : Prop := wordNumsRow.holds Tryd.pinned (OpenSpec.ofChange wordNumsWrong)

/-- 'towncrierlaw01.WordTells': WHATEVER THE INPUT: true; the input reads as it did. -/
def wordTellsSpec : ChangeSpec := { name := "wordTells", fn := fun _ => fun
  | [d] => { results := [.lit (.bool true)], args := [d] }
  | _ => none }
def wordTellsRow : OpenClaim := { program := "ytmjedjhgomlfiaadoor", sum := "c60b7723fe7a823e93d266d9761abe8c872329682b30310c827801be9a113081", func := "towncrier/towncrierlaw01.WordTells", spec := "wordTells", inPlace := ["internal/bytealg.CountString", "internal/bytealg.IndexByteString", "internal/bytealg.IndexString"], unfollowed := true, recurses := true, named := ["unicode/utf8.first", "unicode/utf8.acceptRanges", "internal/bytealg.MaxLen", "strconv.ErrSyntax", "strconv.ErrRange", "internal/strconv.uint64pow10", "math/bits.deBruijn32tab", "math/bits.deBruijn64tab"], apart := false, laid := [("math/bits.deBruijn32tab", laid_math_bits_deBruijn32tab), ("math/bits.deBruijn64tab", laid_math_bits_deBruijn64tab), ("internal/strconv.uint64pow10", laid_internal_strconv_uint64pow10), ("unicode/utf8.acceptRanges", laid_unicode_utf8_acceptRanges), ("strconv.ErrRange", laid_strconv_ErrRange), ("strconv.ErrSyntax", laid_strconv_ErrSyntax), ("unicode/utf8.first", laid_unicode_utf8_first)] }
def WordTellsSaid : Prop := wordTellsRow.holds Tryd.pinned (OpenSpec.ofChange wordTellsSpec)

/-- ITS FALSE NEIGHBOUR: 'it returns false'. Refute it at one input. -/
def wordTellsWrong : ChangeSpec := { name := "wordTells", fn := fun _ => fun
  | [d] => { results := [.lit (.bool false)], args := [d] }
  | _ => none }
def WordTellsWrongFalsely : Prop := wordTellsRow.holds Tryd.pinned (OpenSpec.ofChange wordTellsWrong)

/-- 'towncrierlaw21.ScriptParses': WHATEVER THE INPUT: true; the input reads as it did. -/
def scriptParsesSpec : ChangeSpec := { name := "scriptParses", fn := fun _ => fun
  | [d] => { results := [.lit (.bool true)], args := [d] }
  | _ => none }
def scriptParsesRow : OpenClaim := { program := "ytmjedjhgomlfiaadoor", sum := "c60b7723fe7a823e93d266d9761abe8c872329682b30310c827801be9a113081", func := "towncrier/towncrierlaw21.ScriptParses", spec := "scriptParses", inPlace := ["internal/bytealg.IndexByteString", "internal/bytealg.IndexString", "internal/bytealg.CountString"], unfollowed := true, recurses := true, named := ["unicode/utf8.first", "unicode/utf8.acceptRanges", "internal/bytealg.MaxLen", "towncrier/op.names", "towncrier/op.numbers", "towncrier/op.worded", "strconv.ErrSyntax", "strconv.ErrRange", "internal/strconv.uint64pow10", "math/bits.deBruijn32tab", "math/bits.deBruijn64tab"], apart := false, laid := [("math/bits.deBruijn32tab", laid_math_bits_deBruijn32tab), ("math/bits.deBruijn64tab", laid_math_bits_deBruijn64tab), ("internal/strconv.uint64pow10", laid_internal_strconv_uint64pow10), ("unicode/utf8.acceptRanges", laid_unicode_utf8_acceptRanges), ("strconv.ErrRange", laid_strconv_ErrRange), ("strconv.ErrSyntax", laid_strconv_ErrSyntax), ("towncrier/op.names", laid_towncrier_op_names), ("towncrier/op.numbers", laid_towncrier_op_numbers), ("towncrier/op.worded", laid_towncrier_op_worded), ("unicode/utf8.first", laid_unicode_utf8_first)] }
def ScriptParsesSaid : Prop := scriptParsesRow.holds Tryd.pinned (OpenSpec.ofChange scriptParsesSpec)

/-- ITS FALSE NEIGHBOUR: 'it returns false'. Refute it at one input. -/
def scriptParsesWrong : ChangeSpec := { name := "scriptParses", fn := fun _ => fun
  | [d] => { results := [.lit (.bool false)], args := [d] }
  | _ => none }
def ScriptParsesWrongFalsely : Prop := scriptParsesRow.holds Tryd.pinned (OpenSpec.ofChange scriptParsesWrong)

/-- 'towncrierlaw21.ScriptBlanks': WHATEVER THE INPUT: true; the input reads as it did. -/
def scriptBlanksSpec : ChangeSpec := { name := "scriptBlanks", fn := fun _ => fun
  | [d1, d2, d3] => { results := [.lit (.bool true)], args := [d1, d2, d3] }
  | _ => none }
def scriptBlanksRow : OpenClaim := { program := "ytmjedjhgomlfiaadoor", sum := "c60b7723fe7a823e93d266d9761abe8c872329682b30310c827801be9a113081", func := "towncrier/towncrierlaw21.ScriptBlanks", spec := "scriptBlanks", inPlace := ["internal/bytealg.IndexByteString", "internal/bytealg.IndexString", "internal/bytealg.CountString"], unfollowed := true, recurses := true, named := ["unicode/utf8.first", "unicode/utf8.acceptRanges", "internal/bytealg.MaxLen", "towncrier/op.names", "towncrier/op.numbers", "towncrier/op.worded", "strconv.ErrSyntax", "strconv.ErrRange", "internal/strconv.uint64pow10", "math/bits.deBruijn32tab", "math/bits.deBruijn64tab"], apart := false, laid := [("math/bits.deBruijn32tab", laid_math_bits_deBruijn32tab), ("math/bits.deBruijn64tab", laid_math_bits_deBruijn64tab), ("internal/strconv.uint64pow10", laid_internal_strconv_uint64pow10), ("unicode/utf8.acceptRanges", laid_unicode_utf8_acceptRanges), ("strconv.ErrRange", laid_strconv_ErrRange), ("strconv.ErrSyntax", laid_strconv_ErrSyntax), ("towncrier/op.names", laid_towncrier_op_names), ("towncrier/op.numbers", laid_towncrier_op_numbers), ("towncrier/op.worded", laid_towncrier_op_worded), ("unicode/utf8.first", laid_unicode_utf8_first)] }
def ScriptBlanksSaid : Prop := scriptBlanksRow.holds Tryd.pinned (OpenSpec.ofChange scriptBlanksSpec)

/-- ITS FALSE NEIGHBOUR: 'it returns false'. Refute it at one input. -/
def scriptBlanksWrong : ChangeSpec := { name := "scriptBlanks", fn := fun _ => fun
  | [d1, d2, d3] => { results := [.lit (.bool false)], args := [d1, d2, d3] }
  | _ => none }
def ScriptBlanksWrongFalsely : Prop := scriptBlanksRow.holds Tryd.pinned (OpenSpec.ofChange scriptBlanksWrong)

/-- 'towncrierlaw21.ScriptCuts': WHATEVER THE INPUT: true; the input reads as it did. -/
def scriptCutsSpec : ChangeSpec := { name := "scriptCuts", fn := fun _ => fun
  | [d1, d2] => { results := [.lit (.bool true)], args := [d1, d2] }
  | _ => none }
def scriptCutsRow : OpenClaim := { program := "ytmjedjhgomlfiaadoor", sum := "c60b7723fe7a823e93d266d9761abe8c872329682b30310c827801be9a113081", func := "towncrier/towncrierlaw21.ScriptCuts", spec := "scriptCuts", inPlace := ["internal/bytealg.IndexByteString", "internal/bytealg.IndexString", "internal/bytealg.CountString", "internal/abi.NoEscape", "internal/bytealg.MakeNoZero"], unfollowed := true, recurses := true, named := ["unicode/utf8.first", "unicode/utf8.acceptRanges", "internal/bytealg.MaxLen", "towncrier/op.names", "towncrier/op.numbers", "towncrier/op.worded", "strconv.ErrSyntax", "strconv.ErrRange", "internal/strconv.uint64pow10", "math/bits.deBruijn32tab", "math/bits.deBruijn64tab"], apart := false, laid := [("math/bits.deBruijn32tab", laid_math_bits_deBruijn32tab), ("math/bits.deBruijn64tab", laid_math_bits_deBruijn64tab), ("internal/strconv.uint64pow10", laid_internal_strconv_uint64pow10), ("unicode/utf8.acceptRanges", laid_unicode_utf8_acceptRanges), ("strconv.ErrRange", laid_strconv_ErrRange), ("strconv.ErrSyntax", laid_strconv_ErrSyntax), ("towncrier/op.names", laid_towncrier_op_names), ("towncrier/op.numbers", laid_towncrier_op_numbers), ("towncrier/op.worded", laid_towncrier_op_worded), ("unicode/utf8.first", laid_unicode_utf8_first)] }
def ScriptCutsSaid : Prop := scriptCutsRow.holds Tryd.pinned (OpenSpec.ofChange scriptCutsSpec)

/-- ITS FALSE NEIGHBOUR: 'it returns false'. Refute it at one input. -/
def scriptCutsWrong : ChangeSpec := { name := "scriptCuts", fn := fun _ => fun
  | [d1, d2] => { results := [.lit (.bool false)], args := [d1, d2] }
  | _ => none }
def ScriptCutsWrongFalsely : Prop := scriptCutsRow.holds Tryd.pinned (OpenSpec.ofChange scriptCutsWrong)

/- THE SECOND FORM. 'bulk': how many values and letters a reading holds, each counted each time it is reached (what is shared counts as often as it is met; a slice's spare places count too). A statement '..UptoSaid' is the law's where the arguments, and the package variables that the reading takes, are together of bulk at most 1048576: NARROWER than '..Said'. Prove '..Said' where nothing that the law and all that it calls make is longer than what came in: it says more and counts as full. Else prove '..UptoSaid'. A law counts once. -/
mutual
def uptoBulk {H : Type} : DataW H → Nat
  | .lit (.string bytes) => bytes.length + 1
  | .lit _ => 1
  | .nil => 1
  | .ptr d => uptoBulk d + 1
  | .slice elems spare => uptoBulkAll elems + uptoBulkAll spare + 1
  | .agg parts => uptoBulkAll parts + 1
  | .iface _ d => uptoBulk d + 1
  | .map entries => uptoBulkEntries entries + 1
  | .held _ => 1
def uptoBulkAll {H : Type} : List (DataW H) → Nat
  | [] => 0
  | d :: r => uptoBulk d + uptoBulkAll r
def uptoBulkEntries {H : Type} : List (Lit × DataW H) → Nat
  | [] => 0
  | x :: r => uptoBulkEntry x + uptoBulkEntries r
def uptoBulkEntry {H : Type} : Lit × DataW H → Nat
  | (.string bytes, d) => bytes.length + uptoBulk d + 1
  | (_, d) => uptoBulk d + 1
 end
def uptoSmall : (H : Type) → List (DataW H) → Bool := fun _ ds => decide (uptoBulkAll ds ≤ 1048576)
def OpenSpec.upto (s : _root_.Go.ChangeSpec) : _root_.Go.OpenSpec := { _root_.Go.OpenSpec.ofChange s with cond := some uptoSmall }

/-- 'towncrierlaw01.WordJoins', WHERE WHAT IT READS IS OF BULK AT MOST 1048576: true; the input reads as it did. -/
def wordJoinsUptoRow : OpenClaim := { program := "ytmjedjhgomlfiaadoor", sum := "c60b7723fe7a823e93d266d9761abe8c872329682b30310c827801be9a113081", func := "towncrier/towncrierlaw01.WordJoins", spec := "wordJoins", inPlace := ["internal/bytealg.CountString", "internal/bytealg.IndexByteString", "internal/bytealg.IndexString", "internal/abi.NoEscape", "internal/bytealg.MakeNoZero"], unfollowed := true, recurses := true, named := ["unicode/utf8.first", "unicode/utf8.acceptRanges", "internal/bytealg.MaxLen"], apart := false, laid := [("unicode/utf8.acceptRanges", laid_unicode_utf8_acceptRanges), ("unicode/utf8.first", laid_unicode_utf8_first)], narrowed := true }
def WordJoinsUptoSaid : Prop := wordJoinsUptoRow.holds Tryd.pinned (OpenSpec.upto wordJoinsSpec)

/-- 'towncrierlaw24.RowsTell', WHERE WHAT IT READS IS OF BULK AT MOST 1048576: true; the input reads as it did. -/
def rowsTellUptoRow : OpenClaim := { program := "ytmjedjhgomlfiaadoor", sum := "c60b7723fe7a823e93d266d9761abe8c872329682b30310c827801be9a113081", func := "towncrier/towncrierlaw24.RowsTell", spec := "rowsTell", inPlace := ["internal/abi.NoEscape", "internal/bytealg.MakeNoZero"], named := ["internal/strconv.uint64pow10", "math/bits.deBruijn32tab", "math/bits.deBruijn64tab", "towncrier/op.names"], apart := false, laid := [("math/bits.deBruijn32tab", laid_math_bits_deBruijn32tab), ("math/bits.deBruijn64tab", laid_math_bits_deBruijn64tab), ("internal/strconv.uint64pow10", laid_internal_strconv_uint64pow10), ("towncrier/op.names", laid_towncrier_op_names)], narrowed := true }
def RowsTellUptoSaid : Prop := rowsTellUptoRow.holds Tryd.pinned (OpenSpec.upto rowsTellSpec)

/-- 'towncrierlaw24.RowsWords', WHERE WHAT IT READS IS OF BULK AT MOST 1048576: true; the input reads as it did. -/
def rowsWordsUptoRow : OpenClaim := { program := "ytmjedjhgomlfiaadoor", sum := "c60b7723fe7a823e93d266d9761abe8c872329682b30310c827801be9a113081", func := "towncrier/towncrierlaw24.RowsWords", spec := "rowsWords", inPlace := ["internal/abi.NoEscape", "internal/bytealg.MakeNoZero"], named := ["internal/strconv.uint64pow10", "math/bits.deBruijn32tab", "math/bits.deBruijn64tab", "towncrier/op.names"], apart := false, laid := [("math/bits.deBruijn32tab", laid_math_bits_deBruijn32tab), ("math/bits.deBruijn64tab", laid_math_bits_deBruijn64tab), ("internal/strconv.uint64pow10", laid_internal_strconv_uint64pow10), ("towncrier/op.names", laid_towncrier_op_names)], narrowed := true }
def RowsWordsUptoSaid : Prop := rowsWordsUptoRow.holds Tryd.pinned (OpenSpec.upto rowsWordsSpec)

/-- 'towncrierlaw19.OpParses', WHERE WHAT IT READS IS OF BULK AT MOST 1048576: true; the input reads as it did. -/
def opParsesUptoRow : OpenClaim := { program := "ytmjedjhgomlfiaadoor", sum := "c60b7723fe7a823e93d266d9761abe8c872329682b30310c827801be9a113081", func := "towncrier/towncrierlaw19.OpParses", spec := "opParses", named := ["towncrier/op.names", "towncrier/op.numbers", "towncrier/op.worded", "strconv.ErrSyntax", "strconv.ErrRange", "internal/strconv.uint64pow10", "math/bits.deBruijn32tab", "math/bits.deBruijn64tab"], apart := false, laid := [("math/bits.deBruijn32tab", laid_math_bits_deBruijn32tab), ("math/bits.deBruijn64tab", laid_math_bits_deBruijn64tab), ("internal/strconv.uint64pow10", laid_internal_strconv_uint64pow10), ("strconv.ErrRange", laid_strconv_ErrRange), ("strconv.ErrSyntax", laid_strconv_ErrSyntax), ("towncrier/op.names", laid_towncrier_op_names), ("towncrier/op.numbers", laid_towncrier_op_numbers), ("towncrier/op.worded", laid_towncrier_op_worded)], narrowed := true }
def OpParsesUptoSaid : Prop := opParsesUptoRow.holds Tryd.pinned (OpenSpec.upto opParsesSpec)

/-- 'towncrierlaw19.OpTells', WHERE WHAT IT READS IS OF BULK AT MOST 1048576: true; the input reads as it did. -/
def opTellsUptoRow : OpenClaim := { program := "ytmjedjhgomlfiaadoor", sum := "c60b7723fe7a823e93d266d9761abe8c872329682b30310c827801be9a113081", func := "towncrier/towncrierlaw19.OpTells", spec := "opTells", named := ["towncrier/op.names", "towncrier/op.numbers", "towncrier/op.worded", "strconv.ErrSyntax", "strconv.ErrRange", "internal/strconv.uint64pow10", "math/bits.deBruijn32tab", "math/bits.deBruijn64tab"], apart := false, laid := [("math/bits.deBruijn32tab", laid_math_bits_deBruijn32tab), ("math/bits.deBruijn64tab", laid_math_bits_deBruijn64tab), ("internal/strconv.uint64pow10", laid_internal_strconv_uint64pow10), ("strconv.ErrRange", laid_strconv_ErrRange), ("strconv.ErrSyntax", laid_strconv_ErrSyntax), ("towncrier/op.names", laid_towncrier_op_names), ("towncrier/op.numbers", laid_towncrier_op_numbers), ("towncrier/op.worded", laid_towncrier_op_worded)], narrowed := true }
def OpTellsUptoSaid : Prop := opTellsUptoRow.holds Tryd.pinned (OpenSpec.upto opTellsSpec)

/-- 'towncrierlaw19.OpNames', WHERE WHAT IT READS IS OF BULK AT MOST 1048576: true; the input reads as it did. -/
def opNamesUptoRow : OpenClaim := { program := "ytmjedjhgomlfiaadoor", sum := "c60b7723fe7a823e93d266d9761abe8c872329682b30310c827801be9a113081", func := "towncrier/towncrierlaw19.OpNames", spec := "opNames", named := ["towncrier/op.names", "towncrier/op.numbers", "towncrier/op.worded", "strconv.ErrSyntax", "strconv.ErrRange", "internal/strconv.uint64pow10", "math/bits.deBruijn32tab", "math/bits.deBruijn64tab"], apart := false, laid := [("math/bits.deBruijn32tab", laid_math_bits_deBruijn32tab), ("math/bits.deBruijn64tab", laid_math_bits_deBruijn64tab), ("internal/strconv.uint64pow10", laid_internal_strconv_uint64pow10), ("strconv.ErrRange", laid_strconv_ErrRange), ("strconv.ErrSyntax", laid_strconv_ErrSyntax), ("towncrier/op.names", laid_towncrier_op_names), ("towncrier/op.numbers", laid_towncrier_op_numbers), ("towncrier/op.worded", laid_towncrier_op_worded)], narrowed := true }
def OpNamesUptoSaid : Prop := opNamesUptoRow.holds Tryd.pinned (OpenSpec.upto opNamesSpec)

/-- 'towncrierlaw19.OpTexts', WHERE WHAT IT READS IS OF BULK AT MOST 1048576: true; the input reads as it did. -/
def opTextsUptoRow : OpenClaim := { program := "ytmjedjhgomlfiaadoor", sum := "c60b7723fe7a823e93d266d9761abe8c872329682b30310c827801be9a113081", func := "towncrier/towncrierlaw19.OpTexts", spec := "opTexts", inPlace := ["internal/abi.NoEscape", "internal/bytealg.MakeNoZero"], named := ["towncrier/op.names", "towncrier/op.numbers", "towncrier/op.worded", "strconv.ErrSyntax", "strconv.ErrRange", "internal/strconv.uint64pow10", "math/bits.deBruijn32tab", "math/bits.deBruijn64tab"], apart := false, laid := [("math/bits.deBruijn32tab", laid_math_bits_deBruijn32tab), ("math/bits.deBruijn64tab", laid_math_bits_deBruijn64tab), ("internal/strconv.uint64pow10", laid_internal_strconv_uint64pow10), ("strconv.ErrRange", laid_strconv_ErrRange), ("strconv.ErrSyntax", laid_strconv_ErrSyntax), ("towncrier/op.names", laid_towncrier_op_names), ("towncrier/op.numbers", laid_towncrier_op_numbers), ("towncrier/op.worded", laid_towncrier_op_worded)], narrowed := true }
def OpTextsUptoSaid : Prop := opTextsUptoRow.holds Tryd.pinned (OpenSpec.upto opTextsSpec)

/-- 'towncrierlaw01.WordNums', WHERE WHAT IT READS IS OF BULK AT MOST 1048576: true; the input reads as it did. -/
def wordNumsUptoRow : OpenClaim := { program := "ytmjedjhgomlfiaadoor", sum := "c60b7723fe7a823e93d266d9761abe8c872329682b30310c827801be9a113081", func := "towncrier/towncrierlaw01.WordNums", spec := "wordNums", inPlace := ["internal/bytealg.CountString", "internal/bytealg.IndexByteString", "internal/bytealg.IndexString"], unfollowed := true, recurses := true, named := ["unicode/utf8.first", "unicode/utf8.acceptRanges", "internal/bytealg.MaxLen", "internal/strconv.uint64pow10", "math/bits.deBruijn32tab", "math/bits.deBruijn64tab", "strconv.ErrSyntax", "strconv.ErrRange"], apart := false, laid := [("math/bits.deBruijn32tab", laid_math_bits_deBruijn32tab), ("math/bits.deBruijn64tab", laid_math_bits_deBruijn64tab), ("internal/strconv.uint64pow10", laid_internal_strconv_uint64pow10), ("unicode/utf8.acceptRanges", laid_unicode_utf8_acceptRanges), ("strconv.ErrRange", laid_strconv_ErrRange), ("strconv.ErrSyntax", laid_strconv_ErrSyntax), ("unicode/utf8.first", laid_unicode_utf8_first)], narrowed := true }
def WordNumsUptoSaid : Prop := wordNumsUptoRow.holds Tryd.pinned (OpenSpec.upto wordNumsSpec)

/-- 'towncrierlaw01.WordTells', WHERE WHAT IT READS IS OF BULK AT MOST 1048576: true; the input reads as it did. -/
def wordTellsUptoRow : OpenClaim := { program := "ytmjedjhgomlfiaadoor", sum := "c60b7723fe7a823e93d266d9761abe8c872329682b30310c827801be9a113081", func := "towncrier/towncrierlaw01.WordTells", spec := "wordTells", inPlace := ["internal/bytealg.CountString", "internal/bytealg.IndexByteString", "internal/bytealg.IndexString"], unfollowed := true, recurses := true, named := ["unicode/utf8.first", "unicode/utf8.acceptRanges", "internal/bytealg.MaxLen", "strconv.ErrSyntax", "strconv.ErrRange", "internal/strconv.uint64pow10", "math/bits.deBruijn32tab", "math/bits.deBruijn64tab"], apart := false, laid := [("math/bits.deBruijn32tab", laid_math_bits_deBruijn32tab), ("math/bits.deBruijn64tab", laid_math_bits_deBruijn64tab), ("internal/strconv.uint64pow10", laid_internal_strconv_uint64pow10), ("unicode/utf8.acceptRanges", laid_unicode_utf8_acceptRanges), ("strconv.ErrRange", laid_strconv_ErrRange), ("strconv.ErrSyntax", laid_strconv_ErrSyntax), ("unicode/utf8.first", laid_unicode_utf8_first)], narrowed := true }
def WordTellsUptoSaid : Prop := wordTellsUptoRow.holds Tryd.pinned (OpenSpec.upto wordTellsSpec)

/-- 'towncrierlaw21.ScriptParses', WHERE WHAT IT READS IS OF BULK AT MOST 1048576: true; the input reads as it did. -/
def scriptParsesUptoRow : OpenClaim := { program := "ytmjedjhgomlfiaadoor", sum := "c60b7723fe7a823e93d266d9761abe8c872329682b30310c827801be9a113081", func := "towncrier/towncrierlaw21.ScriptParses", spec := "scriptParses", inPlace := ["internal/bytealg.IndexByteString", "internal/bytealg.IndexString", "internal/bytealg.CountString"], unfollowed := true, recurses := true, named := ["unicode/utf8.first", "unicode/utf8.acceptRanges", "internal/bytealg.MaxLen", "towncrier/op.names", "towncrier/op.numbers", "towncrier/op.worded", "strconv.ErrSyntax", "strconv.ErrRange", "internal/strconv.uint64pow10", "math/bits.deBruijn32tab", "math/bits.deBruijn64tab"], apart := false, laid := [("math/bits.deBruijn32tab", laid_math_bits_deBruijn32tab), ("math/bits.deBruijn64tab", laid_math_bits_deBruijn64tab), ("internal/strconv.uint64pow10", laid_internal_strconv_uint64pow10), ("unicode/utf8.acceptRanges", laid_unicode_utf8_acceptRanges), ("strconv.ErrRange", laid_strconv_ErrRange), ("strconv.ErrSyntax", laid_strconv_ErrSyntax), ("towncrier/op.names", laid_towncrier_op_names), ("towncrier/op.numbers", laid_towncrier_op_numbers), ("towncrier/op.worded", laid_towncrier_op_worded), ("unicode/utf8.first", laid_unicode_utf8_first)], narrowed := true }
def ScriptParsesUptoSaid : Prop := scriptParsesUptoRow.holds Tryd.pinned (OpenSpec.upto scriptParsesSpec)

/-- 'towncrierlaw21.ScriptBlanks', WHERE WHAT IT READS IS OF BULK AT MOST 1048576: true; the input reads as it did. -/
def scriptBlanksUptoRow : OpenClaim := { program := "ytmjedjhgomlfiaadoor", sum := "c60b7723fe7a823e93d266d9761abe8c872329682b30310c827801be9a113081", func := "towncrier/towncrierlaw21.ScriptBlanks", spec := "scriptBlanks", inPlace := ["internal/bytealg.IndexByteString", "internal/bytealg.IndexString", "internal/bytealg.CountString"], unfollowed := true, recurses := true, named := ["unicode/utf8.first", "unicode/utf8.acceptRanges", "internal/bytealg.MaxLen", "towncrier/op.names", "towncrier/op.numbers", "towncrier/op.worded", "strconv.ErrSyntax", "strconv.ErrRange", "internal/strconv.uint64pow10", "math/bits.deBruijn32tab", "math/bits.deBruijn64tab"], apart := false, laid := [("math/bits.deBruijn32tab", laid_math_bits_deBruijn32tab), ("math/bits.deBruijn64tab", laid_math_bits_deBruijn64tab), ("internal/strconv.uint64pow10", laid_internal_strconv_uint64pow10), ("unicode/utf8.acceptRanges", laid_unicode_utf8_acceptRanges), ("strconv.ErrRange", laid_strconv_ErrRange), ("strconv.ErrSyntax", laid_strconv_ErrSyntax), ("towncrier/op.names", laid_towncrier_op_names), ("towncrier/op.numbers", laid_towncrier_op_numbers), ("towncrier/op.worded", laid_towncrier_op_worded), ("unicode/utf8.first", laid_unicode_utf8_first)], narrowed := true }
def ScriptBlanksUptoSaid : Prop := scriptBlanksUptoRow.holds Tryd.pinned (OpenSpec.upto scriptBlanksSpec)

/-- 'towncrierlaw21.ScriptCuts', WHERE WHAT IT READS IS OF BULK AT MOST 1048576: true; the input reads as it did. -/
def scriptCutsUptoRow : OpenClaim := { program := "ytmjedjhgomlfiaadoor", sum := "c60b7723fe7a823e93d266d9761abe8c872329682b30310c827801be9a113081", func := "towncrier/towncrierlaw21.ScriptCuts", spec := "scriptCuts", inPlace := ["internal/bytealg.IndexByteString", "internal/bytealg.IndexString", "internal/bytealg.CountString", "internal/abi.NoEscape", "internal/bytealg.MakeNoZero"], unfollowed := true, recurses := true, named := ["unicode/utf8.first", "unicode/utf8.acceptRanges", "internal/bytealg.MaxLen", "towncrier/op.names", "towncrier/op.numbers", "towncrier/op.worded", "strconv.ErrSyntax", "strconv.ErrRange", "internal/strconv.uint64pow10", "math/bits.deBruijn32tab", "math/bits.deBruijn64tab"], apart := false, laid := [("math/bits.deBruijn32tab", laid_math_bits_deBruijn32tab), ("math/bits.deBruijn64tab", laid_math_bits_deBruijn64tab), ("internal/strconv.uint64pow10", laid_internal_strconv_uint64pow10), ("unicode/utf8.acceptRanges", laid_unicode_utf8_acceptRanges), ("strconv.ErrRange", laid_strconv_ErrRange), ("strconv.ErrSyntax", laid_strconv_ErrSyntax), ("towncrier/op.names", laid_towncrier_op_names), ("towncrier/op.numbers", laid_towncrier_op_numbers), ("towncrier/op.worded", laid_towncrier_op_worded), ("unicode/utf8.first", laid_unicode_utf8_first)], narrowed := true }
def ScriptCutsUptoSaid : Prop := scriptCutsUptoRow.holds Tryd.pinned (OpenSpec.upto scriptCutsSpec)

end Rows
end Go.Proofs.YtmjedjhgomlfiaaDoor
