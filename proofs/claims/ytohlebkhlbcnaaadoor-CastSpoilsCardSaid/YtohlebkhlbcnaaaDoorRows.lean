/-
  NARROWER THAN 'FOR EVERY INPUT', by the rows' own cells (each row's printed sentence says how): JsonSigns: laid · CastWrites: laid · CastLines: laid · JsonTexts: laid · JsonAny: laid · JsonNumbers: laid · JsonTimes: laid · JsonUntimes: laid · CastBack: laid · CastAny: laid · CastSpoils: laid.
  DERIVED. THE GIVEN ROWS OF THIS SEAT. 11 by the template 'for every input the law returns true; each argument reads behind the call as it read before'; 0 by the template 'total and deterministic' (their statements: YtohlebkhlbcnaaaDoorTotals.lean).
  GIVEN WITH THE SEED: the statements are not yours to turn. If you find one false, say at which input.
  Laid BY PROGRAM, IN A SANDBOX (cutbox-rows.mjs): the forced cells as the released guide's own fill.sh prints them over the translation 88a463d8464895e8… (all of the seat's roots in one cut). By AI agents, Wed Nov 11 2026. No macro, syntax, notation, axiom, sorry.
-/
import Derived.Test.YtohlebkhlbcnaaaDoorChecked
import GoSem.PinnedTables
import GoSem.Claim
import GoSem.ClaimJoined
import GoSem.ClaimMapViews
import Derived.JoinedTies
import Derived.KernelRfl
namespace Go.Proofs.YtohlebkhlbcnaaaDoor
/- THE CELL 'sum', in the pinned program and in every row, IS THE sha256 OF THE DUMP (.gsa) THAT YtohlebkhlbcnaaaDoorProg.lean LOADS. Nothing in Lean hashes anything: it is a label: what it is worth is what the hold of that sum in a sandbox is worth. -/
noncomputable def Tryd.pinned : Pinned := { name := "ytohlebkhlbcnaaadoor", sum := "88a463d8464895e8f132cae281b9a79031c6e347ae4a6626d66b0cef3589052c", checked := Tryd.checked }
namespace Rows
def none {H : Type} : Left H := { results := [], args := [] }

/- WHAT THE LISTED PACKAGE-LEVEL VARIABLES READ AS WHEN THE CALL BEGINS. Each datum BY PROGRAM (the guide's laid-datum.mjs) off the statement by which the dump's own 'gosem.cut.vars' lays the variable. In a bare row this is a premise. The card (YtohlebkhlbcnaaaDoorCards.lean) ties it to the program's text. -/
def laid_math_bits_deBruijn32tab {H : Type} : DataW H := .agg [.lit (.int .u8 0), .lit (.int .u8 1), .lit (.int .u8 28), .lit (.int .u8 2), .lit (.int .u8 29), .lit (.int .u8 14), .lit (.int .u8 24), .lit (.int .u8 3), .lit (.int .u8 30), .lit (.int .u8 22), .lit (.int .u8 20), .lit (.int .u8 15), .lit (.int .u8 25), .lit (.int .u8 17), .lit (.int .u8 4), .lit (.int .u8 8), .lit (.int .u8 31), .lit (.int .u8 27), .lit (.int .u8 13), .lit (.int .u8 23), .lit (.int .u8 21), .lit (.int .u8 19), .lit (.int .u8 16), .lit (.int .u8 7), .lit (.int .u8 26), .lit (.int .u8 12), .lit (.int .u8 18), .lit (.int .u8 6), .lit (.int .u8 11), .lit (.int .u8 5), .lit (.int .u8 10), .lit (.int .u8 9)]
def laid_math_bits_deBruijn64tab {H : Type} : DataW H := .agg [.lit (.int .u8 0), .lit (.int .u8 1), .lit (.int .u8 56), .lit (.int .u8 2), .lit (.int .u8 57), .lit (.int .u8 49), .lit (.int .u8 28), .lit (.int .u8 3), .lit (.int .u8 61), .lit (.int .u8 58), .lit (.int .u8 42), .lit (.int .u8 50), .lit (.int .u8 38), .lit (.int .u8 29), .lit (.int .u8 17), .lit (.int .u8 4), .lit (.int .u8 62), .lit (.int .u8 47), .lit (.int .u8 59), .lit (.int .u8 36), .lit (.int .u8 45), .lit (.int .u8 43), .lit (.int .u8 51), .lit (.int .u8 22), .lit (.int .u8 53), .lit (.int .u8 39), .lit (.int .u8 33), .lit (.int .u8 30), .lit (.int .u8 24), .lit (.int .u8 18), .lit (.int .u8 12), .lit (.int .u8 5), .lit (.int .u8 63), .lit (.int .u8 55), .lit (.int .u8 48), .lit (.int .u8 27), .lit (.int .u8 60), .lit (.int .u8 41), .lit (.int .u8 37), .lit (.int .u8 16), .lit (.int .u8 46), .lit (.int .u8 35), .lit (.int .u8 44), .lit (.int .u8 21), .lit (.int .u8 52), .lit (.int .u8 32), .lit (.int .u8 23), .lit (.int .u8 11), .lit (.int .u8 54), .lit (.int .u8 26), .lit (.int .u8 40), .lit (.int .u8 15), .lit (.int .u8 34), .lit (.int .u8 20), .lit (.int .u8 31), .lit (.int .u8 10), .lit (.int .u8 25), .lit (.int .u8 14), .lit (.int .u8 19), .lit (.int .u8 9), .lit (.int .u8 13), .lit (.int .u8 8), .lit (.int .u8 7), .lit (.int .u8 6)]
def laid_internal_strconv_uint64pow10 {H : Type} : DataW H := .agg [.lit (.int .u64 1), .lit (.int .u64 10), .lit (.int .u64 100), .lit (.int .u64 1000), .lit (.int .u64 10000), .lit (.int .u64 100000), .lit (.int .u64 1000000), .lit (.int .u64 10000000), .lit (.int .u64 100000000), .lit (.int .u64 1000000000), .lit (.int .u64 10000000000), .lit (.int .u64 100000000000), .lit (.int .u64 1000000000000), .lit (.int .u64 10000000000000), .lit (.int .u64 100000000000000), .lit (.int .u64 1000000000000000), .lit (.int .u64 10000000000000000), .lit (.int .u64 100000000000000000), .lit (.int .u64 1000000000000000000), .lit (.int .u64 10000000000000000000)]
def laid_unicode_utf8_acceptRanges {H : Type} : DataW H := .agg [.agg [.lit (.int .u8 128), .lit (.int .u8 191)], .agg [.lit (.int .u8 160), .lit (.int .u8 191)], .agg [.lit (.int .u8 128), .lit (.int .u8 159)], .agg [.lit (.int .u8 144), .lit (.int .u8 191)], .agg [.lit (.int .u8 128), .lit (.int .u8 143)], .agg [.lit (.int .u8 0), .lit (.int .u8 0)], .agg [.lit (.int .u8 0), .lit (.int .u8 0)], .agg [.lit (.int .u8 0), .lit (.int .u8 0)], .agg [.lit (.int .u8 0), .lit (.int .u8 0)], .agg [.lit (.int .u8 0), .lit (.int .u8 0)], .agg [.lit (.int .u8 0), .lit (.int .u8 0)], .agg [.lit (.int .u8 0), .lit (.int .u8 0)], .agg [.lit (.int .u8 0), .lit (.int .u8 0)], .agg [.lit (.int .u8 0), .lit (.int .u8 0)], .agg [.lit (.int .u8 0), .lit (.int .u8 0)], .agg [.lit (.int .u8 0), .lit (.int .u8 0)]]
/-- One of Go's own tables, pinned by name: the form's constant. -/
def laid_unicode_utf8_first : DataW Unit := Go.Pinned.utf8First
def laid_strconv_ErrRange {H : Type} : DataW H := .iface "*errors.errorString" (.ptr (.agg [.lit (.string [118, 97, 108, 117, 101, 32, 111, 117, 116, 32, 111, 102, 32, 114, 97, 110, 103, 101])]))
def laid_strconv_ErrSyntax {H : Type} : DataW H := .iface "*errors.errorString" (.ptr (.agg [.lit (.string [105, 110, 118, 97, 108, 105, 100, 32, 115, 121, 110, 116, 97, 120])]))

/-- 'flipbooklaw03.JsonSigns': WHATEVER THE INPUT: true; the input reads as it did. -/
def jsonSignsSpec : ChangeSpec := { name := "jsonSigns", fn := fun _ => fun
  | [d] => { results := [.lit (.bool true)], args := [d] }
  | _ => none }
def jsonSignsRow : OpenClaim := { program := "ytohlebkhlbcnaaadoor", sum := "88a463d8464895e8f132cae281b9a79031c6e347ae4a6626d66b0cef3589052c", func := "flipbook/flipbooklaw03.JsonSigns", spec := "jsonSigns", named := ["internal/strconv.uint64pow10", "math/bits.deBruijn32tab", "math/bits.deBruijn64tab"], apart := false, laid := [("math/bits.deBruijn32tab", laid_math_bits_deBruijn32tab), ("math/bits.deBruijn64tab", laid_math_bits_deBruijn64tab), ("internal/strconv.uint64pow10", laid_internal_strconv_uint64pow10)] }
def JsonSignsSaid : Prop := jsonSignsRow.holds Tryd.pinned (OpenSpec.ofChange jsonSignsSpec)

/-- ITS FALSE NEIGHBOUR: 'it returns false'. Refute it at one input. -/
def jsonSignsWrong : ChangeSpec := { name := "jsonSigns", fn := fun _ => fun
  | [d] => { results := [.lit (.bool false)], args := [d] }
  | _ => none }
def JsonSignsWrongFalsely : Prop := jsonSignsRow.holds Tryd.pinned (OpenSpec.ofChange jsonSignsWrong)

/-- 'flipbooklaw17.CastWrites': WHATEVER THE INPUT: true; the input reads as it did. -/
def castWritesSpec : ChangeSpec := { name := "castWrites", fn := fun _ => fun
  | [d1, d2, d3] => { results := [.lit (.bool true)], args := [d1, d2, d3] }
  | _ => none }
def castWritesRow : OpenClaim := { program := "ytohlebkhlbcnaaadoor", sum := "88a463d8464895e8f132cae281b9a79031c6e347ae4a6626d66b0cef3589052c", func := "flipbook/flipbooklaw17.CastWrites", spec := "castWrites", inPlace := ["internal/abi.NoEscape"], named := ["internal/strconv.uint64pow10", "math/bits.deBruijn32tab", "math/bits.deBruijn64tab"], apart := false, laid := [("math/bits.deBruijn32tab", laid_math_bits_deBruijn32tab), ("math/bits.deBruijn64tab", laid_math_bits_deBruijn64tab), ("internal/strconv.uint64pow10", laid_internal_strconv_uint64pow10)] }
def CastWritesSaid : Prop := castWritesRow.holds Tryd.pinned (OpenSpec.ofChange castWritesSpec)

/-- ITS FALSE NEIGHBOUR: 'it returns false'. Refute it at one input. -/
def castWritesWrong : ChangeSpec := { name := "castWrites", fn := fun _ => fun
  | [d1, d2, d3] => { results := [.lit (.bool false)], args := [d1, d2, d3] }
  | _ => none }
def CastWritesWrongFalsely : Prop := castWritesRow.holds Tryd.pinned (OpenSpec.ofChange castWritesWrong)

/-- 'flipbooklaw17.CastLines': WHATEVER THE INPUT: true; the input reads as it did. -/
def castLinesSpec : ChangeSpec := { name := "castLines", fn := fun _ => fun
  | [d] => { results := [.lit (.bool true)], args := [d] }
  | _ => none }
def castLinesRow : OpenClaim := { program := "ytohlebkhlbcnaaadoor", sum := "88a463d8464895e8f132cae281b9a79031c6e347ae4a6626d66b0cef3589052c", func := "flipbook/flipbooklaw17.CastLines", spec := "castLines", inPlace := ["internal/abi.NoEscape"], named := ["internal/strconv.uint64pow10", "math/bits.deBruijn32tab", "math/bits.deBruijn64tab"], apart := false, laid := [("math/bits.deBruijn32tab", laid_math_bits_deBruijn32tab), ("math/bits.deBruijn64tab", laid_math_bits_deBruijn64tab), ("internal/strconv.uint64pow10", laid_internal_strconv_uint64pow10)] }
def CastLinesSaid : Prop := castLinesRow.holds Tryd.pinned (OpenSpec.ofChange castLinesSpec)

/-- ITS FALSE NEIGHBOUR: 'it returns false'. Refute it at one input. -/
def castLinesWrong : ChangeSpec := { name := "castLines", fn := fun _ => fun
  | [d] => { results := [.lit (.bool false)], args := [d] }
  | _ => none }
def CastLinesWrongFalsely : Prop := castLinesRow.holds Tryd.pinned (OpenSpec.ofChange castLinesWrong)

/-- 'flipbooklaw03.JsonTexts': WHATEVER THE INPUT: true; the input reads as it did. -/
def jsonTextsSpec : ChangeSpec := { name := "jsonTexts", fn := fun _ => fun
  | [d1, d2] => { results := [.lit (.bool true)], args := [d1, d2] }
  | _ => none }
def jsonTextsRow : OpenClaim := { program := "ytohlebkhlbcnaaadoor", sum := "88a463d8464895e8f132cae281b9a79031c6e347ae4a6626d66b0cef3589052c", func := "flipbook/flipbooklaw03.JsonTexts", spec := "jsonTexts", named := ["internal/strconv.uint64pow10", "math/bits.deBruijn32tab", "math/bits.deBruijn64tab", "unicode/utf8.first", "unicode/utf8.acceptRanges"], apart := false, laid := [("math/bits.deBruijn32tab", laid_math_bits_deBruijn32tab), ("math/bits.deBruijn64tab", laid_math_bits_deBruijn64tab), ("internal/strconv.uint64pow10", laid_internal_strconv_uint64pow10), ("unicode/utf8.acceptRanges", laid_unicode_utf8_acceptRanges), ("unicode/utf8.first", laid_unicode_utf8_first)] }
def JsonTextsSaid : Prop := jsonTextsRow.holds Tryd.pinned (OpenSpec.ofChange jsonTextsSpec)

/-- ITS FALSE NEIGHBOUR: 'it returns false'. Refute it at one input. -/
def jsonTextsWrong : ChangeSpec := { name := "jsonTexts", fn := fun _ => fun
  | [d1, d2] => { results := [.lit (.bool false)], args := [d1, d2] }
  | _ => none }
def JsonTextsWrongFalsely : Prop := jsonTextsRow.holds Tryd.pinned (OpenSpec.ofChange jsonTextsWrong)

/-- 'flipbooklaw03.JsonAny': WHATEVER THE INPUT: true; the input reads as it did. -/
def jsonAnySpec : ChangeSpec := { name := "jsonAny", fn := fun _ => fun
  | [d] => { results := [.lit (.bool true)], args := [d] }
  | _ => none }
def jsonAnyRow : OpenClaim := { program := "ytohlebkhlbcnaaadoor", sum := "88a463d8464895e8f132cae281b9a79031c6e347ae4a6626d66b0cef3589052c", func := "flipbook/flipbooklaw03.JsonAny", spec := "jsonAny", named := ["internal/strconv.uint64pow10", "math/bits.deBruijn32tab", "math/bits.deBruijn64tab", "unicode/utf8.first", "unicode/utf8.acceptRanges"], apart := false, laid := [("math/bits.deBruijn32tab", laid_math_bits_deBruijn32tab), ("math/bits.deBruijn64tab", laid_math_bits_deBruijn64tab), ("internal/strconv.uint64pow10", laid_internal_strconv_uint64pow10), ("unicode/utf8.acceptRanges", laid_unicode_utf8_acceptRanges), ("unicode/utf8.first", laid_unicode_utf8_first)] }
def JsonAnySaid : Prop := jsonAnyRow.holds Tryd.pinned (OpenSpec.ofChange jsonAnySpec)

/-- ITS FALSE NEIGHBOUR: 'it returns false'. Refute it at one input. -/
def jsonAnyWrong : ChangeSpec := { name := "jsonAny", fn := fun _ => fun
  | [d] => { results := [.lit (.bool false)], args := [d] }
  | _ => none }
def JsonAnyWrongFalsely : Prop := jsonAnyRow.holds Tryd.pinned (OpenSpec.ofChange jsonAnyWrong)

/-- 'flipbooklaw03.JsonNumbers': WHATEVER THE INPUT: true; the input reads as it did. -/
def jsonNumbersSpec : ChangeSpec := { name := "jsonNumbers", fn := fun _ => fun
  | [d] => { results := [.lit (.bool true)], args := [d] }
  | _ => none }
def jsonNumbersRow : OpenClaim := { program := "ytohlebkhlbcnaaadoor", sum := "88a463d8464895e8f132cae281b9a79031c6e347ae4a6626d66b0cef3589052c", func := "flipbook/flipbooklaw03.JsonNumbers", spec := "jsonNumbers", named := ["internal/strconv.uint64pow10", "math/bits.deBruijn32tab", "math/bits.deBruijn64tab", "strconv.ErrSyntax", "strconv.ErrRange"], apart := false, laid := [("math/bits.deBruijn32tab", laid_math_bits_deBruijn32tab), ("math/bits.deBruijn64tab", laid_math_bits_deBruijn64tab), ("internal/strconv.uint64pow10", laid_internal_strconv_uint64pow10), ("strconv.ErrRange", laid_strconv_ErrRange), ("strconv.ErrSyntax", laid_strconv_ErrSyntax)] }
def JsonNumbersSaid : Prop := jsonNumbersRow.holds Tryd.pinned (OpenSpec.ofChange jsonNumbersSpec)

/-- ITS FALSE NEIGHBOUR: 'it returns false'. Refute it at one input. -/
def jsonNumbersWrong : ChangeSpec := { name := "jsonNumbers", fn := fun _ => fun
  | [d] => { results := [.lit (.bool false)], args := [d] }
  | _ => none }
def JsonNumbersWrongFalsely : Prop := jsonNumbersRow.holds Tryd.pinned (OpenSpec.ofChange jsonNumbersWrong)

/-- 'flipbooklaw03.JsonTimes': WHATEVER THE INPUT: true; the input reads as it did. -/
def jsonTimesSpec : ChangeSpec := { name := "jsonTimes", fn := fun _ => fun
  | [d1, d2] => { results := [.lit (.bool true)], args := [d1, d2] }
  | _ => none }
def jsonTimesRow : OpenClaim := { program := "ytohlebkhlbcnaaadoor", sum := "88a463d8464895e8f132cae281b9a79031c6e347ae4a6626d66b0cef3589052c", func := "flipbook/flipbooklaw03.JsonTimes", spec := "jsonTimes", named := ["internal/strconv.uint64pow10", "math/bits.deBruijn32tab", "math/bits.deBruijn64tab", "strconv.ErrSyntax", "strconv.ErrRange"], apart := false, laid := [("math/bits.deBruijn32tab", laid_math_bits_deBruijn32tab), ("math/bits.deBruijn64tab", laid_math_bits_deBruijn64tab), ("internal/strconv.uint64pow10", laid_internal_strconv_uint64pow10), ("strconv.ErrRange", laid_strconv_ErrRange), ("strconv.ErrSyntax", laid_strconv_ErrSyntax)] }
def JsonTimesSaid : Prop := jsonTimesRow.holds Tryd.pinned (OpenSpec.ofChange jsonTimesSpec)

/-- ITS FALSE NEIGHBOUR: 'it returns false'. Refute it at one input. -/
def jsonTimesWrong : ChangeSpec := { name := "jsonTimes", fn := fun _ => fun
  | [d1, d2] => { results := [.lit (.bool false)], args := [d1, d2] }
  | _ => none }
def JsonTimesWrongFalsely : Prop := jsonTimesRow.holds Tryd.pinned (OpenSpec.ofChange jsonTimesWrong)

/-- 'flipbooklaw03.JsonUntimes': WHATEVER THE INPUT: true; the input reads as it did. -/
def jsonUntimesSpec : ChangeSpec := { name := "jsonUntimes", fn := fun _ => fun
  | [d] => { results := [.lit (.bool true)], args := [d] }
  | _ => none }
def jsonUntimesRow : OpenClaim := { program := "ytohlebkhlbcnaaadoor", sum := "88a463d8464895e8f132cae281b9a79031c6e347ae4a6626d66b0cef3589052c", func := "flipbook/flipbooklaw03.JsonUntimes", spec := "jsonUntimes", named := ["internal/strconv.uint64pow10", "math/bits.deBruijn32tab", "math/bits.deBruijn64tab", "strconv.ErrSyntax", "strconv.ErrRange"], apart := false, laid := [("math/bits.deBruijn32tab", laid_math_bits_deBruijn32tab), ("math/bits.deBruijn64tab", laid_math_bits_deBruijn64tab), ("internal/strconv.uint64pow10", laid_internal_strconv_uint64pow10), ("strconv.ErrRange", laid_strconv_ErrRange), ("strconv.ErrSyntax", laid_strconv_ErrSyntax)] }
def JsonUntimesSaid : Prop := jsonUntimesRow.holds Tryd.pinned (OpenSpec.ofChange jsonUntimesSpec)

/-- ITS FALSE NEIGHBOUR: 'it returns false'. Refute it at one input. -/
def jsonUntimesWrong : ChangeSpec := { name := "jsonUntimes", fn := fun _ => fun
  | [d] => { results := [.lit (.bool false)], args := [d] }
  | _ => none }
def JsonUntimesWrongFalsely : Prop := jsonUntimesRow.holds Tryd.pinned (OpenSpec.ofChange jsonUntimesWrong)

/-- 'flipbooklaw17.CastBack': WHATEVER THE INPUT: true; the input reads as it did. -/
def castBackSpec : ChangeSpec := { name := "castBack", fn := fun _ => fun
  | [d1, d2, d3] => { results := [.lit (.bool true)], args := [d1, d2, d3] }
  | _ => none }
def castBackRow : OpenClaim := { program := "ytohlebkhlbcnaaadoor", sum := "88a463d8464895e8f132cae281b9a79031c6e347ae4a6626d66b0cef3589052c", func := "flipbook/flipbooklaw17.CastBack", spec := "castBack", inPlace := ["internal/abi.NoEscape"], named := ["internal/strconv.uint64pow10", "math/bits.deBruijn32tab", "math/bits.deBruijn64tab", "strconv.ErrSyntax", "strconv.ErrRange", "unicode/utf8.first", "unicode/utf8.acceptRanges"], apart := false, laid := [("math/bits.deBruijn32tab", laid_math_bits_deBruijn32tab), ("math/bits.deBruijn64tab", laid_math_bits_deBruijn64tab), ("internal/strconv.uint64pow10", laid_internal_strconv_uint64pow10), ("unicode/utf8.acceptRanges", laid_unicode_utf8_acceptRanges), ("strconv.ErrRange", laid_strconv_ErrRange), ("strconv.ErrSyntax", laid_strconv_ErrSyntax), ("unicode/utf8.first", laid_unicode_utf8_first)] }
def CastBackSaid : Prop := castBackRow.holds Tryd.pinned (OpenSpec.ofChange castBackSpec)

/-- ITS FALSE NEIGHBOUR: 'it returns false'. Refute it at one input. -/
def castBackWrong : ChangeSpec := { name := "castBack", fn := fun _ => fun
  | [d1, d2, d3] => { results := [.lit (.bool false)], args := [d1, d2, d3] }
  | _ => none }
def CastBackWrongFalsely : Prop := castBackRow.holds Tryd.pinned (OpenSpec.ofChange castBackWrong)

/-- 'flipbooklaw17.CastAny': WHATEVER THE INPUT: true; the input reads as it did. -/
def castAnySpec : ChangeSpec := { name := "castAny", fn := fun _ => fun
  | [d] => { results := [.lit (.bool true)], args := [d] }
  | _ => none }
def castAnyRow : OpenClaim := { program := "ytohlebkhlbcnaaadoor", sum := "88a463d8464895e8f132cae281b9a79031c6e347ae4a6626d66b0cef3589052c", func := "flipbook/flipbooklaw17.CastAny", spec := "castAny", inPlace := ["internal/abi.NoEscape"], named := ["internal/strconv.uint64pow10", "math/bits.deBruijn32tab", "math/bits.deBruijn64tab", "strconv.ErrSyntax", "strconv.ErrRange", "unicode/utf8.first", "unicode/utf8.acceptRanges"], apart := false, laid := [("math/bits.deBruijn32tab", laid_math_bits_deBruijn32tab), ("math/bits.deBruijn64tab", laid_math_bits_deBruijn64tab), ("internal/strconv.uint64pow10", laid_internal_strconv_uint64pow10), ("unicode/utf8.acceptRanges", laid_unicode_utf8_acceptRanges), ("strconv.ErrRange", laid_strconv_ErrRange), ("strconv.ErrSyntax", laid_strconv_ErrSyntax), ("unicode/utf8.first", laid_unicode_utf8_first)] }
def CastAnySaid : Prop := castAnyRow.holds Tryd.pinned (OpenSpec.ofChange castAnySpec)

/-- ITS FALSE NEIGHBOUR: 'it returns false'. Refute it at one input. -/
def castAnyWrong : ChangeSpec := { name := "castAny", fn := fun _ => fun
  | [d] => { results := [.lit (.bool false)], args := [d] }
  | _ => none }
def CastAnyWrongFalsely : Prop := castAnyRow.holds Tryd.pinned (OpenSpec.ofChange castAnyWrong)

/-- 'flipbooklaw17.CastSpoils': WHATEVER THE INPUT: true; the input reads as it did. -/
def castSpoilsSpec : ChangeSpec := { name := "castSpoils", fn := fun _ => fun
  | [d1, d2, d3] => { results := [.lit (.bool true)], args := [d1, d2, d3] }
  | _ => none }
def castSpoilsRow : OpenClaim := { program := "ytohlebkhlbcnaaadoor", sum := "88a463d8464895e8f132cae281b9a79031c6e347ae4a6626d66b0cef3589052c", func := "flipbook/flipbooklaw17.CastSpoils", spec := "castSpoils", inPlace := ["internal/abi.NoEscape"], named := ["internal/strconv.uint64pow10", "math/bits.deBruijn32tab", "math/bits.deBruijn64tab", "strconv.ErrSyntax", "strconv.ErrRange", "unicode/utf8.first", "unicode/utf8.acceptRanges"], apart := false, laid := [("math/bits.deBruijn32tab", laid_math_bits_deBruijn32tab), ("math/bits.deBruijn64tab", laid_math_bits_deBruijn64tab), ("internal/strconv.uint64pow10", laid_internal_strconv_uint64pow10), ("unicode/utf8.acceptRanges", laid_unicode_utf8_acceptRanges), ("strconv.ErrRange", laid_strconv_ErrRange), ("strconv.ErrSyntax", laid_strconv_ErrSyntax), ("unicode/utf8.first", laid_unicode_utf8_first)] }
def CastSpoilsSaid : Prop := castSpoilsRow.holds Tryd.pinned (OpenSpec.ofChange castSpoilsSpec)

/-- ITS FALSE NEIGHBOUR: 'it returns false'. Refute it at one input. -/
def castSpoilsWrong : ChangeSpec := { name := "castSpoils", fn := fun _ => fun
  | [d1, d2, d3] => { results := [.lit (.bool false)], args := [d1, d2, d3] }
  | _ => none }
def CastSpoilsWrongFalsely : Prop := castSpoilsRow.holds Tryd.pinned (OpenSpec.ofChange castSpoilsWrong)

/- THE SECOND FORM. 'bulk': how many values and letters a reading holds, each counted each time it is reached (what is shared counts as often as it is met; a slice's spare places count too). A statement '..UptoSaid' is the law's where the arguments, and the package variables that the reading takes, are together of bulk at most 1048576: NARROWER than '..Said'. Prove '..Said' where nothing that the law and all that it calls make is longer than what came in: it says more and counts as full. Else prove '..UptoSaid'. A law counts once. -/
mutual
def uptoBulk {H : Type} : DataW H → Nat
  | .lit (.string bytes) => bytes.length + 1
  | .lit _ => 1
  | .nil => 1
  | .ptr d => uptoBulk d + 1
  | .slice elems spare => uptoBulkAll elems + uptoBulkAll spare + 1
  | .agg parts => uptoBulkAll parts + 1
  | .iface _ d => uptoBulk d + 1
  | .map entries => uptoBulkEntries entries + 1
  | .held _ => 1
def uptoBulkAll {H : Type} : List (DataW H) → Nat
  | [] => 0
  | d :: r => uptoBulk d + uptoBulkAll r
def uptoBulkEntries {H : Type} : List (Lit × DataW H) → Nat
  | [] => 0
  | x :: r => uptoBulkEntry x + uptoBulkEntries r
def uptoBulkEntry {H : Type} : Lit × DataW H → Nat
  | (.string bytes, d) => bytes.length + uptoBulk d + 1
  | (_, d) => uptoBulk d + 1
 end
def uptoSmall : (H : Type) → List (DataW H) → Bool := fun _ ds => decide (uptoBulkAll ds ≤ 1048576)
def OpenSpec.upto (s : _root_.Go.ChangeSpec) : _root_.Go.OpenSpec := { _root_.Go.OpenSpec.ofChange s with cond := some uptoSmall }

/-- 'flipbooklaw03.JsonSigns', WHERE WHAT IT READS IS OF BULK AT MOST 1048576: true; the input reads as it did. -/
def jsonSignsUptoRow : OpenClaim := { program := "ytohlebkhlbcnaaadoor", sum := "88a463d8464895e8f132cae281b9a79031c6e347ae4a6626d66b0cef3589052c", func := "flipbook/flipbooklaw03.JsonSigns", spec := "jsonSigns", named := ["internal/strconv.uint64pow10", "math/bits.deBruijn32tab", "math/bits.deBruijn64tab"], apart := false, laid := [("math/bits.deBruijn32tab", laid_math_bits_deBruijn32tab), ("math/bits.deBruijn64tab", laid_math_bits_deBruijn64tab), ("internal/strconv.uint64pow10", laid_internal_strconv_uint64pow10)], narrowed := true }
def JsonSignsUptoSaid : Prop := jsonSignsUptoRow.holds Tryd.pinned (OpenSpec.upto jsonSignsSpec)

/-- 'flipbooklaw17.CastWrites', WHERE WHAT IT READS IS OF BULK AT MOST 1048576: true; the input reads as it did. -/
def castWritesUptoRow : OpenClaim := { program := "ytohlebkhlbcnaaadoor", sum := "88a463d8464895e8f132cae281b9a79031c6e347ae4a6626d66b0cef3589052c", func := "flipbook/flipbooklaw17.CastWrites", spec := "castWrites", inPlace := ["internal/abi.NoEscape"], named := ["internal/strconv.uint64pow10", "math/bits.deBruijn32tab", "math/bits.deBruijn64tab"], apart := false, laid := [("math/bits.deBruijn32tab", laid_math_bits_deBruijn32tab), ("math/bits.deBruijn64tab", laid_math_bits_deBruijn64tab), ("internal/strconv.uint64pow10", laid_internal_strconv_uint64pow10)], narrowed := true }
def CastWritesUptoSaid : Prop := castWritesUptoRow.holds Tryd.pinned (OpenSpec.upto castWritesSpec)

/-- 'flipbooklaw17.CastLines', WHERE WHAT IT READS IS OF BULK AT MOST 1048576: true; the input reads as it did. -/
def castLinesUptoRow : OpenClaim := { program := "ytohlebkhlbcnaaadoor", sum := "88a463d8464895e8f132cae281b9a79031c6e347ae4a6626d66b0cef3589052c", func := "flipbook/flipbooklaw17.CastLines", spec := "castLines", inPlace := ["internal/abi.NoEscape"], named := ["internal/strconv.uint64pow10", "math/bits.deBruijn32tab", "math/bits.deBruijn64tab"], apart := false, laid := [("math/bits.deBruijn32tab", laid_math_bits_deBruijn32tab), ("math/bits.deBruijn64tab", laid_math_bits_deBruijn64tab), ("internal/strconv.uint64pow10", laid_internal_strconv_uint64pow10)], narrowed := true }
def CastLinesUptoSaid : Prop := castLinesUptoRow.holds Tryd.pinned (OpenSpec.upto castLinesSpec)

/-- 'flipbooklaw03.JsonTexts', WHERE WHAT IT READS IS OF BULK AT MOST 1048576: true; the input reads as it did. -/
def jsonTextsUptoRow : OpenClaim := { program := "ytohlebkhlbcnaaadoor", sum := "88a463d8464895e8f132cae281b9a79031c6e347ae4a6626d66b0cef3589052c", func := "flipbook/flipbooklaw03.JsonTexts", spec := "jsonTexts", named := ["internal/strconv.uint64pow10", "math/bits.deBruijn32tab", "math/bits.deBruijn64tab", "unicode/utf8.first", "unicode/utf8.acceptRanges"], apart := false, laid := [("math/bits.deBruijn32tab", laid_math_bits_deBruijn32tab), ("math/bits.deBruijn64tab", laid_math_bits_deBruijn64tab), ("internal/strconv.uint64pow10", laid_internal_strconv_uint64pow10), ("unicode/utf8.acceptRanges", laid_unicode_utf8_acceptRanges), ("unicode/utf8.first", laid_unicode_utf8_first)], narrowed := true }
def JsonTextsUptoSaid : Prop := jsonTextsUptoRow.holds Tryd.pinned (OpenSpec.upto jsonTextsSpec)

/-- 'flipbooklaw03.JsonAny', WHERE WHAT IT READS IS OF BULK AT MOST 1048576: true; the input reads as it did. -/
def jsonAnyUptoRow : OpenClaim := { program := "ytohlebkhlbcnaaadoor", sum := "88a463d8464895e8f132cae281b9a79031c6e347ae4a6626d66b0cef3589052c", func := "flipbook/flipbooklaw03.JsonAny", spec := "jsonAny", named := ["internal/strconv.uint64pow10", "math/bits.deBruijn32tab", "math/bits.deBruijn64tab", "unicode/utf8.first", "unicode/utf8.acceptRanges"], apart := false, laid := [("math/bits.deBruijn32tab", laid_math_bits_deBruijn32tab), ("math/bits.deBruijn64tab", laid_math_bits_deBruijn64tab), ("internal/strconv.uint64pow10", laid_internal_strconv_uint64pow10), ("unicode/utf8.acceptRanges", laid_unicode_utf8_acceptRanges), ("unicode/utf8.first", laid_unicode_utf8_first)], narrowed := true }
def JsonAnyUptoSaid : Prop := jsonAnyUptoRow.holds Tryd.pinned (OpenSpec.upto jsonAnySpec)

/-- 'flipbooklaw03.JsonNumbers', WHERE WHAT IT READS IS OF BULK AT MOST 1048576: true; the input reads as it did. -/
def jsonNumbersUptoRow : OpenClaim := { program := "ytohlebkhlbcnaaadoor", sum := "88a463d8464895e8f132cae281b9a79031c6e347ae4a6626d66b0cef3589052c", func := "flipbook/flipbooklaw03.JsonNumbers", spec := "jsonNumbers", named := ["internal/strconv.uint64pow10", "math/bits.deBruijn32tab", "math/bits.deBruijn64tab", "strconv.ErrSyntax", "strconv.ErrRange"], apart := false, laid := [("math/bits.deBruijn32tab", laid_math_bits_deBruijn32tab), ("math/bits.deBruijn64tab", laid_math_bits_deBruijn64tab), ("internal/strconv.uint64pow10", laid_internal_strconv_uint64pow10), ("strconv.ErrRange", laid_strconv_ErrRange), ("strconv.ErrSyntax", laid_strconv_ErrSyntax)], narrowed := true }
def JsonNumbersUptoSaid : Prop := jsonNumbersUptoRow.holds Tryd.pinned (OpenSpec.upto jsonNumbersSpec)

/-- 'flipbooklaw03.JsonTimes', WHERE WHAT IT READS IS OF BULK AT MOST 1048576: true; the input reads as it did. -/
def jsonTimesUptoRow : OpenClaim := { program := "ytohlebkhlbcnaaadoor", sum := "88a463d8464895e8f132cae281b9a79031c6e347ae4a6626d66b0cef3589052c", func := "flipbook/flipbooklaw03.JsonTimes", spec := "jsonTimes", named := ["internal/strconv.uint64pow10", "math/bits.deBruijn32tab", "math/bits.deBruijn64tab", "strconv.ErrSyntax", "strconv.ErrRange"], apart := false, laid := [("math/bits.deBruijn32tab", laid_math_bits_deBruijn32tab), ("math/bits.deBruijn64tab", laid_math_bits_deBruijn64tab), ("internal/strconv.uint64pow10", laid_internal_strconv_uint64pow10), ("strconv.ErrRange", laid_strconv_ErrRange), ("strconv.ErrSyntax", laid_strconv_ErrSyntax)], narrowed := true }
def JsonTimesUptoSaid : Prop := jsonTimesUptoRow.holds Tryd.pinned (OpenSpec.upto jsonTimesSpec)

/-- 'flipbooklaw03.JsonUntimes', WHERE WHAT IT READS IS OF BULK AT MOST 1048576: true; the input reads as it did. -/
def jsonUntimesUptoRow : OpenClaim := { program := "ytohlebkhlbcnaaadoor", sum := "88a463d8464895e8f132cae281b9a79031c6e347ae4a6626d66b0cef3589052c", func := "flipbook/flipbooklaw03.JsonUntimes", spec := "jsonUntimes", named := ["internal/strconv.uint64pow10", "math/bits.deBruijn32tab", "math/bits.deBruijn64tab", "strconv.ErrSyntax", "strconv.ErrRange"], apart := false, laid := [("math/bits.deBruijn32tab", laid_math_bits_deBruijn32tab), ("math/bits.deBruijn64tab", laid_math_bits_deBruijn64tab), ("internal/strconv.uint64pow10", laid_internal_strconv_uint64pow10), ("strconv.ErrRange", laid_strconv_ErrRange), ("strconv.ErrSyntax", laid_strconv_ErrSyntax)], narrowed := true }
def JsonUntimesUptoSaid : Prop := jsonUntimesUptoRow.holds Tryd.pinned (OpenSpec.upto jsonUntimesSpec)

/-- 'flipbooklaw17.CastBack', WHERE WHAT IT READS IS OF BULK AT MOST 1048576: true; the input reads as it did. -/
def castBackUptoRow : OpenClaim := { program := "ytohlebkhlbcnaaadoor", sum := "88a463d8464895e8f132cae281b9a79031c6e347ae4a6626d66b0cef3589052c", func := "flipbook/flipbooklaw17.CastBack", spec := "castBack", inPlace := ["internal/abi.NoEscape"], named := ["internal/strconv.uint64pow10", "math/bits.deBruijn32tab", "math/bits.deBruijn64tab", "strconv.ErrSyntax", "strconv.ErrRange", "unicode/utf8.first", "unicode/utf8.acceptRanges"], apart := false, laid := [("math/bits.deBruijn32tab", laid_math_bits_deBruijn32tab), ("math/bits.deBruijn64tab", laid_math_bits_deBruijn64tab), ("internal/strconv.uint64pow10", laid_internal_strconv_uint64pow10), ("unicode/utf8.acceptRanges", laid_unicode_utf8_acceptRanges), ("strconv.ErrRange", laid_strconv_ErrRange), ("strconv.ErrSyntax", laid_strconv_ErrSyntax), ("unicode/utf8.first", laid_unicode_utf8_first)], narrowed := true }
def CastBackUptoSaid : Prop := castBackUptoRow.holds Tryd.pinned (OpenSpec.upto castBackSpec)

/-- 'flipbooklaw17.CastAny', WHERE WHAT IT READS IS OF BULK AT MOST 1048576: true; the input reads as it did. -/
def castAnyUptoRow : OpenClaim := { program := "ytohlebkhlbcnaaadoor", sum := "88a463d8464895e8f132cae281b9a79031c6e347ae4a6626d66b0cef3589052c", func := "flipbook/flipbooklaw17.CastAny", spec := "castAny", inPlace := ["internal/abi.NoEscape"], named := ["internal/strconv.uint64pow10", "math/bits.deBruijn32tab", "math/bits.deBruijn64tab", "strconv.ErrSyntax", "strconv.ErrRange", "unicode/utf8.first", "unicode/utf8.acceptRanges"], apart := false, laid := [("math/bits.deBruijn32tab", laid_math_bits_deBruijn32tab), ("math/bits.deBruijn64tab", laid_math_bits_deBruijn64tab), ("internal/strconv.uint64pow10", laid_internal_strconv_uint64pow10), ("unicode/utf8.acceptRanges", laid_unicode_utf8_acceptRanges), ("strconv.ErrRange", laid_strconv_ErrRange), ("strconv.ErrSyntax", laid_strconv_ErrSyntax), ("unicode/utf8.first", laid_unicode_utf8_first)], narrowed := true }
def CastAnyUptoSaid : Prop := castAnyUptoRow.holds Tryd.pinned (OpenSpec.upto castAnySpec)

/-- 'flipbooklaw17.CastSpoils', WHERE WHAT IT READS IS OF BULK AT MOST 1048576: true; the input reads as it did. -/
def castSpoilsUptoRow : OpenClaim := { program := "ytohlebkhlbcnaaadoor", sum := "88a463d8464895e8f132cae281b9a79031c6e347ae4a6626d66b0cef3589052c", func := "flipbook/flipbooklaw17.CastSpoils", spec := "castSpoils", inPlace := ["internal/abi.NoEscape"], named := ["internal/strconv.uint64pow10", "math/bits.deBruijn32tab", "math/bits.deBruijn64tab", "strconv.ErrSyntax", "strconv.ErrRange", "unicode/utf8.first", "unicode/utf8.acceptRanges"], apart := false, laid := [("math/bits.deBruijn32tab", laid_math_bits_deBruijn32tab), ("math/bits.deBruijn64tab", laid_math_bits_deBruijn64tab), ("internal/strconv.uint64pow10", laid_internal_strconv_uint64pow10), ("unicode/utf8.acceptRanges", laid_unicode_utf8_acceptRanges), ("strconv.ErrRange", laid_strconv_ErrRange), ("strconv.ErrSyntax", laid_strconv_ErrSyntax), ("unicode/utf8.first", laid_unicode_utf8_first)], narrowed := true }
def CastSpoilsUptoSaid : Prop := castSpoilsUptoRow.holds Tryd.pinned (OpenSpec.upto castSpoilsSpec)

end Rows
end Go.Proofs.YtohlebkhlbcnaaaDoor
