/-
  NARROWER THAN 'FOR EVERY INPUT', by the rows' own cells (each row's printed sentence says how): ScriptBack: laid · ScriptAny: laid · TellScreens: laid · TellRecs: laid.
  DERIVED. THE GIVEN ROWS OF THIS SEAT. 4 by the template 'for every input the law returns true; each argument reads behind the call as it read before'; 0 by the template 'total and deterministic' (their statements: YtnoplfndpemmpaaGreatDoorTotals.lean).
  GIVEN WITH THE SEED: the statements are not yours to turn. If you find one false, say at which input.
  Laid BY PROGRAM, IN A SANDBOX (cutbox-rows.mjs): the forced cells as the released guide's own fill.sh prints them over the translation 0fb4c7a0e3480fe2… (all of the seat's roots in one cut). By AI agents, Wed Nov 11 2026. No macro, syntax, notation, axiom, sorry.
-/
import Derived.Test.YtnoplfndpemmpaaGreatDoorChecked
import GoSem.PinnedTables
import GoSem.Claim
import GoSem.ClaimJoined
import GoSem.ClaimMapViews
import Derived.JoinedTies
import Derived.KernelRfl
namespace Go.Proofs.YtnoplfndpemmpaaGreatDoor
/- THE CELL 'sum', in the pinned program and in every row, IS THE sha256 OF THE DUMP (.gsa) THAT YtnoplfndpemmpaaGreatDoorProg.lean LOADS. Nothing in Lean hashes anything: it is a label: what it is worth is what the hold of that sum in a sandbox is worth. -/
noncomputable def Tryz.pinned : Pinned := { name := "ytnoplfndpemmpaagreatdoor", sum := "0fb4c7a0e3480fe2266e9ce61d492eae4fa6b32953b7a458702287e98dc98008", checked := Tryz.checked }
namespace Rows
def none {H : Type} : Left H := { results := [], args := [] }

/- WHAT THE LISTED PACKAGE-LEVEL VARIABLES READ AS WHEN THE CALL BEGINS. Each datum BY PROGRAM (the guide's laid-datum.mjs) off the statement by which the dump's own 'gosem.cut.vars' lays the variable. In a bare row this is a premise. The card (YtnoplfndpemmpaaGreatDoorCards.lean) ties it to the program's text. -/
def laid_flipbook_glyph_wide {H : Type} : DataW H := .agg [.lit (.int .i32 4352), .lit (.int .i32 4447), .lit (.int .i32 11904), .lit (.int .i32 42191), .lit (.int .i32 44032), .lit (.int .i32 55203), .lit (.int .i32 63744), .lit (.int .i32 64255), .lit (.int .i32 65072), .lit (.int .i32 65135), .lit (.int .i32 65280), .lit (.int .i32 65376), .lit (.int .i32 65504), .lit (.int .i32 65510), .lit (.int .i32 127744), .lit (.int .i32 128591), .lit (.int .i32 131072), .lit (.int .i32 262141)]
def laid_flipbook_glyph_signs {H : Type} : DataW H := .agg [.lit (.int .i32 9670), .lit (.int .i32 9618), .lit (.int .i32 9225), .lit (.int .i32 9228), .lit (.int .i32 9229), .lit (.int .i32 9226), .lit (.int .i32 176), .lit (.int .i32 177), .lit (.int .i32 9252), .lit (.int .i32 9227), .lit (.int .i32 9496), .lit (.int .i32 9488), .lit (.int .i32 9484), .lit (.int .i32 9492), .lit (.int .i32 9532), .lit (.int .i32 9146), .lit (.int .i32 9147), .lit (.int .i32 9472), .lit (.int .i32 9148), .lit (.int .i32 9149), .lit (.int .i32 9500), .lit (.int .i32 9508), .lit (.int .i32 9524), .lit (.int .i32 9516), .lit (.int .i32 9474), .lit (.int .i32 8804), .lit (.int .i32 8805), .lit (.int .i32 960), .lit (.int .i32 8800), .lit (.int .i32 163), .lit (.int .i32 183)]
def laid_math_bits_deBruijn32tab {H : Type} : DataW H := .agg [.lit (.int .u8 0), .lit (.int .u8 1), .lit (.int .u8 28), .lit (.int .u8 2), .lit (.int .u8 29), .lit (.int .u8 14), .lit (.int .u8 24), .lit (.int .u8 3), .lit (.int .u8 30), .lit (.int .u8 22), .lit (.int .u8 20), .lit (.int .u8 15), .lit (.int .u8 25), .lit (.int .u8 17), .lit (.int .u8 4), .lit (.int .u8 8), .lit (.int .u8 31), .lit (.int .u8 27), .lit (.int .u8 13), .lit (.int .u8 23), .lit (.int .u8 21), .lit (.int .u8 19), .lit (.int .u8 16), .lit (.int .u8 7), .lit (.int .u8 26), .lit (.int .u8 12), .lit (.int .u8 18), .lit (.int .u8 6), .lit (.int .u8 11), .lit (.int .u8 5), .lit (.int .u8 10), .lit (.int .u8 9)]
def laid_math_bits_deBruijn64tab {H : Type} : DataW H := .agg [.lit (.int .u8 0), .lit (.int .u8 1), .lit (.int .u8 56), .lit (.int .u8 2), .lit (.int .u8 57), .lit (.int .u8 49), .lit (.int .u8 28), .lit (.int .u8 3), .lit (.int .u8 61), .lit (.int .u8 58), .lit (.int .u8 42), .lit (.int .u8 50), .lit (.int .u8 38), .lit (.int .u8 29), .lit (.int .u8 17), .lit (.int .u8 4), .lit (.int .u8 62), .lit (.int .u8 47), .lit (.int .u8 59), .lit (.int .u8 36), .lit (.int .u8 45), .lit (.int .u8 43), .lit (.int .u8 51), .lit (.int .u8 22), .lit (.int .u8 53), .lit (.int .u8 39), .lit (.int .u8 33), .lit (.int .u8 30), .lit (.int .u8 24), .lit (.int .u8 18), .lit (.int .u8 12), .lit (.int .u8 5), .lit (.int .u8 63), .lit (.int .u8 55), .lit (.int .u8 48), .lit (.int .u8 27), .lit (.int .u8 60), .lit (.int .u8 41), .lit (.int .u8 37), .lit (.int .u8 16), .lit (.int .u8 46), .lit (.int .u8 35), .lit (.int .u8 44), .lit (.int .u8 21), .lit (.int .u8 52), .lit (.int .u8 32), .lit (.int .u8 23), .lit (.int .u8 11), .lit (.int .u8 54), .lit (.int .u8 26), .lit (.int .u8 40), .lit (.int .u8 15), .lit (.int .u8 34), .lit (.int .u8 20), .lit (.int .u8 31), .lit (.int .u8 10), .lit (.int .u8 25), .lit (.int .u8 14), .lit (.int .u8 19), .lit (.int .u8 9), .lit (.int .u8 13), .lit (.int .u8 8), .lit (.int .u8 7), .lit (.int .u8 6)]
def laid_internal_strconv_uint64pow10 {H : Type} : DataW H := .agg [.lit (.int .u64 1), .lit (.int .u64 10), .lit (.int .u64 100), .lit (.int .u64 1000), .lit (.int .u64 10000), .lit (.int .u64 100000), .lit (.int .u64 1000000), .lit (.int .u64 10000000), .lit (.int .u64 100000000), .lit (.int .u64 1000000000), .lit (.int .u64 10000000000), .lit (.int .u64 100000000000), .lit (.int .u64 1000000000000), .lit (.int .u64 10000000000000), .lit (.int .u64 100000000000000), .lit (.int .u64 1000000000000000), .lit (.int .u64 10000000000000000), .lit (.int .u64 100000000000000000), .lit (.int .u64 1000000000000000000), .lit (.int .u64 10000000000000000000)]
def laid_unicode_utf8_acceptRanges {H : Type} : DataW H := .agg [.agg [.lit (.int .u8 128), .lit (.int .u8 191)], .agg [.lit (.int .u8 160), .lit (.int .u8 191)], .agg [.lit (.int .u8 128), .lit (.int .u8 159)], .agg [.lit (.int .u8 144), .lit (.int .u8 191)], .agg [.lit (.int .u8 128), .lit (.int .u8 143)], .agg [.lit (.int .u8 0), .lit (.int .u8 0)], .agg [.lit (.int .u8 0), .lit (.int .u8 0)], .agg [.lit (.int .u8 0), .lit (.int .u8 0)], .agg [.lit (.int .u8 0), .lit (.int .u8 0)], .agg [.lit (.int .u8 0), .lit (.int .u8 0)], .agg [.lit (.int .u8 0), .lit (.int .u8 0)], .agg [.lit (.int .u8 0), .lit (.int .u8 0)], .agg [.lit (.int .u8 0), .lit (.int .u8 0)], .agg [.lit (.int .u8 0), .lit (.int .u8 0)], .agg [.lit (.int .u8 0), .lit (.int .u8 0)], .agg [.lit (.int .u8 0), .lit (.int .u8 0)]]
def laid_strconv_ErrRange {H : Type} : DataW H := .iface "*errors.errorString" (.ptr (.agg [.lit (.string [118, 97, 108, 117, 101, 32, 111, 117, 116, 32, 111, 102, 32, 114, 97, 110, 103, 101])]))
def laid_strconv_ErrSyntax {H : Type} : DataW H := .iface "*errors.errorString" (.ptr (.agg [.lit (.string [105, 110, 118, 97, 108, 105, 100, 32, 115, 121, 110, 116, 97, 120])]))
def laid_flipbook_command_words {H : Type} : DataW H := .agg [.lit (.string [115, 112, 108, 105, 116]), .lit (.string [102, 108, 97, 116]), .lit (.string [107, 105, 108, 108]), .lit (.string [102, 111, 99, 117, 115]), .lit (.string [109, 97, 114, 107]), .lit (.string [114, 101, 119, 105, 110, 100]), .lit (.string [102, 105, 110, 100]), .lit (.string [112, 108, 97, 121]), .lit (.string [112, 97, 117, 115, 101]), .lit (.string [115, 116, 101, 112]), .lit (.string [108, 105, 118, 101]), .lit (.string [115, 121, 110, 99]), .lit (.string [102, 105, 110, 105, 115, 104]), .lit (.string [116, 114, 105, 109]), .lit (.string [106, 111, 105, 110]), .lit (.string [101, 120, 112, 111, 114, 116]), .lit (.string [98, 105, 110, 100]), .lit (.string [117, 110, 98, 105, 110, 100])]
/-- One of Go's own tables, pinned by name: the form's constant. -/
def laid_unicode_utf8_first : DataW Unit := Go.Pinned.utf8First

/-- 'flipbooklaw25.ScriptBack': WHATEVER THE INPUT: true; the input reads as it did. -/
def scriptBackSpec : ChangeSpec := { name := "scriptBack", fn := fun _ => fun
  | [d1, d2] => { results := [.lit (.bool true)], args := [d1, d2] }
  | _ => none }
def scriptBackRow : OpenClaim := { program := "ytnoplfndpemmpaagreatdoor", sum := "0fb4c7a0e3480fe2266e9ce61d492eae4fa6b32953b7a458702287e98dc98008", func := "flipbook/flipbooklaw25.ScriptBack", spec := "scriptBack", inPlace := ["internal/bytealg.IndexByteString", "internal/bytealg.IndexString", "internal/abi.NoEscape"], unfollowed := true, recurses := true, named := ["internal/strconv.uint64pow10", "math/bits.deBruijn32tab", "math/bits.deBruijn64tab", "flipbook/glyph.wide", "unicode/utf8.first", "unicode/utf8.acceptRanges", "flipbook/glyph.signs", "flipbook/command.words", "internal/bytealg.MaxLen", "strconv.ErrSyntax", "strconv.ErrRange", "math/bits.divideError", "math/bits.overflowError"], apart := false, laid := [("flipbook/glyph.wide", laid_flipbook_glyph_wide), ("flipbook/glyph.signs", laid_flipbook_glyph_signs), ("math/bits.deBruijn32tab", laid_math_bits_deBruijn32tab), ("math/bits.deBruijn64tab", laid_math_bits_deBruijn64tab), ("internal/strconv.uint64pow10", laid_internal_strconv_uint64pow10), ("unicode/utf8.acceptRanges", laid_unicode_utf8_acceptRanges), ("strconv.ErrRange", laid_strconv_ErrRange), ("strconv.ErrSyntax", laid_strconv_ErrSyntax), ("flipbook/command.words", laid_flipbook_command_words), ("unicode/utf8.first", laid_unicode_utf8_first)] }
def ScriptBackSaid : Prop := scriptBackRow.holds Tryz.pinned (OpenSpec.ofChange scriptBackSpec)

/-- ITS FALSE NEIGHBOUR: 'it returns false'. Refute it at one input. -/
def scriptBackWrong : ChangeSpec := { name := "scriptBack", fn := fun _ => fun
  | [d1, d2] => { results := [.lit (.bool false)], args := [d1, d2] }
  | _ => none }
def ScriptBackWrongFalsely : Prop := scriptBackRow.holds Tryz.pinned (OpenSpec.ofChange scriptBackWrong)

/-- 'flipbooklaw25.ScriptAny': WHATEVER THE INPUT: true; the input reads as it did. -/
def scriptAnySpec : ChangeSpec := { name := "scriptAny", fn := fun _ => fun
  | [d] => { results := [.lit (.bool true)], args := [d] }
  | _ => none }
def scriptAnyRow : OpenClaim := { program := "ytnoplfndpemmpaagreatdoor", sum := "0fb4c7a0e3480fe2266e9ce61d492eae4fa6b32953b7a458702287e98dc98008", func := "flipbook/flipbooklaw25.ScriptAny", spec := "scriptAny", inPlace := ["internal/bytealg.IndexByteString", "internal/bytealg.IndexString", "internal/abi.NoEscape"], unfollowed := true, recurses := true, named := ["internal/strconv.uint64pow10", "math/bits.deBruijn32tab", "math/bits.deBruijn64tab", "flipbook/glyph.wide", "unicode/utf8.first", "unicode/utf8.acceptRanges", "flipbook/glyph.signs", "flipbook/command.words", "internal/bytealg.MaxLen", "strconv.ErrSyntax", "strconv.ErrRange", "math/bits.divideError", "math/bits.overflowError"], apart := false, laid := [("flipbook/glyph.wide", laid_flipbook_glyph_wide), ("flipbook/glyph.signs", laid_flipbook_glyph_signs), ("math/bits.deBruijn32tab", laid_math_bits_deBruijn32tab), ("math/bits.deBruijn64tab", laid_math_bits_deBruijn64tab), ("internal/strconv.uint64pow10", laid_internal_strconv_uint64pow10), ("unicode/utf8.acceptRanges", laid_unicode_utf8_acceptRanges), ("strconv.ErrRange", laid_strconv_ErrRange), ("strconv.ErrSyntax", laid_strconv_ErrSyntax), ("flipbook/command.words", laid_flipbook_command_words), ("unicode/utf8.first", laid_unicode_utf8_first)] }
def ScriptAnySaid : Prop := scriptAnyRow.holds Tryz.pinned (OpenSpec.ofChange scriptAnySpec)

/-- ITS FALSE NEIGHBOUR: 'it returns false'. Refute it at one input. -/
def scriptAnyWrong : ChangeSpec := { name := "scriptAny", fn := fun _ => fun
  | [d] => { results := [.lit (.bool false)], args := [d] }
  | _ => none }
def ScriptAnyWrongFalsely : Prop := scriptAnyRow.holds Tryz.pinned (OpenSpec.ofChange scriptAnyWrong)

/-- 'flipbooklaw26.TellScreens': WHATEVER THE INPUT: true; the input reads as it did. -/
def tellScreensSpec : ChangeSpec := { name := "tellScreens", fn := fun _ => fun
  | [d1, d2] => { results := [.lit (.bool true)], args := [d1, d2] }
  | _ => none }
def tellScreensRow : OpenClaim := { program := "ytnoplfndpemmpaagreatdoor", sum := "0fb4c7a0e3480fe2266e9ce61d492eae4fa6b32953b7a458702287e98dc98008", func := "flipbook/flipbooklaw26.TellScreens", spec := "tellScreens", inPlace := ["internal/bytealg.IndexByteString", "internal/bytealg.IndexString", "internal/abi.NoEscape"], unfollowed := true, recurses := true, named := ["internal/strconv.uint64pow10", "math/bits.deBruijn32tab", "math/bits.deBruijn64tab", "flipbook/glyph.wide", "unicode/utf8.first", "unicode/utf8.acceptRanges", "flipbook/glyph.signs", "flipbook/command.words", "internal/bytealg.MaxLen", "strconv.ErrSyntax", "strconv.ErrRange", "math/bits.divideError", "math/bits.overflowError"], apart := false, laid := [("flipbook/glyph.wide", laid_flipbook_glyph_wide), ("flipbook/glyph.signs", laid_flipbook_glyph_signs), ("math/bits.deBruijn32tab", laid_math_bits_deBruijn32tab), ("math/bits.deBruijn64tab", laid_math_bits_deBruijn64tab), ("internal/strconv.uint64pow10", laid_internal_strconv_uint64pow10), ("unicode/utf8.acceptRanges", laid_unicode_utf8_acceptRanges), ("strconv.ErrRange", laid_strconv_ErrRange), ("strconv.ErrSyntax", laid_strconv_ErrSyntax), ("flipbook/command.words", laid_flipbook_command_words), ("unicode/utf8.first", laid_unicode_utf8_first)] }
def TellScreensSaid : Prop := tellScreensRow.holds Tryz.pinned (OpenSpec.ofChange tellScreensSpec)

/-- ITS FALSE NEIGHBOUR: 'it returns false'. Refute it at one input. -/
def tellScreensWrong : ChangeSpec := { name := "tellScreens", fn := fun _ => fun
  | [d1, d2] => { results := [.lit (.bool false)], args := [d1, d2] }
  | _ => none }
def TellScreensWrongFalsely : Prop := tellScreensRow.holds Tryz.pinned (OpenSpec.ofChange tellScreensWrong)

/-- 'flipbooklaw26.TellRecs': WHATEVER THE INPUT: true; the input reads as it did. -/
def tellRecsSpec : ChangeSpec := { name := "tellRecs", fn := fun _ => fun
  | [d] => { results := [.lit (.bool true)], args := [d] }
  | _ => none }
def tellRecsRow : OpenClaim := { program := "ytnoplfndpemmpaagreatdoor", sum := "0fb4c7a0e3480fe2266e9ce61d492eae4fa6b32953b7a458702287e98dc98008", func := "flipbook/flipbooklaw26.TellRecs", spec := "tellRecs", inPlace := ["internal/bytealg.IndexByteString", "internal/bytealg.IndexString", "internal/abi.NoEscape"], unfollowed := true, recurses := true, named := ["internal/strconv.uint64pow10", "math/bits.deBruijn32tab", "math/bits.deBruijn64tab", "flipbook/glyph.wide", "unicode/utf8.first", "unicode/utf8.acceptRanges", "flipbook/glyph.signs", "flipbook/command.words", "internal/bytealg.MaxLen", "strconv.ErrSyntax", "strconv.ErrRange", "math/bits.divideError", "math/bits.overflowError"], apart := false, laid := [("flipbook/glyph.wide", laid_flipbook_glyph_wide), ("flipbook/glyph.signs", laid_flipbook_glyph_signs), ("math/bits.deBruijn32tab", laid_math_bits_deBruijn32tab), ("math/bits.deBruijn64tab", laid_math_bits_deBruijn64tab), ("internal/strconv.uint64pow10", laid_internal_strconv_uint64pow10), ("unicode/utf8.acceptRanges", laid_unicode_utf8_acceptRanges), ("strconv.ErrRange", laid_strconv_ErrRange), ("strconv.ErrSyntax", laid_strconv_ErrSyntax), ("flipbook/command.words", laid_flipbook_command_words), ("unicode/utf8.first", laid_unicode_utf8_first)] }
def TellRecsSaid : Prop := tellRecsRow.holds Tryz.pinned (OpenSpec.ofChange tellRecsSpec)

/-- ITS FALSE NEIGHBOUR: 'it returns false'. Refute it at one input. -/
def tellRecsWrong : ChangeSpec := { name := "tellRecs", fn := fun _ => fun
  | [d] => { results := [.lit (.bool false)], args := [d] }
  | _ => none }
def TellRecsWrongFalsely : Prop := tellRecsRow.holds Tryz.pinned (OpenSpec.ofChange tellRecsWrong)

/- THE SECOND FORM. 'bulk': how many values and letters a reading holds, each counted each time it is reached (what is shared counts as often as it is met; a slice's spare places count too). A statement '..UptoSaid' is the law's where the arguments, and the package variables that the reading takes, are together of bulk at most 1048576: NARROWER than '..Said'. Prove '..Said' where nothing that the law and all that it calls make is longer than what came in: it says more and counts as full. Else prove '..UptoSaid'. A law counts once. -/
mutual
def uptoBulk {H : Type} : DataW H → Nat
  | .lit (.string bytes) => bytes.length + 1
  | .lit _ => 1
  | .nil => 1
  | .ptr d => uptoBulk d + 1
  | .slice elems spare => uptoBulkAll elems + uptoBulkAll spare + 1
  | .agg parts => uptoBulkAll parts + 1
  | .iface _ d => uptoBulk d + 1
  | .map entries => uptoBulkEntries entries + 1
  | .held _ => 1
def uptoBulkAll {H : Type} : List (DataW H) → Nat
  | [] => 0
  | d :: r => uptoBulk d + uptoBulkAll r
def uptoBulkEntries {H : Type} : List (Lit × DataW H) → Nat
  | [] => 0
  | x :: r => uptoBulkEntry x + uptoBulkEntries r
def uptoBulkEntry {H : Type} : Lit × DataW H → Nat
  | (.string bytes, d) => bytes.length + uptoBulk d + 1
  | (_, d) => uptoBulk d + 1
 end
def uptoSmall : (H : Type) → List (DataW H) → Bool := fun _ ds => decide (uptoBulkAll ds ≤ 1048576)
def OpenSpec.upto (s : _root_.Go.ChangeSpec) : _root_.Go.OpenSpec := { _root_.Go.OpenSpec.ofChange s with cond := some uptoSmall }

/-- 'flipbooklaw25.ScriptBack', WHERE WHAT IT READS IS OF BULK AT MOST 1048576: true; the input reads as it did. -/
def scriptBackUptoRow : OpenClaim := { program := "ytnoplfndpemmpaagreatdoor", sum := "0fb4c7a0e3480fe2266e9ce61d492eae4fa6b32953b7a458702287e98dc98008", func := "flipbook/flipbooklaw25.ScriptBack", spec := "scriptBack", inPlace := ["internal/bytealg.IndexByteString", "internal/bytealg.IndexString", "internal/abi.NoEscape"], unfollowed := true, recurses := true, named := ["internal/strconv.uint64pow10", "math/bits.deBruijn32tab", "math/bits.deBruijn64tab", "flipbook/glyph.wide", "unicode/utf8.first", "unicode/utf8.acceptRanges", "flipbook/glyph.signs", "flipbook/command.words", "internal/bytealg.MaxLen", "strconv.ErrSyntax", "strconv.ErrRange", "math/bits.divideError", "math/bits.overflowError"], apart := false, laid := [("flipbook/glyph.wide", laid_flipbook_glyph_wide), ("flipbook/glyph.signs", laid_flipbook_glyph_signs), ("math/bits.deBruijn32tab", laid_math_bits_deBruijn32tab), ("math/bits.deBruijn64tab", laid_math_bits_deBruijn64tab), ("internal/strconv.uint64pow10", laid_internal_strconv_uint64pow10), ("unicode/utf8.acceptRanges", laid_unicode_utf8_acceptRanges), ("strconv.ErrRange", laid_strconv_ErrRange), ("strconv.ErrSyntax", laid_strconv_ErrSyntax), ("flipbook/command.words", laid_flipbook_command_words), ("unicode/utf8.first", laid_unicode_utf8_first)], narrowed := true }
def ScriptBackUptoSaid : Prop := scriptBackUptoRow.holds Tryz.pinned (OpenSpec.upto scriptBackSpec)

/-- 'flipbooklaw25.ScriptAny', WHERE WHAT IT READS IS OF BULK AT MOST 1048576: true; the input reads as it did. -/
def scriptAnyUptoRow : OpenClaim := { program := "ytnoplfndpemmpaagreatdoor", sum := "0fb4c7a0e3480fe2266e9ce61d492eae4fa6b32953b7a458702287e98dc98008", func := "flipbook/flipbooklaw25.ScriptAny", spec := "scriptAny", inPlace := ["internal/bytealg.IndexByteString", "internal/bytealg.IndexString", "internal/abi.NoEscape"], unfollowed := true, recurses := true, named := ["internal/strconv.uint64pow10", "math/bits.deBruijn32tab", "math/bits.deBruijn64tab", "flipbook/glyph.wide", "unicode/utf8.first", "unicode/utf8.acceptRanges", "flipbook/glyph.signs", "flipbook/command.words", "internal/bytealg.MaxLen", "strconv.ErrSyntax", "strconv.ErrRange", "math/bits.divideError", "math/bits.overflowError"], apart := false, laid := [("flipbook/glyph.wide", laid_flipbook_glyph_wide), ("flipbook/glyph.signs", laid_flipbook_glyph_signs), ("math/bits.deBruijn32tab", laid_math_bits_deBruijn32tab), ("math/bits.deBruijn64tab", laid_math_bits_deBruijn64tab), ("internal/strconv.uint64pow10", laid_internal_strconv_uint64pow10), ("unicode/utf8.acceptRanges", laid_unicode_utf8_acceptRanges), ("strconv.ErrRange", laid_strconv_ErrRange), ("strconv.ErrSyntax", laid_strconv_ErrSyntax), ("flipbook/command.words", laid_flipbook_command_words), ("unicode/utf8.first", laid_unicode_utf8_first)], narrowed := true }
def ScriptAnyUptoSaid : Prop := scriptAnyUptoRow.holds Tryz.pinned (OpenSpec.upto scriptAnySpec)

/-- 'flipbooklaw26.TellScreens', WHERE WHAT IT READS IS OF BULK AT MOST 1048576: true; the input reads as it did. -/
def tellScreensUptoRow : OpenClaim := { program := "ytnoplfndpemmpaagreatdoor", sum := "0fb4c7a0e3480fe2266e9ce61d492eae4fa6b32953b7a458702287e98dc98008", func := "flipbook/flipbooklaw26.TellScreens", spec := "tellScreens", inPlace := ["internal/bytealg.IndexByteString", "internal/bytealg.IndexString", "internal/abi.NoEscape"], unfollowed := true, recurses := true, named := ["internal/strconv.uint64pow10", "math/bits.deBruijn32tab", "math/bits.deBruijn64tab", "flipbook/glyph.wide", "unicode/utf8.first", "unicode/utf8.acceptRanges", "flipbook/glyph.signs", "flipbook/command.words", "internal/bytealg.MaxLen", "strconv.ErrSyntax", "strconv.ErrRange", "math/bits.divideError", "math/bits.overflowError"], apart := false, laid := [("flipbook/glyph.wide", laid_flipbook_glyph_wide), ("flipbook/glyph.signs", laid_flipbook_glyph_signs), ("math/bits.deBruijn32tab", laid_math_bits_deBruijn32tab), ("math/bits.deBruijn64tab", laid_math_bits_deBruijn64tab), ("internal/strconv.uint64pow10", laid_internal_strconv_uint64pow10), ("unicode/utf8.acceptRanges", laid_unicode_utf8_acceptRanges), ("strconv.ErrRange", laid_strconv_ErrRange), ("strconv.ErrSyntax", laid_strconv_ErrSyntax), ("flipbook/command.words", laid_flipbook_command_words), ("unicode/utf8.first", laid_unicode_utf8_first)], narrowed := true }
def TellScreensUptoSaid : Prop := tellScreensUptoRow.holds Tryz.pinned (OpenSpec.upto tellScreensSpec)

/-- 'flipbooklaw26.TellRecs', WHERE WHAT IT READS IS OF BULK AT MOST 1048576: true; the input reads as it did. -/
def tellRecsUptoRow : OpenClaim := { program := "ytnoplfndpemmpaagreatdoor", sum := "0fb4c7a0e3480fe2266e9ce61d492eae4fa6b32953b7a458702287e98dc98008", func := "flipbook/flipbooklaw26.TellRecs", spec := "tellRecs", inPlace := ["internal/bytealg.IndexByteString", "internal/bytealg.IndexString", "internal/abi.NoEscape"], unfollowed := true, recurses := true, named := ["internal/strconv.uint64pow10", "math/bits.deBruijn32tab", "math/bits.deBruijn64tab", "flipbook/glyph.wide", "unicode/utf8.first", "unicode/utf8.acceptRanges", "flipbook/glyph.signs", "flipbook/command.words", "internal/bytealg.MaxLen", "strconv.ErrSyntax", "strconv.ErrRange", "math/bits.divideError", "math/bits.overflowError"], apart := false, laid := [("flipbook/glyph.wide", laid_flipbook_glyph_wide), ("flipbook/glyph.signs", laid_flipbook_glyph_signs), ("math/bits.deBruijn32tab", laid_math_bits_deBruijn32tab), ("math/bits.deBruijn64tab", laid_math_bits_deBruijn64tab), ("internal/strconv.uint64pow10", laid_internal_strconv_uint64pow10), ("unicode/utf8.acceptRanges", laid_unicode_utf8_acceptRanges), ("strconv.ErrRange", laid_strconv_ErrRange), ("strconv.ErrSyntax", laid_strconv_ErrSyntax), ("flipbook/command.words", laid_flipbook_command_words), ("unicode/utf8.first", laid_unicode_utf8_first)], narrowed := true }
def TellRecsUptoSaid : Prop := tellRecsUptoRow.holds Tryz.pinned (OpenSpec.upto tellRecsSpec)

end Rows
end Go.Proofs.YtnoplfndpemmpaaGreatDoor
