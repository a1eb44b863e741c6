/-
  NARROWER THAN 'FOR EVERY INPUT', by the rows' own cells (each row's printed sentence says how): CommandParses: laid · CommandTables: laid · CommandAny: laid · CommandBack: laid · CommandKeys: laid.
  DERIVED. THE GIVEN ROWS OF THIS SEAT. 5 by the template 'for every input the law returns true; each argument reads behind the call as it read before'; 0 by the template 'total and deterministic' (their statements: YtlfndndmegjnlaaDoorTotals.lean).
  GIVEN WITH THE SEED: the statements are not yours to turn. If you find one false, say at which input.
  Laid BY PROGRAM, IN A SANDBOX (cutbox-rows.mjs): the forced cells as the released guide's own fill.sh prints them over the translation 4b2a7c621e2922b4… (all of the seat's roots in one cut). By AI agents, Wed Nov 11 2026. No macro, syntax, notation, axiom, sorry.
-/
import Derived.Test.YtlfndndmegjnlaaDoorChecked
import GoSem.Claim
import GoSem.ClaimJoined
import GoSem.ClaimMapViews
import Derived.JoinedTies
import Derived.KernelRfl
namespace Go.Proofs.YtlfndndmegjnlaaDoor
/- THE CELL 'sum', in the pinned program and in every row, IS THE sha256 OF THE DUMP (.gsa) THAT YtlfndndmegjnlaaDoorProg.lean LOADS. Nothing in Lean hashes anything: it is a label: what it is worth is what the hold of that sum in a sandbox is worth. -/
noncomputable def Tryd.pinned : Pinned := { name := "ytlfndndmegjnlaadoor", sum := "4b2a7c621e2922b498b6e5864c0155c2c7e49f051b011c27cc326e801d854981", checked := Tryd.checked }
namespace Rows
def none {H : Type} : Left H := { results := [], args := [] }

/- WHAT THE LISTED PACKAGE-LEVEL VARIABLES READ AS WHEN THE CALL BEGINS. Each datum BY PROGRAM (the guide's laid-datum.mjs) off the statement by which the dump's own 'gosem.cut.vars' lays the variable. In a bare row this is a premise. The card (YtlfndndmegjnlaaDoorCards.lean) ties it to the program's text. -/
def laid_math_bits_deBruijn32tab {H : Type} : DataW H := .agg [.lit (.int .u8 0), .lit (.int .u8 1), .lit (.int .u8 28), .lit (.int .u8 2), .lit (.int .u8 29), .lit (.int .u8 14), .lit (.int .u8 24), .lit (.int .u8 3), .lit (.int .u8 30), .lit (.int .u8 22), .lit (.int .u8 20), .lit (.int .u8 15), .lit (.int .u8 25), .lit (.int .u8 17), .lit (.int .u8 4), .lit (.int .u8 8), .lit (.int .u8 31), .lit (.int .u8 27), .lit (.int .u8 13), .lit (.int .u8 23), .lit (.int .u8 21), .lit (.int .u8 19), .lit (.int .u8 16), .lit (.int .u8 7), .lit (.int .u8 26), .lit (.int .u8 12), .lit (.int .u8 18), .lit (.int .u8 6), .lit (.int .u8 11), .lit (.int .u8 5), .lit (.int .u8 10), .lit (.int .u8 9)]
def laid_math_bits_deBruijn64tab {H : Type} : DataW H := .agg [.lit (.int .u8 0), .lit (.int .u8 1), .lit (.int .u8 56), .lit (.int .u8 2), .lit (.int .u8 57), .lit (.int .u8 49), .lit (.int .u8 28), .lit (.int .u8 3), .lit (.int .u8 61), .lit (.int .u8 58), .lit (.int .u8 42), .lit (.int .u8 50), .lit (.int .u8 38), .lit (.int .u8 29), .lit (.int .u8 17), .lit (.int .u8 4), .lit (.int .u8 62), .lit (.int .u8 47), .lit (.int .u8 59), .lit (.int .u8 36), .lit (.int .u8 45), .lit (.int .u8 43), .lit (.int .u8 51), .lit (.int .u8 22), .lit (.int .u8 53), .lit (.int .u8 39), .lit (.int .u8 33), .lit (.int .u8 30), .lit (.int .u8 24), .lit (.int .u8 18), .lit (.int .u8 12), .lit (.int .u8 5), .lit (.int .u8 63), .lit (.int .u8 55), .lit (.int .u8 48), .lit (.int .u8 27), .lit (.int .u8 60), .lit (.int .u8 41), .lit (.int .u8 37), .lit (.int .u8 16), .lit (.int .u8 46), .lit (.int .u8 35), .lit (.int .u8 44), .lit (.int .u8 21), .lit (.int .u8 52), .lit (.int .u8 32), .lit (.int .u8 23), .lit (.int .u8 11), .lit (.int .u8 54), .lit (.int .u8 26), .lit (.int .u8 40), .lit (.int .u8 15), .lit (.int .u8 34), .lit (.int .u8 20), .lit (.int .u8 31), .lit (.int .u8 10), .lit (.int .u8 25), .lit (.int .u8 14), .lit (.int .u8 19), .lit (.int .u8 9), .lit (.int .u8 13), .lit (.int .u8 8), .lit (.int .u8 7), .lit (.int .u8 6)]
def laid_internal_strconv_uint64pow10 {H : Type} : DataW H := .agg [.lit (.int .u64 1), .lit (.int .u64 10), .lit (.int .u64 100), .lit (.int .u64 1000), .lit (.int .u64 10000), .lit (.int .u64 100000), .lit (.int .u64 1000000), .lit (.int .u64 10000000), .lit (.int .u64 100000000), .lit (.int .u64 1000000000), .lit (.int .u64 10000000000), .lit (.int .u64 100000000000), .lit (.int .u64 1000000000000), .lit (.int .u64 10000000000000), .lit (.int .u64 100000000000000), .lit (.int .u64 1000000000000000), .lit (.int .u64 10000000000000000), .lit (.int .u64 100000000000000000), .lit (.int .u64 1000000000000000000), .lit (.int .u64 10000000000000000000)]
def laid_strconv_ErrRange {H : Type} : DataW H := .iface "*errors.errorString" (.ptr (.agg [.lit (.string [118, 97, 108, 117, 101, 32, 111, 117, 116, 32, 111, 102, 32, 114, 97, 110, 103, 101])]))
def laid_strconv_ErrSyntax {H : Type} : DataW H := .iface "*errors.errorString" (.ptr (.agg [.lit (.string [105, 110, 118, 97, 108, 105, 100, 32, 115, 121, 110, 116, 97, 120])]))
def laid_flipbook_command_words {H : Type} : DataW H := .agg [.lit (.string [115, 112, 108, 105, 116]), .lit (.string [102, 108, 97, 116]), .lit (.string [107, 105, 108, 108]), .lit (.string [102, 111, 99, 117, 115]), .lit (.string [109, 97, 114, 107]), .lit (.string [114, 101, 119, 105, 110, 100]), .lit (.string [102, 105, 110, 100]), .lit (.string [112, 108, 97, 121]), .lit (.string [112, 97, 117, 115, 101]), .lit (.string [115, 116, 101, 112]), .lit (.string [108, 105, 118, 101]), .lit (.string [115, 121, 110, 99]), .lit (.string [102, 105, 110, 105, 115, 104]), .lit (.string [116, 114, 105, 109]), .lit (.string [106, 111, 105, 110]), .lit (.string [101, 120, 112, 111, 114, 116]), .lit (.string [98, 105, 110, 100]), .lit (.string [117, 110, 98, 105, 110, 100])]

/-- 'flipbooklaw21.CommandParses': WHATEVER THE INPUT: true; the input reads as it did. -/
def commandParsesSpec : ChangeSpec := { name := "commandParses", fn := fun _ => fun
  | [d] => { results := [.lit (.bool true)], args := [d] }
  | _ => none }
def commandParsesRow : OpenClaim := { program := "ytlfndndmegjnlaadoor", sum := "4b2a7c621e2922b498b6e5864c0155c2c7e49f051b011c27cc326e801d854981", func := "flipbook/flipbooklaw21.CommandParses", spec := "commandParses", inPlace := ["internal/bytealg.IndexByteString", "internal/bytealg.IndexString"], recurses := true, named := ["flipbook/command.words", "internal/bytealg.MaxLen", "strconv.ErrSyntax", "strconv.ErrRange", "internal/strconv.uint64pow10", "math/bits.deBruijn32tab", "math/bits.deBruijn64tab"], apart := false, laid := [("math/bits.deBruijn32tab", laid_math_bits_deBruijn32tab), ("math/bits.deBruijn64tab", laid_math_bits_deBruijn64tab), ("internal/strconv.uint64pow10", laid_internal_strconv_uint64pow10), ("strconv.ErrRange", laid_strconv_ErrRange), ("strconv.ErrSyntax", laid_strconv_ErrSyntax), ("flipbook/command.words", laid_flipbook_command_words)] }
def CommandParsesSaid : Prop := commandParsesRow.holds Tryd.pinned (OpenSpec.ofChange commandParsesSpec)

/-- ITS FALSE NEIGHBOUR: 'it returns false'. Refute it at one input. -/
def commandParsesWrong : ChangeSpec := { name := "commandParses", fn := fun _ => fun
  | [d] => { results := [.lit (.bool false)], args := [d] }
  | _ => none }
def CommandParsesWrongFalsely : Prop := commandParsesRow.holds Tryd.pinned (OpenSpec.ofChange commandParsesWrong)

/-- 'flipbooklaw21.CommandTables': WHATEVER THE INPUT: true; the input reads as it did. -/
def commandTablesSpec : ChangeSpec := { name := "commandTables", fn := fun _ => fun
  | [d1, d2] => { results := [.lit (.bool true)], args := [d1, d2] }
  | _ => none }
def commandTablesRow : OpenClaim := { program := "ytlfndndmegjnlaadoor", sum := "4b2a7c621e2922b498b6e5864c0155c2c7e49f051b011c27cc326e801d854981", func := "flipbook/flipbooklaw21.CommandTables", spec := "commandTables", inPlace := ["internal/bytealg.IndexByteString", "internal/bytealg.IndexString"], recurses := true, named := ["flipbook/command.words", "internal/bytealg.MaxLen", "strconv.ErrSyntax", "strconv.ErrRange", "internal/strconv.uint64pow10", "math/bits.deBruijn32tab", "math/bits.deBruijn64tab"], apart := false, laid := [("math/bits.deBruijn32tab", laid_math_bits_deBruijn32tab), ("math/bits.deBruijn64tab", laid_math_bits_deBruijn64tab), ("internal/strconv.uint64pow10", laid_internal_strconv_uint64pow10), ("strconv.ErrRange", laid_strconv_ErrRange), ("strconv.ErrSyntax", laid_strconv_ErrSyntax), ("flipbook/command.words", laid_flipbook_command_words)] }
def CommandTablesSaid : Prop := commandTablesRow.holds Tryd.pinned (OpenSpec.ofChange commandTablesSpec)

/-- ITS FALSE NEIGHBOUR: 'it returns false'. Refute it at one input. -/
def commandTablesWrong : ChangeSpec := { name := "commandTables", fn := fun _ => fun
  | [d1, d2] => { results := [.lit (.bool false)], args := [d1, d2] }
  | _ => none }
def CommandTablesWrongFalsely : Prop := commandTablesRow.holds Tryd.pinned (OpenSpec.ofChange commandTablesWrong)

/-- 'flipbooklaw21.CommandAny': WHATEVER THE INPUT: true; the input reads as it did. -/
def commandAnySpec : ChangeSpec := { name := "commandAny", fn := fun _ => fun
  | [d] => { results := [.lit (.bool true)], args := [d] }
  | _ => none }
def commandAnyRow : OpenClaim := { program := "ytlfndndmegjnlaadoor", sum := "4b2a7c621e2922b498b6e5864c0155c2c7e49f051b011c27cc326e801d854981", func := "flipbook/flipbooklaw21.CommandAny", spec := "commandAny", inPlace := ["internal/bytealg.IndexByteString", "internal/bytealg.IndexString"], recurses := true, named := ["flipbook/command.words", "internal/bytealg.MaxLen", "strconv.ErrSyntax", "strconv.ErrRange", "internal/strconv.uint64pow10", "math/bits.deBruijn32tab", "math/bits.deBruijn64tab"], apart := false, laid := [("math/bits.deBruijn32tab", laid_math_bits_deBruijn32tab), ("math/bits.deBruijn64tab", laid_math_bits_deBruijn64tab), ("internal/strconv.uint64pow10", laid_internal_strconv_uint64pow10), ("strconv.ErrRange", laid_strconv_ErrRange), ("strconv.ErrSyntax", laid_strconv_ErrSyntax), ("flipbook/command.words", laid_flipbook_command_words)] }
def CommandAnySaid : Prop := commandAnyRow.holds Tryd.pinned (OpenSpec.ofChange commandAnySpec)

/-- ITS FALSE NEIGHBOUR: 'it returns false'. Refute it at one input. -/
def commandAnyWrong : ChangeSpec := { name := "commandAny", fn := fun _ => fun
  | [d] => { results := [.lit (.bool false)], args := [d] }
  | _ => none }
def CommandAnyWrongFalsely : Prop := commandAnyRow.holds Tryd.pinned (OpenSpec.ofChange commandAnyWrong)

/-- 'flipbooklaw21.CommandBack': WHATEVER THE INPUT: true; the input reads as it did. -/
def commandBackSpec : ChangeSpec := { name := "commandBack", fn := fun _ => fun
  | [d1, d2, d3] => { results := [.lit (.bool true)], args := [d1, d2, d3] }
  | _ => none }
def commandBackRow : OpenClaim := { program := "ytlfndndmegjnlaadoor", sum := "4b2a7c621e2922b498b6e5864c0155c2c7e49f051b011c27cc326e801d854981", func := "flipbook/flipbooklaw21.CommandBack", spec := "commandBack", inPlace := ["internal/bytealg.IndexByteString", "internal/bytealg.IndexString"], recurses := true, named := ["flipbook/command.words", "internal/bytealg.MaxLen", "strconv.ErrSyntax", "strconv.ErrRange", "internal/strconv.uint64pow10", "math/bits.deBruijn32tab", "math/bits.deBruijn64tab"], apart := false, laid := [("math/bits.deBruijn32tab", laid_math_bits_deBruijn32tab), ("math/bits.deBruijn64tab", laid_math_bits_deBruijn64tab), ("internal/strconv.uint64pow10", laid_internal_strconv_uint64pow10), ("strconv.ErrRange", laid_strconv_ErrRange), ("strconv.ErrSyntax", laid_strconv_ErrSyntax), ("flipbook/command.words", laid_flipbook_command_words)] }
def CommandBackSaid : Prop := commandBackRow.holds Tryd.pinned (OpenSpec.ofChange commandBackSpec)

/-- ITS FALSE NEIGHBOUR: 'it returns false'. Refute it at one input. -/
def commandBackWrong : ChangeSpec := { name := "commandBack", fn := fun _ => fun
  | [d1, d2, d3] => { results := [.lit (.bool false)], args := [d1, d2, d3] }
  | _ => none }
def CommandBackWrongFalsely : Prop := commandBackRow.holds Tryd.pinned (OpenSpec.ofChange commandBackWrong)

/-- 'flipbooklaw21.CommandKeys': WHATEVER THE INPUT: true; the input reads as it did. -/
def commandKeysSpec : ChangeSpec := { name := "commandKeys", fn := fun _ => fun
  | [d1, d2] => { results := [.lit (.bool true)], args := [d1, d2] }
  | _ => none }
def commandKeysRow : OpenClaim := { program := "ytlfndndmegjnlaadoor", sum := "4b2a7c621e2922b498b6e5864c0155c2c7e49f051b011c27cc326e801d854981", func := "flipbook/flipbooklaw21.CommandKeys", spec := "commandKeys", inPlace := ["internal/bytealg.IndexByteString", "internal/bytealg.IndexString"], recurses := true, named := ["flipbook/command.words", "internal/bytealg.MaxLen", "strconv.ErrSyntax", "strconv.ErrRange", "internal/strconv.uint64pow10", "math/bits.deBruijn32tab", "math/bits.deBruijn64tab"], apart := false, laid := [("math/bits.deBruijn32tab", laid_math_bits_deBruijn32tab), ("math/bits.deBruijn64tab", laid_math_bits_deBruijn64tab), ("internal/strconv.uint64pow10", laid_internal_strconv_uint64pow10), ("strconv.ErrRange", laid_strconv_ErrRange), ("strconv.ErrSyntax", laid_strconv_ErrSyntax), ("flipbook/command.words", laid_flipbook_command_words)] }
def CommandKeysSaid : Prop := commandKeysRow.holds Tryd.pinned (OpenSpec.ofChange commandKeysSpec)

/-- ITS FALSE NEIGHBOUR: 'it returns false'. Refute it at one input. -/
def commandKeysWrong : ChangeSpec := { name := "commandKeys", fn := fun _ => fun
  | [d1, d2] => { results := [.lit (.bool false)], args := [d1, d2] }
  | _ => none }
def CommandKeysWrongFalsely : Prop := commandKeysRow.holds Tryd.pinned (OpenSpec.ofChange commandKeysWrong)

/- THE SECOND FORM. 'bulk': how many values and letters a reading holds, each counted each time it is reached (what is shared counts as often as it is met; a slice's spare places count too). A statement '..UptoSaid' is the law's where the arguments, and the package variables that the reading takes, are together of bulk at most 1048576: NARROWER than '..Said'. Prove '..Said' where nothing that the law and all that it calls make is longer than what came in: it says more and counts as full. Else prove '..UptoSaid'. A law counts once. -/
mutual
def uptoBulk {H : Type} : DataW H → Nat
  | .lit (.string bytes) => bytes.length + 1
  | .lit _ => 1
  | .nil => 1
  | .ptr d => uptoBulk d + 1
  | .slice elems spare => uptoBulkAll elems + uptoBulkAll spare + 1
  | .agg parts => uptoBulkAll parts + 1
  | .iface _ d => uptoBulk d + 1
  | .map entries => uptoBulkEntries entries + 1
  | .held _ => 1
def uptoBulkAll {H : Type} : List (DataW H) → Nat
  | [] => 0
  | d :: r => uptoBulk d + uptoBulkAll r
def uptoBulkEntries {H : Type} : List (Lit × DataW H) → Nat
  | [] => 0
  | x :: r => uptoBulkEntry x + uptoBulkEntries r
def uptoBulkEntry {H : Type} : Lit × DataW H → Nat
  | (.string bytes, d) => bytes.length + uptoBulk d + 1
  | (_, d) => uptoBulk d + 1
 end
def uptoSmall : (H : Type) → List (DataW H) → Bool := fun _ ds => decide (uptoBulkAll ds ≤ 1048576)
def OpenSpec.upto (s : _root_.Go.ChangeSpec) : _root_.Go.OpenSpec := { _root_.Go.OpenSpec.ofChange s with cond := some uptoSmall }

/-- 'flipbooklaw21.CommandParses', WHERE WHAT IT READS IS OF BULK AT MOST 1048576: true; the input reads as it did. -/
def commandParsesUptoRow : OpenClaim := { program := "ytlfndndmegjnlaadoor", sum := "4b2a7c621e2922b498b6e5864c0155c2c7e49f051b011c27cc326e801d854981", func := "flipbook/flipbooklaw21.CommandParses", spec := "commandParses", inPlace := ["internal/bytealg.IndexByteString", "internal/bytealg.IndexString"], recurses := true, named := ["flipbook/command.words", "internal/bytealg.MaxLen", "strconv.ErrSyntax", "strconv.ErrRange", "internal/strconv.uint64pow10", "math/bits.deBruijn32tab", "math/bits.deBruijn64tab"], apart := false, laid := [("math/bits.deBruijn32tab", laid_math_bits_deBruijn32tab), ("math/bits.deBruijn64tab", laid_math_bits_deBruijn64tab), ("internal/strconv.uint64pow10", laid_internal_strconv_uint64pow10), ("strconv.ErrRange", laid_strconv_ErrRange), ("strconv.ErrSyntax", laid_strconv_ErrSyntax), ("flipbook/command.words", laid_flipbook_command_words)], narrowed := true }
def CommandParsesUptoSaid : Prop := commandParsesUptoRow.holds Tryd.pinned (OpenSpec.upto commandParsesSpec)

/-- 'flipbooklaw21.CommandTables', WHERE WHAT IT READS IS OF BULK AT MOST 1048576: true; the input reads as it did. -/
def commandTablesUptoRow : OpenClaim := { program := "ytlfndndmegjnlaadoor", sum := "4b2a7c621e2922b498b6e5864c0155c2c7e49f051b011c27cc326e801d854981", func := "flipbook/flipbooklaw21.CommandTables", spec := "commandTables", inPlace := ["internal/bytealg.IndexByteString", "internal/bytealg.IndexString"], recurses := true, named := ["flipbook/command.words", "internal/bytealg.MaxLen", "strconv.ErrSyntax", "strconv.ErrRange", "internal/strconv.uint64pow10", "math/bits.deBruijn32tab", "math/bits.deBruijn64tab"], apart := false, laid := [("math/bits.deBruijn32tab", laid_math_bits_deBruijn32tab), ("math/bits.deBruijn64tab", laid_math_bits_deBruijn64tab), ("internal/strconv.uint64pow10", laid_internal_strconv_uint64pow10), ("strconv.ErrRange", laid_strconv_ErrRange), ("strconv.ErrSyntax", laid_strconv_ErrSyntax), ("flipbook/command.words", laid_flipbook_command_words)], narrowed := true }
def CommandTablesUptoSaid : Prop := commandTablesUptoRow.holds Tryd.pinned (OpenSpec.upto commandTablesSpec)

/-- 'flipbooklaw21.CommandAny', WHERE WHAT IT READS IS OF BULK AT MOST 1048576: true; the input reads as it did. -/
def commandAnyUptoRow : OpenClaim := { program := "ytlfndndmegjnlaadoor", sum := "4b2a7c621e2922b498b6e5864c0155c2c7e49f051b011c27cc326e801d854981", func := "flipbook/flipbooklaw21.CommandAny", spec := "commandAny", inPlace := ["internal/bytealg.IndexByteString", "internal/bytealg.IndexString"], recurses := true, named := ["flipbook/command.words", "internal/bytealg.MaxLen", "strconv.ErrSyntax", "strconv.ErrRange", "internal/strconv.uint64pow10", "math/bits.deBruijn32tab", "math/bits.deBruijn64tab"], apart := false, laid := [("math/bits.deBruijn32tab", laid_math_bits_deBruijn32tab), ("math/bits.deBruijn64tab", laid_math_bits_deBruijn64tab), ("internal/strconv.uint64pow10", laid_internal_strconv_uint64pow10), ("strconv.ErrRange", laid_strconv_ErrRange), ("strconv.ErrSyntax", laid_strconv_ErrSyntax), ("flipbook/command.words", laid_flipbook_command_words)], narrowed := true }
def CommandAnyUptoSaid : Prop := commandAnyUptoRow.holds Tryd.pinned (OpenSpec.upto commandAnySpec)

/-- 'flipbooklaw21.CommandBack', WHERE WHAT IT READS IS OF BULK AT MOST 1048576: true; the input reads as it did. -/
def commandBackUptoRow : OpenClaim := { program := "ytlfndndmegjnlaadoor", sum := "4b2a7c621e2922b498b6e5864c0155c2c7e49f051b011c27cc326e801d854981", func := "flipbook/flipbooklaw21.CommandBack", spec := "commandBack", inPlace := ["internal/bytealg.IndexByteString", "internal/bytealg.IndexString"], recurses := true, named := ["flipbook/command.words", "internal/bytealg.MaxLen", "strconv.ErrSyntax", "strconv.ErrRange", "internal/strconv.uint64pow10", "math/bits.deBruijn32tab", "math/bits.deBruijn64tab"], apart := false, laid := [("math/bits.deBruijn32tab", laid_math_bits_deBruijn32tab), ("math/bits.deBruijn64tab", laid_math_bits_deBruijn64tab), ("internal/strconv.uint64pow10", laid_internal_strconv_uint64pow10), ("strconv.ErrRange", laid_strconv_ErrRange), ("strconv.ErrSyntax", laid_strconv_ErrSyntax), ("flipbook/command.words", laid_flipbook_command_words)], narrowed := true }
def CommandBackUptoSaid : Prop := commandBackUptoRow.holds Tryd.pinned (OpenSpec.upto commandBackSpec)

/-- 'flipbooklaw21.CommandKeys', WHERE WHAT IT READS IS OF BULK AT MOST 1048576: true; the input reads as it did. -/
def commandKeysUptoRow : OpenClaim := { program := "ytlfndndmegjnlaadoor", sum := "4b2a7c621e2922b498b6e5864c0155c2c7e49f051b011c27cc326e801d854981", func := "flipbook/flipbooklaw21.CommandKeys", spec := "commandKeys", inPlace := ["internal/bytealg.IndexByteString", "internal/bytealg.IndexString"], recurses := true, named := ["flipbook/command.words", "internal/bytealg.MaxLen", "strconv.ErrSyntax", "strconv.ErrRange", "internal/strconv.uint64pow10", "math/bits.deBruijn32tab", "math/bits.deBruijn64tab"], apart := false, laid := [("math/bits.deBruijn32tab", laid_math_bits_deBruijn32tab), ("math/bits.deBruijn64tab", laid_math_bits_deBruijn64tab), ("internal/strconv.uint64pow10", laid_internal_strconv_uint64pow10), ("strconv.ErrRange", laid_strconv_ErrRange), ("strconv.ErrSyntax", laid_strconv_ErrSyntax), ("flipbook/command.words", laid_flipbook_command_words)], narrowed := true }
def CommandKeysUptoSaid : Prop := commandKeysUptoRow.holds Tryd.pinned (OpenSpec.upto commandKeysSpec)

end Rows
end Go.Proofs.YtlfndndmegjnlaaDoor
