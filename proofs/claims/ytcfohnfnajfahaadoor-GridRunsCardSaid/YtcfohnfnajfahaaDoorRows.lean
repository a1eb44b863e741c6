/-
  NARROWER THAN 'FOR EVERY INPUT', by the rows' own cells (each row's printed sentence says how): CellChanges: laid · CellStyles: laid · CellMends: laid · CellWholes: laid · CellRights: laid · GridTexts: laid · GridLines: laid · CellAny: laid · GridFits: laid · CellLines: laid · GridSizes: laid · GridWholes: laid · GridRuns: laid · GridCopies: laid.
  DERIVED. THE GIVEN ROWS OF THIS SEAT. 14 by the template 'for every input the law returns true; each argument reads behind the call as it read before'; 0 by the template 'total and deterministic' (their statements: YtcfohnfnajfahaaDoorTotals.lean).
  GIVEN WITH THE SEED: the statements are not yours to turn. If you find one false, say at which input.
  Laid BY PROGRAM, IN A SANDBOX (cutbox-rows.mjs): the forced cells as the released guide's own fill.sh prints them over the translation 47296a4ea72ebaf4… (all of the seat's roots in one cut). By AI agents, Wed Nov 11 2026. No macro, syntax, notation, axiom, sorry.
-/
import Derived.Test.YtcfohnfnajfahaaDoorChecked
import GoSem.Claim
import GoSem.ClaimJoined
import GoSem.ClaimMapViews
import Derived.JoinedTies
import Derived.KernelRfl
namespace Go.Proofs.YtcfohnfnajfahaaDoor
/- THE CELL 'sum', in the pinned program and in every row, IS THE sha256 OF THE DUMP (.gsa) THAT YtcfohnfnajfahaaDoorProg.lean LOADS. Nothing in Lean hashes anything: it is a label: what it is worth is what the hold of that sum in a sandbox is worth. -/
noncomputable def Tryd.pinned : Pinned := { name := "ytcfohnfnajfahaadoor", sum := "47296a4ea72ebaf423e5bc1d38ab8104345546338d70e73b85f8972c4c093c6b", checked := Tryd.checked }
namespace Rows
def none {H : Type} : Left H := { results := [], args := [] }

/- WHAT THE LISTED PACKAGE-LEVEL VARIABLES READ AS WHEN THE CALL BEGINS. Each datum BY PROGRAM (the guide's laid-datum.mjs) off the statement by which the dump's own 'gosem.cut.vars' lays the variable. In a bare row this is a premise. The card (YtcfohnfnajfahaaDoorCards.lean) ties it to the program's text. -/
def laid_flipbook_glyph_wide {H : Type} : DataW H := .agg [.lit (.int .i32 4352), .lit (.int .i32 4447), .lit (.int .i32 11904), .lit (.int .i32 42191), .lit (.int .i32 44032), .lit (.int .i32 55203), .lit (.int .i32 63744), .lit (.int .i32 64255), .lit (.int .i32 65072), .lit (.int .i32 65135), .lit (.int .i32 65280), .lit (.int .i32 65376), .lit (.int .i32 65504), .lit (.int .i32 65510), .lit (.int .i32 127744), .lit (.int .i32 128591), .lit (.int .i32 131072), .lit (.int .i32 262141)]

/-- 'flipbooklaw08.CellChanges': WHATEVER THE INPUT: true; the input reads as it did. -/
def cellChangesSpec : ChangeSpec := { name := "cellChanges", fn := fun _ => fun
  | [d1, d2, d3] => { results := [.lit (.bool true)], args := [d1, d2, d3] }
  | _ => none }
def cellChangesRow : OpenClaim := { program := "ytcfohnfnajfahaadoor", sum := "47296a4ea72ebaf423e5bc1d38ab8104345546338d70e73b85f8972c4c093c6b", func := "flipbook/flipbooklaw08.CellChanges", spec := "cellChanges", named := ["flipbook/glyph.wide"], apart := false, laid := [("flipbook/glyph.wide", laid_flipbook_glyph_wide)] }
def CellChangesSaid : Prop := cellChangesRow.holds Tryd.pinned (OpenSpec.ofChange cellChangesSpec)

/-- ITS FALSE NEIGHBOUR: 'it returns false'. Refute it at one input. -/
def cellChangesWrong : ChangeSpec := { name := "cellChanges", fn := fun _ => fun
  | [d1, d2, d3] => { results := [.lit (.bool false)], args := [d1, d2, d3] }
  | _ => none }
def CellChangesWrongFalsely : Prop := cellChangesRow.holds Tryd.pinned (OpenSpec.ofChange cellChangesWrong)

/-- 'flipbooklaw08.CellStyles': WHATEVER THE INPUT: true; the input reads as it did. -/
def cellStylesSpec : ChangeSpec := { name := "cellStyles", fn := fun _ => fun
  | [d1, d2, d3] => { results := [.lit (.bool true)], args := [d1, d2, d3] }
  | _ => none }
def cellStylesRow : OpenClaim := { program := "ytcfohnfnajfahaadoor", sum := "47296a4ea72ebaf423e5bc1d38ab8104345546338d70e73b85f8972c4c093c6b", func := "flipbook/flipbooklaw08.CellStyles", spec := "cellStyles", named := ["flipbook/glyph.wide"], apart := false, laid := [("flipbook/glyph.wide", laid_flipbook_glyph_wide)] }
def CellStylesSaid : Prop := cellStylesRow.holds Tryd.pinned (OpenSpec.ofChange cellStylesSpec)

/-- ITS FALSE NEIGHBOUR: 'it returns false'. Refute it at one input. -/
def cellStylesWrong : ChangeSpec := { name := "cellStyles", fn := fun _ => fun
  | [d1, d2, d3] => { results := [.lit (.bool false)], args := [d1, d2, d3] }
  | _ => none }
def CellStylesWrongFalsely : Prop := cellStylesRow.holds Tryd.pinned (OpenSpec.ofChange cellStylesWrong)

/-- 'flipbooklaw08.CellMends': WHATEVER THE INPUT: true; the input reads as it did. -/
def cellMendsSpec : ChangeSpec := { name := "cellMends", fn := fun _ => fun
  | [d] => { results := [.lit (.bool true)], args := [d] }
  | _ => none }
def cellMendsRow : OpenClaim := { program := "ytcfohnfnajfahaadoor", sum := "47296a4ea72ebaf423e5bc1d38ab8104345546338d70e73b85f8972c4c093c6b", func := "flipbook/flipbooklaw08.CellMends", spec := "cellMends", named := ["flipbook/glyph.wide"], apart := false, laid := [("flipbook/glyph.wide", laid_flipbook_glyph_wide)] }
def CellMendsSaid : Prop := cellMendsRow.holds Tryd.pinned (OpenSpec.ofChange cellMendsSpec)

/-- ITS FALSE NEIGHBOUR: 'it returns false'. Refute it at one input. -/
def cellMendsWrong : ChangeSpec := { name := "cellMends", fn := fun _ => fun
  | [d] => { results := [.lit (.bool false)], args := [d] }
  | _ => none }
def CellMendsWrongFalsely : Prop := cellMendsRow.holds Tryd.pinned (OpenSpec.ofChange cellMendsWrong)

/-- 'flipbooklaw08.CellWholes': WHATEVER THE INPUT: true; the input reads as it did. -/
def cellWholesSpec : ChangeSpec := { name := "cellWholes", fn := fun _ => fun
  | [d] => { results := [.lit (.bool true)], args := [d] }
  | _ => none }
def cellWholesRow : OpenClaim := { program := "ytcfohnfnajfahaadoor", sum := "47296a4ea72ebaf423e5bc1d38ab8104345546338d70e73b85f8972c4c093c6b", func := "flipbook/flipbooklaw08.CellWholes", spec := "cellWholes", named := ["flipbook/glyph.wide"], apart := false, laid := [("flipbook/glyph.wide", laid_flipbook_glyph_wide)] }
def CellWholesSaid : Prop := cellWholesRow.holds Tryd.pinned (OpenSpec.ofChange cellWholesSpec)

/-- ITS FALSE NEIGHBOUR: 'it returns false'. Refute it at one input. -/
def cellWholesWrong : ChangeSpec := { name := "cellWholes", fn := fun _ => fun
  | [d] => { results := [.lit (.bool false)], args := [d] }
  | _ => none }
def CellWholesWrongFalsely : Prop := cellWholesRow.holds Tryd.pinned (OpenSpec.ofChange cellWholesWrong)

/-- 'flipbooklaw08.CellRights': WHATEVER THE INPUT: true; the input reads as it did. -/
def cellRightsSpec : ChangeSpec := { name := "cellRights", fn := fun _ => fun
  | [d1, d2] => { results := [.lit (.bool true)], args := [d1, d2] }
  | _ => none }
def cellRightsRow : OpenClaim := { program := "ytcfohnfnajfahaadoor", sum := "47296a4ea72ebaf423e5bc1d38ab8104345546338d70e73b85f8972c4c093c6b", func := "flipbook/flipbooklaw08.CellRights", spec := "cellRights", named := ["flipbook/glyph.wide"], apart := false, laid := [("flipbook/glyph.wide", laid_flipbook_glyph_wide)] }
def CellRightsSaid : Prop := cellRightsRow.holds Tryd.pinned (OpenSpec.ofChange cellRightsSpec)

/-- ITS FALSE NEIGHBOUR: 'it returns false'. Refute it at one input. -/
def cellRightsWrong : ChangeSpec := { name := "cellRights", fn := fun _ => fun
  | [d1, d2] => { results := [.lit (.bool false)], args := [d1, d2] }
  | _ => none }
def CellRightsWrongFalsely : Prop := cellRightsRow.holds Tryd.pinned (OpenSpec.ofChange cellRightsWrong)

/-- 'flipbooklaw09.GridTexts': WHATEVER THE INPUT: true; the input reads as it did. -/
def gridTextsSpec : ChangeSpec := { name := "gridTexts", fn := fun _ => fun
  | [d1, d2, d3] => { results := [.lit (.bool true)], args := [d1, d2, d3] }
  | _ => none }
def gridTextsRow : OpenClaim := { program := "ytcfohnfnajfahaadoor", sum := "47296a4ea72ebaf423e5bc1d38ab8104345546338d70e73b85f8972c4c093c6b", func := "flipbook/flipbooklaw09.GridTexts", spec := "gridTexts", named := ["flipbook/glyph.wide"], apart := false, laid := [("flipbook/glyph.wide", laid_flipbook_glyph_wide)] }
def GridTextsSaid : Prop := gridTextsRow.holds Tryd.pinned (OpenSpec.ofChange gridTextsSpec)

/-- ITS FALSE NEIGHBOUR: 'it returns false'. Refute it at one input. -/
def gridTextsWrong : ChangeSpec := { name := "gridTexts", fn := fun _ => fun
  | [d1, d2, d3] => { results := [.lit (.bool false)], args := [d1, d2, d3] }
  | _ => none }
def GridTextsWrongFalsely : Prop := gridTextsRow.holds Tryd.pinned (OpenSpec.ofChange gridTextsWrong)

/-- 'flipbooklaw09.GridLines': WHATEVER THE INPUT: true; the input reads as it did. -/
def gridLinesSpec : ChangeSpec := { name := "gridLines", fn := fun _ => fun
  | [d1, d2, d3] => { results := [.lit (.bool true)], args := [d1, d2, d3] }
  | _ => none }
def gridLinesRow : OpenClaim := { program := "ytcfohnfnajfahaadoor", sum := "47296a4ea72ebaf423e5bc1d38ab8104345546338d70e73b85f8972c4c093c6b", func := "flipbook/flipbooklaw09.GridLines", spec := "gridLines", named := ["flipbook/glyph.wide"], apart := false, laid := [("flipbook/glyph.wide", laid_flipbook_glyph_wide)] }
def GridLinesSaid : Prop := gridLinesRow.holds Tryd.pinned (OpenSpec.ofChange gridLinesSpec)

/-- ITS FALSE NEIGHBOUR: 'it returns false'. Refute it at one input. -/
def gridLinesWrong : ChangeSpec := { name := "gridLines", fn := fun _ => fun
  | [d1, d2, d3] => { results := [.lit (.bool false)], args := [d1, d2, d3] }
  | _ => none }
def GridLinesWrongFalsely : Prop := gridLinesRow.holds Tryd.pinned (OpenSpec.ofChange gridLinesWrong)

/-- 'flipbooklaw08.CellAny': WHATEVER THE INPUT: true; the input reads as it did. -/
def cellAnySpec : ChangeSpec := { name := "cellAny", fn := fun _ => fun
  | [d1, d2] => { results := [.lit (.bool true)], args := [d1, d2] }
  | _ => none }
def cellAnyRow : OpenClaim := { program := "ytcfohnfnajfahaadoor", sum := "47296a4ea72ebaf423e5bc1d38ab8104345546338d70e73b85f8972c4c093c6b", func := "flipbook/flipbooklaw08.CellAny", spec := "cellAny", named := ["flipbook/glyph.wide"], apart := false, laid := [("flipbook/glyph.wide", laid_flipbook_glyph_wide)] }
def CellAnySaid : Prop := cellAnyRow.holds Tryd.pinned (OpenSpec.ofChange cellAnySpec)

/-- ITS FALSE NEIGHBOUR: 'it returns false'. Refute it at one input. -/
def cellAnyWrong : ChangeSpec := { name := "cellAny", fn := fun _ => fun
  | [d1, d2] => { results := [.lit (.bool false)], args := [d1, d2] }
  | _ => none }
def CellAnyWrongFalsely : Prop := cellAnyRow.holds Tryd.pinned (OpenSpec.ofChange cellAnyWrong)

/-- 'flipbooklaw09.GridFits': WHATEVER THE INPUT: true; the input reads as it did. -/
def gridFitsSpec : ChangeSpec := { name := "gridFits", fn := fun _ => fun
  | [d1, d2] => { results := [.lit (.bool true)], args := [d1, d2] }
  | _ => none }
def gridFitsRow : OpenClaim := { program := "ytcfohnfnajfahaadoor", sum := "47296a4ea72ebaf423e5bc1d38ab8104345546338d70e73b85f8972c4c093c6b", func := "flipbook/flipbooklaw09.GridFits", spec := "gridFits", named := ["flipbook/glyph.wide"], apart := false, laid := [("flipbook/glyph.wide", laid_flipbook_glyph_wide)] }
def GridFitsSaid : Prop := gridFitsRow.holds Tryd.pinned (OpenSpec.ofChange gridFitsSpec)

/-- ITS FALSE NEIGHBOUR: 'it returns false'. Refute it at one input. -/
def gridFitsWrong : ChangeSpec := { name := "gridFits", fn := fun _ => fun
  | [d1, d2] => { results := [.lit (.bool false)], args := [d1, d2] }
  | _ => none }
def GridFitsWrongFalsely : Prop := gridFitsRow.holds Tryd.pinned (OpenSpec.ofChange gridFitsWrong)

/-- 'flipbooklaw08.CellLines': WHATEVER THE INPUT: true; the input reads as it did. -/
def cellLinesSpec : ChangeSpec := { name := "cellLines", fn := fun _ => fun
  | [d1, d2] => { results := [.lit (.bool true)], args := [d1, d2] }
  | _ => none }
def cellLinesRow : OpenClaim := { program := "ytcfohnfnajfahaadoor", sum := "47296a4ea72ebaf423e5bc1d38ab8104345546338d70e73b85f8972c4c093c6b", func := "flipbook/flipbooklaw08.CellLines", spec := "cellLines", named := ["flipbook/glyph.wide"], apart := false, laid := [("flipbook/glyph.wide", laid_flipbook_glyph_wide)] }
def CellLinesSaid : Prop := cellLinesRow.holds Tryd.pinned (OpenSpec.ofChange cellLinesSpec)

/-- ITS FALSE NEIGHBOUR: 'it returns false'. Refute it at one input. -/
def cellLinesWrong : ChangeSpec := { name := "cellLines", fn := fun _ => fun
  | [d1, d2] => { results := [.lit (.bool false)], args := [d1, d2] }
  | _ => none }
def CellLinesWrongFalsely : Prop := cellLinesRow.holds Tryd.pinned (OpenSpec.ofChange cellLinesWrong)

/-- 'flipbooklaw09.GridSizes': WHATEVER THE INPUT: true; the input reads as it did. -/
def gridSizesSpec : ChangeSpec := { name := "gridSizes", fn := fun _ => fun
  | [d1, d2, d3] => { results := [.lit (.bool true)], args := [d1, d2, d3] }
  | _ => none }
def gridSizesRow : OpenClaim := { program := "ytcfohnfnajfahaadoor", sum := "47296a4ea72ebaf423e5bc1d38ab8104345546338d70e73b85f8972c4c093c6b", func := "flipbook/flipbooklaw09.GridSizes", spec := "gridSizes", named := ["flipbook/glyph.wide"], apart := false, laid := [("flipbook/glyph.wide", laid_flipbook_glyph_wide)] }
def GridSizesSaid : Prop := gridSizesRow.holds Tryd.pinned (OpenSpec.ofChange gridSizesSpec)

/-- ITS FALSE NEIGHBOUR: 'it returns false'. Refute it at one input. -/
def gridSizesWrong : ChangeSpec := { name := "gridSizes", fn := fun _ => fun
  | [d1, d2, d3] => { results := [.lit (.bool false)], args := [d1, d2, d3] }
  | _ => none }
def GridSizesWrongFalsely : Prop := gridSizesRow.holds Tryd.pinned (OpenSpec.ofChange gridSizesWrong)

/-- 'flipbooklaw09.GridWholes': WHATEVER THE INPUT: true; the input reads as it did. -/
def gridWholesSpec : ChangeSpec := { name := "gridWholes", fn := fun _ => fun
  | [d1, d2, d3] => { results := [.lit (.bool true)], args := [d1, d2, d3] }
  | _ => none }
def gridWholesRow : OpenClaim := { program := "ytcfohnfnajfahaadoor", sum := "47296a4ea72ebaf423e5bc1d38ab8104345546338d70e73b85f8972c4c093c6b", func := "flipbook/flipbooklaw09.GridWholes", spec := "gridWholes", named := ["flipbook/glyph.wide"], apart := false, laid := [("flipbook/glyph.wide", laid_flipbook_glyph_wide)] }
def GridWholesSaid : Prop := gridWholesRow.holds Tryd.pinned (OpenSpec.ofChange gridWholesSpec)

/-- ITS FALSE NEIGHBOUR: 'it returns false'. Refute it at one input. -/
def gridWholesWrong : ChangeSpec := { name := "gridWholes", fn := fun _ => fun
  | [d1, d2, d3] => { results := [.lit (.bool false)], args := [d1, d2, d3] }
  | _ => none }
def GridWholesWrongFalsely : Prop := gridWholesRow.holds Tryd.pinned (OpenSpec.ofChange gridWholesWrong)

/-- 'flipbooklaw09.GridRuns': WHATEVER THE INPUT: true; the input reads as it did. -/
def gridRunsSpec : ChangeSpec := { name := "gridRuns", fn := fun _ => fun
  | [d1, d2, d3] => { results := [.lit (.bool true)], args := [d1, d2, d3] }
  | _ => none }
def gridRunsRow : OpenClaim := { program := "ytcfohnfnajfahaadoor", sum := "47296a4ea72ebaf423e5bc1d38ab8104345546338d70e73b85f8972c4c093c6b", func := "flipbook/flipbooklaw09.GridRuns", spec := "gridRuns", named := ["flipbook/glyph.wide"], apart := false, laid := [("flipbook/glyph.wide", laid_flipbook_glyph_wide)] }
def GridRunsSaid : Prop := gridRunsRow.holds Tryd.pinned (OpenSpec.ofChange gridRunsSpec)

/-- ITS FALSE NEIGHBOUR: 'it returns false'. Refute it at one input. -/
def gridRunsWrong : ChangeSpec := { name := "gridRuns", fn := fun _ => fun
  | [d1, d2, d3] => { results := [.lit (.bool false)], args := [d1, d2, d3] }
  | _ => none }
def GridRunsWrongFalsely : Prop := gridRunsRow.holds Tryd.pinned (OpenSpec.ofChange gridRunsWrong)

/-- 'flipbooklaw09.GridCopies': WHATEVER THE INPUT: true; the input reads as it did. -/
def gridCopiesSpec : ChangeSpec := { name := "gridCopies", fn := fun _ => fun
  | [d1, d2, d3] => { results := [.lit (.bool true)], args := [d1, d2, d3] }
  | _ => none }
def gridCopiesRow : OpenClaim := { program := "ytcfohnfnajfahaadoor", sum := "47296a4ea72ebaf423e5bc1d38ab8104345546338d70e73b85f8972c4c093c6b", func := "flipbook/flipbooklaw09.GridCopies", spec := "gridCopies", named := ["flipbook/glyph.wide"], apart := false, laid := [("flipbook/glyph.wide", laid_flipbook_glyph_wide)] }
def GridCopiesSaid : Prop := gridCopiesRow.holds Tryd.pinned (OpenSpec.ofChange gridCopiesSpec)

/-- ITS FALSE NEIGHBOUR: 'it returns false'. Refute it at one input. -/
def gridCopiesWrong : ChangeSpec := { name := "gridCopies", fn := fun _ => fun
  | [d1, d2, d3] => { results := [.lit (.bool false)], args := [d1, d2, d3] }
  | _ => none }
def GridCopiesWrongFalsely : Prop := gridCopiesRow.holds Tryd.pinned (OpenSpec.ofChange gridCopiesWrong)

/- THE SECOND FORM. 'bulk': how many values and letters a reading holds, each counted each time it is reached (what is shared counts as often as it is met; a slice's spare places count too). A statement '..UptoSaid' is the law's where the arguments, and the package variables that the reading takes, are together of bulk at most 1048576: NARROWER than '..Said'. Prove '..Said' where nothing that the law and all that it calls make is longer than what came in: it says more and counts as full. Else prove '..UptoSaid'. A law counts once. -/
mutual
def uptoBulk {H : Type} : DataW H → Nat
  | .lit (.string bytes) => bytes.length + 1
  | .lit _ => 1
  | .nil => 1
  | .ptr d => uptoBulk d + 1
  | .slice elems spare => uptoBulkAll elems + uptoBulkAll spare + 1
  | .agg parts => uptoBulkAll parts + 1
  | .iface _ d => uptoBulk d + 1
  | .map entries => uptoBulkEntries entries + 1
  | .held _ => 1
def uptoBulkAll {H : Type} : List (DataW H) → Nat
  | [] => 0
  | d :: r => uptoBulk d + uptoBulkAll r
def uptoBulkEntries {H : Type} : List (Lit × DataW H) → Nat
  | [] => 0
  | x :: r => uptoBulkEntry x + uptoBulkEntries r
def uptoBulkEntry {H : Type} : Lit × DataW H → Nat
  | (.string bytes, d) => bytes.length + uptoBulk d + 1
  | (_, d) => uptoBulk d + 1
 end
def uptoSmall : (H : Type) → List (DataW H) → Bool := fun _ ds => decide (uptoBulkAll ds ≤ 1048576)
def OpenSpec.upto (s : _root_.Go.ChangeSpec) : _root_.Go.OpenSpec := { _root_.Go.OpenSpec.ofChange s with cond := some uptoSmall }

/-- 'flipbooklaw08.CellChanges', WHERE WHAT IT READS IS OF BULK AT MOST 1048576: true; the input reads as it did. -/
def cellChangesUptoRow : OpenClaim := { program := "ytcfohnfnajfahaadoor", sum := "47296a4ea72ebaf423e5bc1d38ab8104345546338d70e73b85f8972c4c093c6b", func := "flipbook/flipbooklaw08.CellChanges", spec := "cellChanges", named := ["flipbook/glyph.wide"], apart := false, laid := [("flipbook/glyph.wide", laid_flipbook_glyph_wide)], narrowed := true }
def CellChangesUptoSaid : Prop := cellChangesUptoRow.holds Tryd.pinned (OpenSpec.upto cellChangesSpec)

/-- 'flipbooklaw08.CellStyles', WHERE WHAT IT READS IS OF BULK AT MOST 1048576: true; the input reads as it did. -/
def cellStylesUptoRow : OpenClaim := { program := "ytcfohnfnajfahaadoor", sum := "47296a4ea72ebaf423e5bc1d38ab8104345546338d70e73b85f8972c4c093c6b", func := "flipbook/flipbooklaw08.CellStyles", spec := "cellStyles", named := ["flipbook/glyph.wide"], apart := false, laid := [("flipbook/glyph.wide", laid_flipbook_glyph_wide)], narrowed := true }
def CellStylesUptoSaid : Prop := cellStylesUptoRow.holds Tryd.pinned (OpenSpec.upto cellStylesSpec)

/-- 'flipbooklaw08.CellMends', WHERE WHAT IT READS IS OF BULK AT MOST 1048576: true; the input reads as it did. -/
def cellMendsUptoRow : OpenClaim := { program := "ytcfohnfnajfahaadoor", sum := "47296a4ea72ebaf423e5bc1d38ab8104345546338d70e73b85f8972c4c093c6b", func := "flipbook/flipbooklaw08.CellMends", spec := "cellMends", named := ["flipbook/glyph.wide"], apart := false, laid := [("flipbook/glyph.wide", laid_flipbook_glyph_wide)], narrowed := true }
def CellMendsUptoSaid : Prop := cellMendsUptoRow.holds Tryd.pinned (OpenSpec.upto cellMendsSpec)

/-- 'flipbooklaw08.CellWholes', WHERE WHAT IT READS IS OF BULK AT MOST 1048576: true; the input reads as it did. -/
def cellWholesUptoRow : OpenClaim := { program := "ytcfohnfnajfahaadoor", sum := "47296a4ea72ebaf423e5bc1d38ab8104345546338d70e73b85f8972c4c093c6b", func := "flipbook/flipbooklaw08.CellWholes", spec := "cellWholes", named := ["flipbook/glyph.wide"], apart := false, laid := [("flipbook/glyph.wide", laid_flipbook_glyph_wide)], narrowed := true }
def CellWholesUptoSaid : Prop := cellWholesUptoRow.holds Tryd.pinned (OpenSpec.upto cellWholesSpec)

/-- 'flipbooklaw08.CellRights', WHERE WHAT IT READS IS OF BULK AT MOST 1048576: true; the input reads as it did. -/
def cellRightsUptoRow : OpenClaim := { program := "ytcfohnfnajfahaadoor", sum := "47296a4ea72ebaf423e5bc1d38ab8104345546338d70e73b85f8972c4c093c6b", func := "flipbook/flipbooklaw08.CellRights", spec := "cellRights", named := ["flipbook/glyph.wide"], apart := false, laid := [("flipbook/glyph.wide", laid_flipbook_glyph_wide)], narrowed := true }
def CellRightsUptoSaid : Prop := cellRightsUptoRow.holds Tryd.pinned (OpenSpec.upto cellRightsSpec)

/-- 'flipbooklaw09.GridTexts', WHERE WHAT IT READS IS OF BULK AT MOST 1048576: true; the input reads as it did. -/
def gridTextsUptoRow : OpenClaim := { program := "ytcfohnfnajfahaadoor", sum := "47296a4ea72ebaf423e5bc1d38ab8104345546338d70e73b85f8972c4c093c6b", func := "flipbook/flipbooklaw09.GridTexts", spec := "gridTexts", named := ["flipbook/glyph.wide"], apart := false, laid := [("flipbook/glyph.wide", laid_flipbook_glyph_wide)], narrowed := true }
def GridTextsUptoSaid : Prop := gridTextsUptoRow.holds Tryd.pinned (OpenSpec.upto gridTextsSpec)

/-- 'flipbooklaw09.GridLines', WHERE WHAT IT READS IS OF BULK AT MOST 1048576: true; the input reads as it did. -/
def gridLinesUptoRow : OpenClaim := { program := "ytcfohnfnajfahaadoor", sum := "47296a4ea72ebaf423e5bc1d38ab8104345546338d70e73b85f8972c4c093c6b", func := "flipbook/flipbooklaw09.GridLines", spec := "gridLines", named := ["flipbook/glyph.wide"], apart := false, laid := [("flipbook/glyph.wide", laid_flipbook_glyph_wide)], narrowed := true }
def GridLinesUptoSaid : Prop := gridLinesUptoRow.holds Tryd.pinned (OpenSpec.upto gridLinesSpec)

/-- 'flipbooklaw08.CellAny', WHERE WHAT IT READS IS OF BULK AT MOST 1048576: true; the input reads as it did. -/
def cellAnyUptoRow : OpenClaim := { program := "ytcfohnfnajfahaadoor", sum := "47296a4ea72ebaf423e5bc1d38ab8104345546338d70e73b85f8972c4c093c6b", func := "flipbook/flipbooklaw08.CellAny", spec := "cellAny", named := ["flipbook/glyph.wide"], apart := false, laid := [("flipbook/glyph.wide", laid_flipbook_glyph_wide)], narrowed := true }
def CellAnyUptoSaid : Prop := cellAnyUptoRow.holds Tryd.pinned (OpenSpec.upto cellAnySpec)

/-- 'flipbooklaw09.GridFits', WHERE WHAT IT READS IS OF BULK AT MOST 1048576: true; the input reads as it did. -/
def gridFitsUptoRow : OpenClaim := { program := "ytcfohnfnajfahaadoor", sum := "47296a4ea72ebaf423e5bc1d38ab8104345546338d70e73b85f8972c4c093c6b", func := "flipbook/flipbooklaw09.GridFits", spec := "gridFits", named := ["flipbook/glyph.wide"], apart := false, laid := [("flipbook/glyph.wide", laid_flipbook_glyph_wide)], narrowed := true }
def GridFitsUptoSaid : Prop := gridFitsUptoRow.holds Tryd.pinned (OpenSpec.upto gridFitsSpec)

/-- 'flipbooklaw08.CellLines', WHERE WHAT IT READS IS OF BULK AT MOST 1048576: true; the input reads as it did. -/
def cellLinesUptoRow : OpenClaim := { program := "ytcfohnfnajfahaadoor", sum := "47296a4ea72ebaf423e5bc1d38ab8104345546338d70e73b85f8972c4c093c6b", func := "flipbook/flipbooklaw08.CellLines", spec := "cellLines", named := ["flipbook/glyph.wide"], apart := false, laid := [("flipbook/glyph.wide", laid_flipbook_glyph_wide)], narrowed := true }
def CellLinesUptoSaid : Prop := cellLinesUptoRow.holds Tryd.pinned (OpenSpec.upto cellLinesSpec)

/-- 'flipbooklaw09.GridSizes', WHERE WHAT IT READS IS OF BULK AT MOST 1048576: true; the input reads as it did. -/
def gridSizesUptoRow : OpenClaim := { program := "ytcfohnfnajfahaadoor", sum := "47296a4ea72ebaf423e5bc1d38ab8104345546338d70e73b85f8972c4c093c6b", func := "flipbook/flipbooklaw09.GridSizes", spec := "gridSizes", named := ["flipbook/glyph.wide"], apart := false, laid := [("flipbook/glyph.wide", laid_flipbook_glyph_wide)], narrowed := true }
def GridSizesUptoSaid : Prop := gridSizesUptoRow.holds Tryd.pinned (OpenSpec.upto gridSizesSpec)

/-- 'flipbooklaw09.GridWholes', WHERE WHAT IT READS IS OF BULK AT MOST 1048576: true; the input reads as it did. -/
def gridWholesUptoRow : OpenClaim := { program := "ytcfohnfnajfahaadoor", sum := "47296a4ea72ebaf423e5bc1d38ab8104345546338d70e73b85f8972c4c093c6b", func := "flipbook/flipbooklaw09.GridWholes", spec := "gridWholes", named := ["flipbook/glyph.wide"], apart := false, laid := [("flipbook/glyph.wide", laid_flipbook_glyph_wide)], narrowed := true }
def GridWholesUptoSaid : Prop := gridWholesUptoRow.holds Tryd.pinned (OpenSpec.upto gridWholesSpec)

/-- 'flipbooklaw09.GridRuns', WHERE WHAT IT READS IS OF BULK AT MOST 1048576: true; the input reads as it did. -/
def gridRunsUptoRow : OpenClaim := { program := "ytcfohnfnajfahaadoor", sum := "47296a4ea72ebaf423e5bc1d38ab8104345546338d70e73b85f8972c4c093c6b", func := "flipbook/flipbooklaw09.GridRuns", spec := "gridRuns", named := ["flipbook/glyph.wide"], apart := false, laid := [("flipbook/glyph.wide", laid_flipbook_glyph_wide)], narrowed := true }
def GridRunsUptoSaid : Prop := gridRunsUptoRow.holds Tryd.pinned (OpenSpec.upto gridRunsSpec)

/-- 'flipbooklaw09.GridCopies', WHERE WHAT IT READS IS OF BULK AT MOST 1048576: true; the input reads as it did. -/
def gridCopiesUptoRow : OpenClaim := { program := "ytcfohnfnajfahaadoor", sum := "47296a4ea72ebaf423e5bc1d38ab8104345546338d70e73b85f8972c4c093c6b", func := "flipbook/flipbooklaw09.GridCopies", spec := "gridCopies", named := ["flipbook/glyph.wide"], apart := false, laid := [("flipbook/glyph.wide", laid_flipbook_glyph_wide)], narrowed := true }
def GridCopiesUptoSaid : Prop := gridCopiesUptoRow.holds Tryd.pinned (OpenSpec.upto gridCopiesSpec)

end Rows
end Go.Proofs.YtcfohnfnajfahaaDoor
