/-
  DERIVED. GIVEN WITH THE SEED: THE CARDS: each row of YtcfohnfnajfahaaDoorRows.lean that lists a variable, with what it lists TIED to the program's text (the seventh form; the later family's looks); each row that meets fmt, with fmt's text TOLD by the authors' own Lean function (tested against real Go, not proved from fmt's source: count such statements apart). THE CARD IS WHAT COUNTS. Prove the row's statement (the work); the ties are given (YtcfohnfnajfahaaDoorTie.lean); close each card by the builder's one call (the guide's Derived/Test/ToyasCard.lean, 'card_holds'). Laid BY PROGRAM, IN A SANDBOX (cutbox-door.mjs). By AI agents, Wed Nov 11 2026. No macro, syntax, notation, axiom, sorry.
-/
import Derived.Test.YtcfohnfnajfahaaDoorRows
import GoSem.ClaimSeven
namespace Go.Proofs.YtcfohnfnajfahaaDoor
namespace Rows

/-- THE TIED CARD OF 'flipbooklaw08.CellChanges'. -/
def cellChangesCard : Claim7 := { stood := { row := cellChangesRow, standIns := [], harness := (true, "87e7da82a5aff9f85f46c350668f5d5403c0677621fc0f2ca3cb97238c2733dc"), looks := false }, kinds := [], alts := [], laidByText := true, laidKinds := [.data], laidTests := true, laidLooks := .later }
def CellChangesCardSaid : Prop := Claim7.holds Tryd.pinned (.plain (OpenSpec.ofChange cellChangesSpec)) cellChangesCard

/-- THE TIED CARD OF 'flipbooklaw08.CellStyles'. -/
def cellStylesCard : Claim7 := { stood := { row := cellStylesRow, standIns := [], harness := (true, "87e7da82a5aff9f85f46c350668f5d5403c0677621fc0f2ca3cb97238c2733dc"), looks := false }, kinds := [], alts := [], laidByText := true, laidKinds := [.data], laidTests := true, laidLooks := .later }
def CellStylesCardSaid : Prop := Claim7.holds Tryd.pinned (.plain (OpenSpec.ofChange cellStylesSpec)) cellStylesCard

/-- THE TIED CARD OF 'flipbooklaw08.CellMends'. -/
def cellMendsCard : Claim7 := { stood := { row := cellMendsRow, standIns := [], harness := (true, "87e7da82a5aff9f85f46c350668f5d5403c0677621fc0f2ca3cb97238c2733dc"), looks := false }, kinds := [], alts := [], laidByText := true, laidKinds := [.data], laidTests := true, laidLooks := .later }
def CellMendsCardSaid : Prop := Claim7.holds Tryd.pinned (.plain (OpenSpec.ofChange cellMendsSpec)) cellMendsCard

/-- THE TIED CARD OF 'flipbooklaw08.CellWholes'. -/
def cellWholesCard : Claim7 := { stood := { row := cellWholesRow, standIns := [], harness := (true, "87e7da82a5aff9f85f46c350668f5d5403c0677621fc0f2ca3cb97238c2733dc"), looks := false }, kinds := [], alts := [], laidByText := true, laidKinds := [.data], laidTests := true, laidLooks := .later }
def CellWholesCardSaid : Prop := Claim7.holds Tryd.pinned (.plain (OpenSpec.ofChange cellWholesSpec)) cellWholesCard

/-- THE TIED CARD OF 'flipbooklaw08.CellRights'. -/
def cellRightsCard : Claim7 := { stood := { row := cellRightsRow, standIns := [], harness := (true, "87e7da82a5aff9f85f46c350668f5d5403c0677621fc0f2ca3cb97238c2733dc"), looks := false }, kinds := [], alts := [], laidByText := true, laidKinds := [.data], laidTests := true, laidLooks := .later }
def CellRightsCardSaid : Prop := Claim7.holds Tryd.pinned (.plain (OpenSpec.ofChange cellRightsSpec)) cellRightsCard

/-- THE TIED CARD OF 'flipbooklaw09.GridTexts'. -/
def gridTextsCard : Claim7 := { stood := { row := gridTextsRow, standIns := [], harness := (true, "87e7da82a5aff9f85f46c350668f5d5403c0677621fc0f2ca3cb97238c2733dc"), looks := false }, kinds := [], alts := [], laidByText := true, laidKinds := [.data], laidTests := true, laidLooks := .later }
def GridTextsCardSaid : Prop := Claim7.holds Tryd.pinned (.plain (OpenSpec.ofChange gridTextsSpec)) gridTextsCard

/-- THE TIED CARD OF 'flipbooklaw09.GridLines'. -/
def gridLinesCard : Claim7 := { stood := { row := gridLinesRow, standIns := [], harness := (true, "87e7da82a5aff9f85f46c350668f5d5403c0677621fc0f2ca3cb97238c2733dc"), looks := false }, kinds := [], alts := [], laidByText := true, laidKinds := [.data], laidTests := true, laidLooks := .later }
def GridLinesCardSaid : Prop := Claim7.holds Tryd.pinned (.plain (OpenSpec.ofChange gridLinesSpec)) gridLinesCard

/-- THE TIED CARD OF 'flipbooklaw08.CellAny'. -/
def cellAnyCard : Claim7 := { stood := { row := cellAnyRow, standIns := [], harness := (true, "87e7da82a5aff9f85f46c350668f5d5403c0677621fc0f2ca3cb97238c2733dc"), looks := false }, kinds := [], alts := [], laidByText := true, laidKinds := [.data], laidTests := true, laidLooks := .later }
def CellAnyCardSaid : Prop := Claim7.holds Tryd.pinned (.plain (OpenSpec.ofChange cellAnySpec)) cellAnyCard

/-- THE TIED CARD OF 'flipbooklaw09.GridFits'. -/
def gridFitsCard : Claim7 := { stood := { row := gridFitsRow, standIns := [], harness := (true, "87e7da82a5aff9f85f46c350668f5d5403c0677621fc0f2ca3cb97238c2733dc"), looks := false }, kinds := [], alts := [], laidByText := true, laidKinds := [.data], laidTests := true, laidLooks := .later }
def GridFitsCardSaid : Prop := Claim7.holds Tryd.pinned (.plain (OpenSpec.ofChange gridFitsSpec)) gridFitsCard

/-- THE TIED CARD OF 'flipbooklaw08.CellLines'. -/
def cellLinesCard : Claim7 := { stood := { row := cellLinesRow, standIns := [], harness := (true, "87e7da82a5aff9f85f46c350668f5d5403c0677621fc0f2ca3cb97238c2733dc"), looks := false }, kinds := [], alts := [], laidByText := true, laidKinds := [.data], laidTests := true, laidLooks := .later }
def CellLinesCardSaid : Prop := Claim7.holds Tryd.pinned (.plain (OpenSpec.ofChange cellLinesSpec)) cellLinesCard

/-- THE TIED CARD OF 'flipbooklaw09.GridSizes'. -/
def gridSizesCard : Claim7 := { stood := { row := gridSizesRow, standIns := [], harness := (true, "87e7da82a5aff9f85f46c350668f5d5403c0677621fc0f2ca3cb97238c2733dc"), looks := false }, kinds := [], alts := [], laidByText := true, laidKinds := [.data], laidTests := true, laidLooks := .later }
def GridSizesCardSaid : Prop := Claim7.holds Tryd.pinned (.plain (OpenSpec.ofChange gridSizesSpec)) gridSizesCard

/-- THE TIED CARD OF 'flipbooklaw09.GridWholes'. -/
def gridWholesCard : Claim7 := { stood := { row := gridWholesRow, standIns := [], harness := (true, "87e7da82a5aff9f85f46c350668f5d5403c0677621fc0f2ca3cb97238c2733dc"), looks := false }, kinds := [], alts := [], laidByText := true, laidKinds := [.data], laidTests := true, laidLooks := .later }
def GridWholesCardSaid : Prop := Claim7.holds Tryd.pinned (.plain (OpenSpec.ofChange gridWholesSpec)) gridWholesCard

/-- THE TIED CARD OF 'flipbooklaw09.GridRuns'. -/
def gridRunsCard : Claim7 := { stood := { row := gridRunsRow, standIns := [], harness := (true, "87e7da82a5aff9f85f46c350668f5d5403c0677621fc0f2ca3cb97238c2733dc"), looks := false }, kinds := [], alts := [], laidByText := true, laidKinds := [.data], laidTests := true, laidLooks := .later }
def GridRunsCardSaid : Prop := Claim7.holds Tryd.pinned (.plain (OpenSpec.ofChange gridRunsSpec)) gridRunsCard

/-- THE TIED CARD OF 'flipbooklaw09.GridCopies'. -/
def gridCopiesCard : Claim7 := { stood := { row := gridCopiesRow, standIns := [], harness := (true, "87e7da82a5aff9f85f46c350668f5d5403c0677621fc0f2ca3cb97238c2733dc"), looks := false }, kinds := [], alts := [], laidByText := true, laidKinds := [.data], laidTests := true, laidLooks := .later }
def GridCopiesCardSaid : Prop := Claim7.holds Tryd.pinned (.plain (OpenSpec.ofChange gridCopiesSpec)) gridCopiesCard

/-- THE SECOND FORM's CARD OF 'flipbooklaw08.CellChanges'. -/
def cellChangesUptoCard : Claim7 := { stood := { row := cellChangesUptoRow, standIns := [], harness := (true, "87e7da82a5aff9f85f46c350668f5d5403c0677621fc0f2ca3cb97238c2733dc"), looks := false }, kinds := [], alts := [], laidByText := true, laidKinds := [.data], laidTests := true, laidLooks := .later }
def CellChangesUptoCardSaid : Prop := Claim7.holds Tryd.pinned (.plain (OpenSpec.upto cellChangesSpec)) cellChangesUptoCard

/-- THE SECOND FORM's CARD OF 'flipbooklaw08.CellStyles'. -/
def cellStylesUptoCard : Claim7 := { stood := { row := cellStylesUptoRow, standIns := [], harness := (true, "87e7da82a5aff9f85f46c350668f5d5403c0677621fc0f2ca3cb97238c2733dc"), looks := false }, kinds := [], alts := [], laidByText := true, laidKinds := [.data], laidTests := true, laidLooks := .later }
def CellStylesUptoCardSaid : Prop := Claim7.holds Tryd.pinned (.plain (OpenSpec.upto cellStylesSpec)) cellStylesUptoCard

/-- THE SECOND FORM's CARD OF 'flipbooklaw08.CellMends'. -/
def cellMendsUptoCard : Claim7 := { stood := { row := cellMendsUptoRow, standIns := [], harness := (true, "87e7da82a5aff9f85f46c350668f5d5403c0677621fc0f2ca3cb97238c2733dc"), looks := false }, kinds := [], alts := [], laidByText := true, laidKinds := [.data], laidTests := true, laidLooks := .later }
def CellMendsUptoCardSaid : Prop := Claim7.holds Tryd.pinned (.plain (OpenSpec.upto cellMendsSpec)) cellMendsUptoCard

/-- THE SECOND FORM's CARD OF 'flipbooklaw08.CellWholes'. -/
def cellWholesUptoCard : Claim7 := { stood := { row := cellWholesUptoRow, standIns := [], harness := (true, "87e7da82a5aff9f85f46c350668f5d5403c0677621fc0f2ca3cb97238c2733dc"), looks := false }, kinds := [], alts := [], laidByText := true, laidKinds := [.data], laidTests := true, laidLooks := .later }
def CellWholesUptoCardSaid : Prop := Claim7.holds Tryd.pinned (.plain (OpenSpec.upto cellWholesSpec)) cellWholesUptoCard

/-- THE SECOND FORM's CARD OF 'flipbooklaw08.CellRights'. -/
def cellRightsUptoCard : Claim7 := { stood := { row := cellRightsUptoRow, standIns := [], harness := (true, "87e7da82a5aff9f85f46c350668f5d5403c0677621fc0f2ca3cb97238c2733dc"), looks := false }, kinds := [], alts := [], laidByText := true, laidKinds := [.data], laidTests := true, laidLooks := .later }
def CellRightsUptoCardSaid : Prop := Claim7.holds Tryd.pinned (.plain (OpenSpec.upto cellRightsSpec)) cellRightsUptoCard

/-- THE SECOND FORM's CARD OF 'flipbooklaw09.GridTexts'. -/
def gridTextsUptoCard : Claim7 := { stood := { row := gridTextsUptoRow, standIns := [], harness := (true, "87e7da82a5aff9f85f46c350668f5d5403c0677621fc0f2ca3cb97238c2733dc"), looks := false }, kinds := [], alts := [], laidByText := true, laidKinds := [.data], laidTests := true, laidLooks := .later }
def GridTextsUptoCardSaid : Prop := Claim7.holds Tryd.pinned (.plain (OpenSpec.upto gridTextsSpec)) gridTextsUptoCard

/-- THE SECOND FORM's CARD OF 'flipbooklaw09.GridLines'. -/
def gridLinesUptoCard : Claim7 := { stood := { row := gridLinesUptoRow, standIns := [], harness := (true, "87e7da82a5aff9f85f46c350668f5d5403c0677621fc0f2ca3cb97238c2733dc"), looks := false }, kinds := [], alts := [], laidByText := true, laidKinds := [.data], laidTests := true, laidLooks := .later }
def GridLinesUptoCardSaid : Prop := Claim7.holds Tryd.pinned (.plain (OpenSpec.upto gridLinesSpec)) gridLinesUptoCard

/-- THE SECOND FORM's CARD OF 'flipbooklaw08.CellAny'. -/
def cellAnyUptoCard : Claim7 := { stood := { row := cellAnyUptoRow, standIns := [], harness := (true, "87e7da82a5aff9f85f46c350668f5d5403c0677621fc0f2ca3cb97238c2733dc"), looks := false }, kinds := [], alts := [], laidByText := true, laidKinds := [.data], laidTests := true, laidLooks := .later }
def CellAnyUptoCardSaid : Prop := Claim7.holds Tryd.pinned (.plain (OpenSpec.upto cellAnySpec)) cellAnyUptoCard

/-- THE SECOND FORM's CARD OF 'flipbooklaw09.GridFits'. -/
def gridFitsUptoCard : Claim7 := { stood := { row := gridFitsUptoRow, standIns := [], harness := (true, "87e7da82a5aff9f85f46c350668f5d5403c0677621fc0f2ca3cb97238c2733dc"), looks := false }, kinds := [], alts := [], laidByText := true, laidKinds := [.data], laidTests := true, laidLooks := .later }
def GridFitsUptoCardSaid : Prop := Claim7.holds Tryd.pinned (.plain (OpenSpec.upto gridFitsSpec)) gridFitsUptoCard

/-- THE SECOND FORM's CARD OF 'flipbooklaw08.CellLines'. -/
def cellLinesUptoCard : Claim7 := { stood := { row := cellLinesUptoRow, standIns := [], harness := (true, "87e7da82a5aff9f85f46c350668f5d5403c0677621fc0f2ca3cb97238c2733dc"), looks := false }, kinds := [], alts := [], laidByText := true, laidKinds := [.data], laidTests := true, laidLooks := .later }
def CellLinesUptoCardSaid : Prop := Claim7.holds Tryd.pinned (.plain (OpenSpec.upto cellLinesSpec)) cellLinesUptoCard

/-- THE SECOND FORM's CARD OF 'flipbooklaw09.GridSizes'. -/
def gridSizesUptoCard : Claim7 := { stood := { row := gridSizesUptoRow, standIns := [], harness := (true, "87e7da82a5aff9f85f46c350668f5d5403c0677621fc0f2ca3cb97238c2733dc"), looks := false }, kinds := [], alts := [], laidByText := true, laidKinds := [.data], laidTests := true, laidLooks := .later }
def GridSizesUptoCardSaid : Prop := Claim7.holds Tryd.pinned (.plain (OpenSpec.upto gridSizesSpec)) gridSizesUptoCard

/-- THE SECOND FORM's CARD OF 'flipbooklaw09.GridWholes'. -/
def gridWholesUptoCard : Claim7 := { stood := { row := gridWholesUptoRow, standIns := [], harness := (true, "87e7da82a5aff9f85f46c350668f5d5403c0677621fc0f2ca3cb97238c2733dc"), looks := false }, kinds := [], alts := [], laidByText := true, laidKinds := [.data], laidTests := true, laidLooks := .later }
def GridWholesUptoCardSaid : Prop := Claim7.holds Tryd.pinned (.plain (OpenSpec.upto gridWholesSpec)) gridWholesUptoCard

/-- THE SECOND FORM's CARD OF 'flipbooklaw09.GridRuns'. -/
def gridRunsUptoCard : Claim7 := { stood := { row := gridRunsUptoRow, standIns := [], harness := (true, "87e7da82a5aff9f85f46c350668f5d5403c0677621fc0f2ca3cb97238c2733dc"), looks := false }, kinds := [], alts := [], laidByText := true, laidKinds := [.data], laidTests := true, laidLooks := .later }
def GridRunsUptoCardSaid : Prop := Claim7.holds Tryd.pinned (.plain (OpenSpec.upto gridRunsSpec)) gridRunsUptoCard

/-- THE SECOND FORM's CARD OF 'flipbooklaw09.GridCopies'. -/
def gridCopiesUptoCard : Claim7 := { stood := { row := gridCopiesUptoRow, standIns := [], harness := (true, "87e7da82a5aff9f85f46c350668f5d5403c0677621fc0f2ca3cb97238c2733dc"), looks := false }, kinds := [], alts := [], laidByText := true, laidKinds := [.data], laidTests := true, laidLooks := .later }
def GridCopiesUptoCardSaid : Prop := Claim7.holds Tryd.pinned (.plain (OpenSpec.upto gridCopiesSpec)) gridCopiesUptoCard
end Rows
end Go.Proofs.YtcfohnfnajfahaaDoor
