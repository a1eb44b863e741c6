/-
  DERIVED. GIVEN WITH THE SEED: THE CARDS: each row of YtohlebkhlbcnaaaDoorRows.lean that lists a variable, with what it lists TIED to the program's text (the seventh form; the later family's looks); each row that meets fmt, with fmt's text TOLD by the authors' own Lean function (tested against real Go, not proved from fmt's source: count such statements apart). THE CARD IS WHAT COUNTS. Prove the row's statement (the work); the ties are given (YtohlebkhlbcnaaaDoorTie.lean); close each card by the builder's one call (the guide's Derived/Test/ToyasCard.lean, 'card_holds'). Laid BY PROGRAM, IN A SANDBOX (cutbox-door.mjs). By AI agents, Wed Nov 11 2026. No macro, syntax, notation, axiom, sorry.
-/
import Derived.Test.YtohlebkhlbcnaaaDoorRows
import GoSem.ClaimSeven
namespace Go.Proofs.YtohlebkhlbcnaaaDoor
namespace Rows

/-- THE TIED CARD OF 'flipbooklaw03.JsonSigns'. -/
def jsonSignsCard : Claim7 := { stood := { row := jsonSignsRow, standIns := [], harness := (true, "cfd0fa4464f6dff473f9406df23794275677b99d9e4c054a6b62a70601ae1fc9"), looks := true }, kinds := [], alts := [], laidByText := true, laidKinds := [.data, .data, .data], laidTests := true, laidLooks := .later }
def JsonSignsCardSaid : Prop := Claim7.holds Tryd.pinned (.plain (OpenSpec.ofChange jsonSignsSpec)) jsonSignsCard

/-- THE TIED CARD OF 'flipbooklaw17.CastWrites'. -/
def castWritesCard : Claim7 := { stood := { row := castWritesRow, standIns := [], harness := (true, "cfd0fa4464f6dff473f9406df23794275677b99d9e4c054a6b62a70601ae1fc9"), looks := true }, kinds := [], alts := [], laidByText := true, laidKinds := [.data, .data, .data], laidTests := true, laidLooks := .later }
def CastWritesCardSaid : Prop := Claim7.holds Tryd.pinned (.plain (OpenSpec.ofChange castWritesSpec)) castWritesCard

/-- THE TIED CARD OF 'flipbooklaw17.CastLines'. -/
def castLinesCard : Claim7 := { stood := { row := castLinesRow, standIns := [], harness := (true, "cfd0fa4464f6dff473f9406df23794275677b99d9e4c054a6b62a70601ae1fc9"), looks := true }, kinds := [], alts := [], laidByText := true, laidKinds := [.data, .data, .data], laidTests := true, laidLooks := .later }
def CastLinesCardSaid : Prop := Claim7.holds Tryd.pinned (.plain (OpenSpec.ofChange castLinesSpec)) castLinesCard

/-- THE TIED CARD OF 'flipbooklaw03.JsonTexts'. -/
def jsonTextsCard : Claim7 := { stood := { row := jsonTextsRow, standIns := [], harness := (true, "cfd0fa4464f6dff473f9406df23794275677b99d9e4c054a6b62a70601ae1fc9"), looks := true }, kinds := [], alts := [], laidByText := true, laidKinds := [.data, .data, .data, .data, .pinned], laidTests := true, laidLooks := .later }
def JsonTextsCardSaid : Prop := Claim7.holds Tryd.pinned (.plain (OpenSpec.ofChange jsonTextsSpec)) jsonTextsCard

/-- THE TIED CARD OF 'flipbooklaw03.JsonAny'. -/
def jsonAnyCard : Claim7 := { stood := { row := jsonAnyRow, standIns := [], harness := (true, "cfd0fa4464f6dff473f9406df23794275677b99d9e4c054a6b62a70601ae1fc9"), looks := true }, kinds := [], alts := [], laidByText := true, laidKinds := [.data, .data, .data, .data, .pinned], laidTests := true, laidLooks := .later }
def JsonAnyCardSaid : Prop := Claim7.holds Tryd.pinned (.plain (OpenSpec.ofChange jsonAnySpec)) jsonAnyCard

/-- THE TIED CARD OF 'flipbooklaw03.JsonNumbers'. -/
def jsonNumbersCard : Claim7 := { stood := { row := jsonNumbersRow, standIns := [], harness := (true, "cfd0fa4464f6dff473f9406df23794275677b99d9e4c054a6b62a70601ae1fc9"), looks := true }, kinds := [], alts := [], laidByText := true, laidKinds := [.data, .data, .data, .sentinel, .sentinel], laidTests := true, laidLooks := .later }
def JsonNumbersCardSaid : Prop := Claim7.holds Tryd.pinned (.plain (OpenSpec.ofChange jsonNumbersSpec)) jsonNumbersCard

/-- THE TIED CARD OF 'flipbooklaw03.JsonTimes'. -/
def jsonTimesCard : Claim7 := { stood := { row := jsonTimesRow, standIns := [], harness := (true, "cfd0fa4464f6dff473f9406df23794275677b99d9e4c054a6b62a70601ae1fc9"), looks := true }, kinds := [], alts := [], laidByText := true, laidKinds := [.data, .data, .data, .sentinel, .sentinel], laidTests := true, laidLooks := .later }
def JsonTimesCardSaid : Prop := Claim7.holds Tryd.pinned (.plain (OpenSpec.ofChange jsonTimesSpec)) jsonTimesCard

/-- THE TIED CARD OF 'flipbooklaw03.JsonUntimes'. -/
def jsonUntimesCard : Claim7 := { stood := { row := jsonUntimesRow, standIns := [], harness := (true, "cfd0fa4464f6dff473f9406df23794275677b99d9e4c054a6b62a70601ae1fc9"), looks := true }, kinds := [], alts := [], laidByText := true, laidKinds := [.data, .data, .data, .sentinel, .sentinel], laidTests := true, laidLooks := .later }
def JsonUntimesCardSaid : Prop := Claim7.holds Tryd.pinned (.plain (OpenSpec.ofChange jsonUntimesSpec)) jsonUntimesCard

/-- THE TIED CARD OF 'flipbooklaw17.CastBack'. -/
def castBackCard : Claim7 := { stood := { row := castBackRow, standIns := [], harness := (true, "cfd0fa4464f6dff473f9406df23794275677b99d9e4c054a6b62a70601ae1fc9"), looks := true }, kinds := [], alts := [], laidByText := true, laidKinds := [.data, .data, .data, .data, .sentinel, .sentinel, .pinned], laidTests := true, laidLooks := .later }
def CastBackCardSaid : Prop := Claim7.holds Tryd.pinned (.plain (OpenSpec.ofChange castBackSpec)) castBackCard

/-- THE TIED CARD OF 'flipbooklaw17.CastAny'. -/
def castAnyCard : Claim7 := { stood := { row := castAnyRow, standIns := [], harness := (true, "cfd0fa4464f6dff473f9406df23794275677b99d9e4c054a6b62a70601ae1fc9"), looks := true }, kinds := [], alts := [], laidByText := true, laidKinds := [.data, .data, .data, .data, .sentinel, .sentinel, .pinned], laidTests := true, laidLooks := .later }
def CastAnyCardSaid : Prop := Claim7.holds Tryd.pinned (.plain (OpenSpec.ofChange castAnySpec)) castAnyCard

/-- THE TIED CARD OF 'flipbooklaw17.CastSpoils'. -/
def castSpoilsCard : Claim7 := { stood := { row := castSpoilsRow, standIns := [], harness := (true, "cfd0fa4464f6dff473f9406df23794275677b99d9e4c054a6b62a70601ae1fc9"), looks := true }, kinds := [], alts := [], laidByText := true, laidKinds := [.data, .data, .data, .data, .sentinel, .sentinel, .pinned], laidTests := true, laidLooks := .later }
def CastSpoilsCardSaid : Prop := Claim7.holds Tryd.pinned (.plain (OpenSpec.ofChange castSpoilsSpec)) castSpoilsCard

/-- THE SECOND FORM's CARD OF 'flipbooklaw03.JsonSigns'. -/
def jsonSignsUptoCard : Claim7 := { stood := { row := jsonSignsUptoRow, standIns := [], harness := (true, "cfd0fa4464f6dff473f9406df23794275677b99d9e4c054a6b62a70601ae1fc9"), looks := true }, kinds := [], alts := [], laidByText := true, laidKinds := [.data, .data, .data], laidTests := true, laidLooks := .later }
def JsonSignsUptoCardSaid : Prop := Claim7.holds Tryd.pinned (.plain (OpenSpec.upto jsonSignsSpec)) jsonSignsUptoCard

/-- THE SECOND FORM's CARD OF 'flipbooklaw17.CastWrites'. -/
def castWritesUptoCard : Claim7 := { stood := { row := castWritesUptoRow, standIns := [], harness := (true, "cfd0fa4464f6dff473f9406df23794275677b99d9e4c054a6b62a70601ae1fc9"), looks := true }, kinds := [], alts := [], laidByText := true, laidKinds := [.data, .data, .data], laidTests := true, laidLooks := .later }
def CastWritesUptoCardSaid : Prop := Claim7.holds Tryd.pinned (.plain (OpenSpec.upto castWritesSpec)) castWritesUptoCard

/-- THE SECOND FORM's CARD OF 'flipbooklaw17.CastLines'. -/
def castLinesUptoCard : Claim7 := { stood := { row := castLinesUptoRow, standIns := [], harness := (true, "cfd0fa4464f6dff473f9406df23794275677b99d9e4c054a6b62a70601ae1fc9"), looks := true }, kinds := [], alts := [], laidByText := true, laidKinds := [.data, .data, .data], laidTests := true, laidLooks := .later }
def CastLinesUptoCardSaid : Prop := Claim7.holds Tryd.pinned (.plain (OpenSpec.upto castLinesSpec)) castLinesUptoCard

/-- THE SECOND FORM's CARD OF 'flipbooklaw03.JsonTexts'. -/
def jsonTextsUptoCard : Claim7 := { stood := { row := jsonTextsUptoRow, standIns := [], harness := (true, "cfd0fa4464f6dff473f9406df23794275677b99d9e4c054a6b62a70601ae1fc9"), looks := true }, kinds := [], alts := [], laidByText := true, laidKinds := [.data, .data, .data, .data, .pinned], laidTests := true, laidLooks := .later }
def JsonTextsUptoCardSaid : Prop := Claim7.holds Tryd.pinned (.plain (OpenSpec.upto jsonTextsSpec)) jsonTextsUptoCard

/-- THE SECOND FORM's CARD OF 'flipbooklaw03.JsonAny'. -/
def jsonAnyUptoCard : Claim7 := { stood := { row := jsonAnyUptoRow, standIns := [], harness := (true, "cfd0fa4464f6dff473f9406df23794275677b99d9e4c054a6b62a70601ae1fc9"), looks := true }, kinds := [], alts := [], laidByText := true, laidKinds := [.data, .data, .data, .data, .pinned], laidTests := true, laidLooks := .later }
def JsonAnyUptoCardSaid : Prop := Claim7.holds Tryd.pinned (.plain (OpenSpec.upto jsonAnySpec)) jsonAnyUptoCard

/-- THE SECOND FORM's CARD OF 'flipbooklaw03.JsonNumbers'. -/
def jsonNumbersUptoCard : Claim7 := { stood := { row := jsonNumbersUptoRow, standIns := [], harness := (true, "cfd0fa4464f6dff473f9406df23794275677b99d9e4c054a6b62a70601ae1fc9"), looks := true }, kinds := [], alts := [], laidByText := true, laidKinds := [.data, .data, .data, .sentinel, .sentinel], laidTests := true, laidLooks := .later }
def JsonNumbersUptoCardSaid : Prop := Claim7.holds Tryd.pinned (.plain (OpenSpec.upto jsonNumbersSpec)) jsonNumbersUptoCard

/-- THE SECOND FORM's CARD OF 'flipbooklaw03.JsonTimes'. -/
def jsonTimesUptoCard : Claim7 := { stood := { row := jsonTimesUptoRow, standIns := [], harness := (true, "cfd0fa4464f6dff473f9406df23794275677b99d9e4c054a6b62a70601ae1fc9"), looks := true }, kinds := [], alts := [], laidByText := true, laidKinds := [.data, .data, .data, .sentinel, .sentinel], laidTests := true, laidLooks := .later }
def JsonTimesUptoCardSaid : Prop := Claim7.holds Tryd.pinned (.plain (OpenSpec.upto jsonTimesSpec)) jsonTimesUptoCard

/-- THE SECOND FORM's CARD OF 'flipbooklaw03.JsonUntimes'. -/
def jsonUntimesUptoCard : Claim7 := { stood := { row := jsonUntimesUptoRow, standIns := [], harness := (true, "cfd0fa4464f6dff473f9406df23794275677b99d9e4c054a6b62a70601ae1fc9"), looks := true }, kinds := [], alts := [], laidByText := true, laidKinds := [.data, .data, .data, .sentinel, .sentinel], laidTests := true, laidLooks := .later }
def JsonUntimesUptoCardSaid : Prop := Claim7.holds Tryd.pinned (.plain (OpenSpec.upto jsonUntimesSpec)) jsonUntimesUptoCard

/-- THE SECOND FORM's CARD OF 'flipbooklaw17.CastBack'. -/
def castBackUptoCard : Claim7 := { stood := { row := castBackUptoRow, standIns := [], harness := (true, "cfd0fa4464f6dff473f9406df23794275677b99d9e4c054a6b62a70601ae1fc9"), looks := true }, kinds := [], alts := [], laidByText := true, laidKinds := [.data, .data, .data, .data, .sentinel, .sentinel, .pinned], laidTests := true, laidLooks := .later }
def CastBackUptoCardSaid : Prop := Claim7.holds Tryd.pinned (.plain (OpenSpec.upto castBackSpec)) castBackUptoCard

/-- THE SECOND FORM's CARD OF 'flipbooklaw17.CastAny'. -/
def castAnyUptoCard : Claim7 := { stood := { row := castAnyUptoRow, standIns := [], harness := (true, "cfd0fa4464f6dff473f9406df23794275677b99d9e4c054a6b62a70601ae1fc9"), looks := true }, kinds := [], alts := [], laidByText := true, laidKinds := [.data, .data, .data, .data, .sentinel, .sentinel, .pinned], laidTests := true, laidLooks := .later }
def CastAnyUptoCardSaid : Prop := Claim7.holds Tryd.pinned (.plain (OpenSpec.upto castAnySpec)) castAnyUptoCard

/-- THE SECOND FORM's CARD OF 'flipbooklaw17.CastSpoils'. -/
def castSpoilsUptoCard : Claim7 := { stood := { row := castSpoilsUptoRow, standIns := [], harness := (true, "cfd0fa4464f6dff473f9406df23794275677b99d9e4c054a6b62a70601ae1fc9"), looks := true }, kinds := [], alts := [], laidByText := true, laidKinds := [.data, .data, .data, .data, .sentinel, .sentinel, .pinned], laidTests := true, laidLooks := .later }
def CastSpoilsUptoCardSaid : Prop := Claim7.holds Tryd.pinned (.plain (OpenSpec.upto castSpoilsSpec)) castSpoilsUptoCard
end Rows
end Go.Proofs.YtohlebkhlbcnaaaDoor
