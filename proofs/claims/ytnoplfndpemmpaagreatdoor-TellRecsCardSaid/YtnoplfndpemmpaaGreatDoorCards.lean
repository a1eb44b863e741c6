/-
  DERIVED. GIVEN WITH THE SEED: THE CARDS: each row of YtnoplfndpemmpaaGreatDoorRows.lean that lists a variable, with what it lists TIED to the program's text (the seventh form; the later family's looks); each row that meets fmt, with fmt's text TOLD by the authors' own Lean function (tested against real Go, not proved from fmt's source: count such statements apart). THE CARD IS WHAT COUNTS. Prove the row's statement (the work); the ties are given (YtnoplfndpemmpaaGreatDoorTie.lean); close each card by the builder's one call (the guide's Derived/Test/ToyasCard.lean, 'card_holds'). Laid BY PROGRAM, IN A SANDBOX (cutbox-door.mjs). By AI agents, Wed Nov 11 2026. No macro, syntax, notation, axiom, sorry.
-/
import Derived.Test.YtnoplfndpemmpaaGreatDoorRows
import GoSem.ClaimSeven
namespace Go.Proofs.YtnoplfndpemmpaaGreatDoor
namespace Rows

/-- THE TIED CARD OF 'flipbooklaw25.ScriptBack'. -/
def scriptBackCard : Claim7 := { stood := { row := scriptBackRow, standIns := [], harness := (true, "f321f3b2c8f38027dbde2d72454266f276345ce803f368349a91383fadb2711e"), looks := true }, kinds := [], alts := [], laidByText := true, laidKinds := [.data, .data, .data, .data, .data, .data, .sentinel, .sentinel, .data, .pinned], laidTests := true, laidLooks := .later }
def ScriptBackCardSaid : Prop := Claim7.holds Tryz.pinned (.plain (OpenSpec.ofChange scriptBackSpec)) scriptBackCard

/-- THE TIED CARD OF 'flipbooklaw25.ScriptAny'. -/
def scriptAnyCard : Claim7 := { stood := { row := scriptAnyRow, standIns := [], harness := (true, "f321f3b2c8f38027dbde2d72454266f276345ce803f368349a91383fadb2711e"), looks := true }, kinds := [], alts := [], laidByText := true, laidKinds := [.data, .data, .data, .data, .data, .data, .sentinel, .sentinel, .data, .pinned], laidTests := true, laidLooks := .later }
def ScriptAnyCardSaid : Prop := Claim7.holds Tryz.pinned (.plain (OpenSpec.ofChange scriptAnySpec)) scriptAnyCard

/-- THE TIED CARD OF 'flipbooklaw26.TellScreens'. -/
def tellScreensCard : Claim7 := { stood := { row := tellScreensRow, standIns := [], harness := (true, "f321f3b2c8f38027dbde2d72454266f276345ce803f368349a91383fadb2711e"), looks := true }, kinds := [], alts := [], laidByText := true, laidKinds := [.data, .data, .data, .data, .data, .data, .sentinel, .sentinel, .data, .pinned], laidTests := true, laidLooks := .later }
def TellScreensCardSaid : Prop := Claim7.holds Tryz.pinned (.plain (OpenSpec.ofChange tellScreensSpec)) tellScreensCard

/-- THE TIED CARD OF 'flipbooklaw26.TellRecs'. -/
def tellRecsCard : Claim7 := { stood := { row := tellRecsRow, standIns := [], harness := (true, "f321f3b2c8f38027dbde2d72454266f276345ce803f368349a91383fadb2711e"), looks := true }, kinds := [], alts := [], laidByText := true, laidKinds := [.data, .data, .data, .data, .data, .data, .sentinel, .sentinel, .data, .pinned], laidTests := true, laidLooks := .later }
def TellRecsCardSaid : Prop := Claim7.holds Tryz.pinned (.plain (OpenSpec.ofChange tellRecsSpec)) tellRecsCard

/-- THE SECOND FORM's CARD OF 'flipbooklaw25.ScriptBack'. -/
def scriptBackUptoCard : Claim7 := { stood := { row := scriptBackUptoRow, standIns := [], harness := (true, "f321f3b2c8f38027dbde2d72454266f276345ce803f368349a91383fadb2711e"), looks := true }, kinds := [], alts := [], laidByText := true, laidKinds := [.data, .data, .data, .data, .data, .data, .sentinel, .sentinel, .data, .pinned], laidTests := true, laidLooks := .later }
def ScriptBackUptoCardSaid : Prop := Claim7.holds Tryz.pinned (.plain (OpenSpec.upto scriptBackSpec)) scriptBackUptoCard

/-- THE SECOND FORM's CARD OF 'flipbooklaw25.ScriptAny'. -/
def scriptAnyUptoCard : Claim7 := { stood := { row := scriptAnyUptoRow, standIns := [], harness := (true, "f321f3b2c8f38027dbde2d72454266f276345ce803f368349a91383fadb2711e"), looks := true }, kinds := [], alts := [], laidByText := true, laidKinds := [.data, .data, .data, .data, .data, .data, .sentinel, .sentinel, .data, .pinned], laidTests := true, laidLooks := .later }
def ScriptAnyUptoCardSaid : Prop := Claim7.holds Tryz.pinned (.plain (OpenSpec.upto scriptAnySpec)) scriptAnyUptoCard

/-- THE SECOND FORM's CARD OF 'flipbooklaw26.TellScreens'. -/
def tellScreensUptoCard : Claim7 := { stood := { row := tellScreensUptoRow, standIns := [], harness := (true, "f321f3b2c8f38027dbde2d72454266f276345ce803f368349a91383fadb2711e"), looks := true }, kinds := [], alts := [], laidByText := true, laidKinds := [.data, .data, .data, .data, .data, .data, .sentinel, .sentinel, .data, .pinned], laidTests := true, laidLooks := .later }
def TellScreensUptoCardSaid : Prop := Claim7.holds Tryz.pinned (.plain (OpenSpec.upto tellScreensSpec)) tellScreensUptoCard

/-- THE SECOND FORM's CARD OF 'flipbooklaw26.TellRecs'. -/
def tellRecsUptoCard : Claim7 := { stood := { row := tellRecsUptoRow, standIns := [], harness := (true, "f321f3b2c8f38027dbde2d72454266f276345ce803f368349a91383fadb2711e"), looks := true }, kinds := [], alts := [], laidByText := true, laidKinds := [.data, .data, .data, .data, .data, .data, .sentinel, .sentinel, .data, .pinned], laidTests := true, laidLooks := .later }
def TellRecsUptoCardSaid : Prop := Claim7.holds Tryz.pinned (.plain (OpenSpec.upto tellRecsSpec)) tellRecsUptoCard
end Rows
end Go.Proofs.YtnoplfndpemmpaaGreatDoor
