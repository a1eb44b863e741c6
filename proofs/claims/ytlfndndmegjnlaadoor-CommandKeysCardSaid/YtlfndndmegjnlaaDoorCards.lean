/-
  DERIVED. GIVEN WITH THE SEED: THE CARDS: each row of YtlfndndmegjnlaaDoorRows.lean that lists a variable, with what it lists TIED to the program's text (the seventh form; the later family's looks); each row that meets fmt, with fmt's text TOLD by the authors' own Lean function (tested against real Go, not proved from fmt's source: count such statements apart). THE CARD IS WHAT COUNTS. Prove the row's statement (the work); the ties are given (YtlfndndmegjnlaaDoorTie.lean); close each card by the builder's one call (the guide's Derived/Test/ToyasCard.lean, 'card_holds'). Laid BY PROGRAM, IN A SANDBOX (cutbox-door.mjs). By AI agents, Wed Nov 11 2026. No macro, syntax, notation, axiom, sorry.
-/
import Derived.Test.YtlfndndmegjnlaaDoorRows
import GoSem.ClaimSeven
namespace Go.Proofs.YtlfndndmegjnlaaDoor
namespace Rows

/-- THE TIED CARD OF 'flipbooklaw21.CommandParses'. -/
def commandParsesCard : Claim7 := { stood := { row := commandParsesRow, standIns := [], harness := (true, "f2f1e670b359af8e2e23c6b2aa8299b953344a7c266814ca4a96ec3c175eccab"), looks := true }, kinds := [], alts := [], laidByText := true, laidKinds := [.data, .data, .data, .sentinel, .sentinel, .data], laidTests := true, laidLooks := .later }
def CommandParsesCardSaid : Prop := Claim7.holds Tryd.pinned (.plain (OpenSpec.ofChange commandParsesSpec)) commandParsesCard

/-- THE TIED CARD OF 'flipbooklaw21.CommandTables'. -/
def commandTablesCard : Claim7 := { stood := { row := commandTablesRow, standIns := [], harness := (true, "f2f1e670b359af8e2e23c6b2aa8299b953344a7c266814ca4a96ec3c175eccab"), looks := true }, kinds := [], alts := [], laidByText := true, laidKinds := [.data, .data, .data, .sentinel, .sentinel, .data], laidTests := true, laidLooks := .later }
def CommandTablesCardSaid : Prop := Claim7.holds Tryd.pinned (.plain (OpenSpec.ofChange commandTablesSpec)) commandTablesCard

/-- THE TIED CARD OF 'flipbooklaw21.CommandAny'. -/
def commandAnyCard : Claim7 := { stood := { row := commandAnyRow, standIns := [], harness := (true, "f2f1e670b359af8e2e23c6b2aa8299b953344a7c266814ca4a96ec3c175eccab"), looks := true }, kinds := [], alts := [], laidByText := true, laidKinds := [.data, .data, .data, .sentinel, .sentinel, .data], laidTests := true, laidLooks := .later }
def CommandAnyCardSaid : Prop := Claim7.holds Tryd.pinned (.plain (OpenSpec.ofChange commandAnySpec)) commandAnyCard

/-- THE TIED CARD OF 'flipbooklaw21.CommandBack'. -/
def commandBackCard : Claim7 := { stood := { row := commandBackRow, standIns := [], harness := (true, "f2f1e670b359af8e2e23c6b2aa8299b953344a7c266814ca4a96ec3c175eccab"), looks := true }, kinds := [], alts := [], laidByText := true, laidKinds := [.data, .data, .data, .sentinel, .sentinel, .data], laidTests := true, laidLooks := .later }
def CommandBackCardSaid : Prop := Claim7.holds Tryd.pinned (.plain (OpenSpec.ofChange commandBackSpec)) commandBackCard

/-- THE TIED CARD OF 'flipbooklaw21.CommandKeys'. -/
def commandKeysCard : Claim7 := { stood := { row := commandKeysRow, standIns := [], harness := (true, "f2f1e670b359af8e2e23c6b2aa8299b953344a7c266814ca4a96ec3c175eccab"), looks := true }, kinds := [], alts := [], laidByText := true, laidKinds := [.data, .data, .data, .sentinel, .sentinel, .data], laidTests := true, laidLooks := .later }
def CommandKeysCardSaid : Prop := Claim7.holds Tryd.pinned (.plain (OpenSpec.ofChange commandKeysSpec)) commandKeysCard

/-- THE SECOND FORM's CARD OF 'flipbooklaw21.CommandParses'. -/
def commandParsesUptoCard : Claim7 := { stood := { row := commandParsesUptoRow, standIns := [], harness := (true, "f2f1e670b359af8e2e23c6b2aa8299b953344a7c266814ca4a96ec3c175eccab"), looks := true }, kinds := [], alts := [], laidByText := true, laidKinds := [.data, .data, .data, .sentinel, .sentinel, .data], laidTests := true, laidLooks := .later }
def CommandParsesUptoCardSaid : Prop := Claim7.holds Tryd.pinned (.plain (OpenSpec.upto commandParsesSpec)) commandParsesUptoCard

/-- THE SECOND FORM's CARD OF 'flipbooklaw21.CommandTables'. -/
def commandTablesUptoCard : Claim7 := { stood := { row := commandTablesUptoRow, standIns := [], harness := (true, "f2f1e670b359af8e2e23c6b2aa8299b953344a7c266814ca4a96ec3c175eccab"), looks := true }, kinds := [], alts := [], laidByText := true, laidKinds := [.data, .data, .data, .sentinel, .sentinel, .data], laidTests := true, laidLooks := .later }
def CommandTablesUptoCardSaid : Prop := Claim7.holds Tryd.pinned (.plain (OpenSpec.upto commandTablesSpec)) commandTablesUptoCard

/-- THE SECOND FORM's CARD OF 'flipbooklaw21.CommandAny'. -/
def commandAnyUptoCard : Claim7 := { stood := { row := commandAnyUptoRow, standIns := [], harness := (true, "f2f1e670b359af8e2e23c6b2aa8299b953344a7c266814ca4a96ec3c175eccab"), looks := true }, kinds := [], alts := [], laidByText := true, laidKinds := [.data, .data, .data, .sentinel, .sentinel, .data], laidTests := true, laidLooks := .later }
def CommandAnyUptoCardSaid : Prop := Claim7.holds Tryd.pinned (.plain (OpenSpec.upto commandAnySpec)) commandAnyUptoCard

/-- THE SECOND FORM's CARD OF 'flipbooklaw21.CommandBack'. -/
def commandBackUptoCard : Claim7 := { stood := { row := commandBackUptoRow, standIns := [], harness := (true, "f2f1e670b359af8e2e23c6b2aa8299b953344a7c266814ca4a96ec3c175eccab"), looks := true }, kinds := [], alts := [], laidByText := true, laidKinds := [.data, .data, .data, .sentinel, .sentinel, .data], laidTests := true, laidLooks := .later }
def CommandBackUptoCardSaid : Prop := Claim7.holds Tryd.pinned (.plain (OpenSpec.upto commandBackSpec)) commandBackUptoCard

/-- THE SECOND FORM's CARD OF 'flipbooklaw21.CommandKeys'. -/
def commandKeysUptoCard : Claim7 := { stood := { row := commandKeysUptoRow, standIns := [], harness := (true, "f2f1e670b359af8e2e23c6b2aa8299b953344a7c266814ca4a96ec3c175eccab"), looks := true }, kinds := [], alts := [], laidByText := true, laidKinds := [.data, .data, .data, .sentinel, .sentinel, .data], laidTests := true, laidLooks := .later }
def CommandKeysUptoCardSaid : Prop := Claim7.holds Tryd.pinned (.plain (OpenSpec.upto commandKeysSpec)) commandKeysUptoCard
end Rows
end Go.Proofs.YtlfndndmegjnlaaDoor
