/-
  DERIVED. GIVEN WITH THE SEED: THE CARDS: each row of YtjbhcaifmgbpgaaDoorRows.lean that lists a variable, with what it lists TIED to the program's text (the seventh form; the later family's looks); each row that meets fmt, with fmt's text TOLD by the authors' own Lean function (tested against real Go, not proved from fmt's source: count such statements apart). THE CARD IS WHAT COUNTS. Prove the row's statement (the work); the ties are given (YtjbhcaifmgbpgaaDoorTie.lean); close each card by the builder's one call (the guide's Derived/Test/ToyasCard.lean, 'card_holds'). Laid BY PROGRAM, IN A SANDBOX (cutbox-door.mjs). By AI agents, Wed Nov 11 2026. No macro, syntax, notation, axiom, sorry.
-/
import Derived.Test.YtjbhcaifmgbpgaaDoorRows
import GoSem.ClaimSeven
namespace Go.Proofs.YtjbhcaifmgbpgaaDoor
namespace Rows

/-- THE TIED CARD OF 'embrasurelaw03.AddrTexts'. -/
def addrTextsCard : Claim7 := { stood := { row := addrTextsRow, standIns := [], harness := (true, "1c63b316139fc6b4e446d62986e1b012f8f1ff1566db0a0ca361218360501915"), looks := true }, kinds := [], alts := [], laidByText := true, laidKinds := [.data, .data, .data, .data, .sentinel, .sentinel, .pinned], laidTests := true, laidLooks := .later }
def AddrTextsCardSaid : Prop := Claim7.holds Tryd.pinned (.plain (OpenSpec.ofChange addrTextsSpec)) addrTextsCard

/-- THE TIED CARD OF 'embrasurelaw03.AddrReads'. -/
def addrReadsCard : Claim7 := { stood := { row := addrReadsRow, standIns := [], harness := (true, "1c63b316139fc6b4e446d62986e1b012f8f1ff1566db0a0ca361218360501915"), looks := true }, kinds := [], alts := [], laidByText := true, laidKinds := [.data, .data, .data, .data, .sentinel, .sentinel, .pinned], laidTests := true, laidLooks := .later }
def AddrReadsCardSaid : Prop := Claim7.holds Tryd.pinned (.plain (OpenSpec.ofChange addrReadsSpec)) addrReadsCard

/-- THE TIED CARD OF 'embrasurelaw03.AddrParts'. -/
def addrPartsCard : Claim7 := { stood := { row := addrPartsRow, standIns := [], harness := (true, "1c63b316139fc6b4e446d62986e1b012f8f1ff1566db0a0ca361218360501915"), looks := true }, kinds := [], alts := [], laidByText := true, laidKinds := [.data, .data, .data, .data, .sentinel, .sentinel, .pinned], laidTests := true, laidLooks := .later }
def AddrPartsCardSaid : Prop := Claim7.holds Tryd.pinned (.plain (OpenSpec.ofChange addrPartsSpec)) addrPartsCard

/-- THE TIED CARD OF 'embrasurelaw03.AddrTurned'. -/
def addrTurnedCard : Claim7 := { stood := { row := addrTurnedRow, standIns := [], harness := (true, "1c63b316139fc6b4e446d62986e1b012f8f1ff1566db0a0ca361218360501915"), looks := true }, kinds := [], alts := [], laidByText := true, laidKinds := [.data, .data, .data, .data, .sentinel, .sentinel, .pinned], laidTests := true, laidLooks := .later }
def AddrTurnedCardSaid : Prop := Claim7.holds Tryd.pinned (.plain (OpenSpec.ofChange addrTurnedSpec)) addrTurnedCard

/-- THE TIED CARD OF 'embrasurelaw03.AddrOrder'. -/
def addrOrderCard : Claim7 := { stood := { row := addrOrderRow, standIns := [], harness := (true, "1c63b316139fc6b4e446d62986e1b012f8f1ff1566db0a0ca361218360501915"), looks := true }, kinds := [], alts := [], laidByText := true, laidKinds := [.data, .data, .data, .data, .sentinel, .sentinel, .pinned], laidTests := true, laidLooks := .later }
def AddrOrderCardSaid : Prop := Claim7.holds Tryd.pinned (.plain (OpenSpec.ofChange addrOrderSpec)) addrOrderCard

/-- THE TIED CARD OF 'embrasurelaw03.AddrBytes'. -/
def addrBytesCard : Claim7 := { stood := { row := addrBytesRow, standIns := [], harness := (true, "1c63b316139fc6b4e446d62986e1b012f8f1ff1566db0a0ca361218360501915"), looks := true }, kinds := [], alts := [], laidByText := true, laidKinds := [.data, .data, .data, .data, .sentinel, .sentinel, .pinned], laidTests := true, laidLooks := .later }
def AddrBytesCardSaid : Prop := Claim7.holds Tryd.pinned (.plain (OpenSpec.ofChange addrBytesSpec)) addrBytesCard

/-- THE SECOND FORM's CARD OF 'embrasurelaw03.AddrTexts'. -/
def addrTextsUptoCard : Claim7 := { stood := { row := addrTextsUptoRow, standIns := [], harness := (true, "1c63b316139fc6b4e446d62986e1b012f8f1ff1566db0a0ca361218360501915"), looks := true }, kinds := [], alts := [], laidByText := true, laidKinds := [.data, .data, .data, .data, .sentinel, .sentinel, .pinned], laidTests := true, laidLooks := .later }
def AddrTextsUptoCardSaid : Prop := Claim7.holds Tryd.pinned (.plain (OpenSpec.upto addrTextsSpec)) addrTextsUptoCard

/-- THE SECOND FORM's CARD OF 'embrasurelaw03.AddrReads'. -/
def addrReadsUptoCard : Claim7 := { stood := { row := addrReadsUptoRow, standIns := [], harness := (true, "1c63b316139fc6b4e446d62986e1b012f8f1ff1566db0a0ca361218360501915"), looks := true }, kinds := [], alts := [], laidByText := true, laidKinds := [.data, .data, .data, .data, .sentinel, .sentinel, .pinned], laidTests := true, laidLooks := .later }
def AddrReadsUptoCardSaid : Prop := Claim7.holds Tryd.pinned (.plain (OpenSpec.upto addrReadsSpec)) addrReadsUptoCard

/-- THE SECOND FORM's CARD OF 'embrasurelaw03.AddrParts'. -/
def addrPartsUptoCard : Claim7 := { stood := { row := addrPartsUptoRow, standIns := [], harness := (true, "1c63b316139fc6b4e446d62986e1b012f8f1ff1566db0a0ca361218360501915"), looks := true }, kinds := [], alts := [], laidByText := true, laidKinds := [.data, .data, .data, .data, .sentinel, .sentinel, .pinned], laidTests := true, laidLooks := .later }
def AddrPartsUptoCardSaid : Prop := Claim7.holds Tryd.pinned (.plain (OpenSpec.upto addrPartsSpec)) addrPartsUptoCard

/-- THE SECOND FORM's CARD OF 'embrasurelaw03.AddrTurned'. -/
def addrTurnedUptoCard : Claim7 := { stood := { row := addrTurnedUptoRow, standIns := [], harness := (true, "1c63b316139fc6b4e446d62986e1b012f8f1ff1566db0a0ca361218360501915"), looks := true }, kinds := [], alts := [], laidByText := true, laidKinds := [.data, .data, .data, .data, .sentinel, .sentinel, .pinned], laidTests := true, laidLooks := .later }
def AddrTurnedUptoCardSaid : Prop := Claim7.holds Tryd.pinned (.plain (OpenSpec.upto addrTurnedSpec)) addrTurnedUptoCard

/-- THE SECOND FORM's CARD OF 'embrasurelaw03.AddrOrder'. -/
def addrOrderUptoCard : Claim7 := { stood := { row := addrOrderUptoRow, standIns := [], harness := (true, "1c63b316139fc6b4e446d62986e1b012f8f1ff1566db0a0ca361218360501915"), looks := true }, kinds := [], alts := [], laidByText := true, laidKinds := [.data, .data, .data, .data, .sentinel, .sentinel, .pinned], laidTests := true, laidLooks := .later }
def AddrOrderUptoCardSaid : Prop := Claim7.holds Tryd.pinned (.plain (OpenSpec.upto addrOrderSpec)) addrOrderUptoCard

/-- THE SECOND FORM's CARD OF 'embrasurelaw03.AddrBytes'. -/
def addrBytesUptoCard : Claim7 := { stood := { row := addrBytesUptoRow, standIns := [], harness := (true, "1c63b316139fc6b4e446d62986e1b012f8f1ff1566db0a0ca361218360501915"), looks := true }, kinds := [], alts := [], laidByText := true, laidKinds := [.data, .data, .data, .data, .sentinel, .sentinel, .pinned], laidTests := true, laidLooks := .later }
def AddrBytesUptoCardSaid : Prop := Claim7.holds Tryd.pinned (.plain (OpenSpec.upto addrBytesSpec)) addrBytesUptoCard
end Rows
end Go.Proofs.YtjbhcaifmgbpgaaDoor
