/-
  DERIVED. GIVEN WITH THE SEED: THE CARDS: each row of YtbaenaalfpcaaaaGreatDoorRows.lean that lists a variable, with what it lists TIED to the program's text (the seventh form; the later family's looks); each row that meets fmt, with fmt's text TOLD by the authors' own Lean function (tested against real Go, not proved from fmt's source: count such statements apart). THE CARD IS WHAT COUNTS. Prove the row's statement (the work); the ties are given (YtbaenaalfpcaaaaGreatDoorTie.lean); close each card by the builder's one call (the guide's Derived/Test/ToyasCard.lean, 'card_holds'). Laid BY PROGRAM, IN A SANDBOX (cutbox-door.mjs). By AI agents, Wed Nov 11 2026. No macro, syntax, notation, axiom, sorry.
-/
import Derived.Test.YtbaenaalfpcaaaaGreatDoorRows
import GoSem.ClaimSeven
namespace Go.Proofs.YtbaenaalfpcaaaaGreatDoor
namespace Rows

/-- THE TIED CARD OF 'ceefaxtop.WholeRolling'. -/
def wholeRollingCard : Claim7 := { stood := { row := wholeRollingRow, standIns := [], harness := (true, "c503bbb2b8591b0119eec0c4d39986a3ac3ce477720decb53dd68fb800619b78"), looks := true }, kinds := [], alts := [], laidByText := true, laidKinds := [.sentinel, .sentinel, .sentinel, .sentinel, .sentinel, .sentinel], laidTests := true, laidLooks := .later }
def WholeRollingCardSaid : Prop := Claim7.holds Tryz.pinned (.plain (OpenSpec.ofChange wholeRollingSpec)) wholeRollingCard

/-- THE TIED CARD OF 'ceefaxtop.WholeTwins'. -/
def wholeTwinsCard : Claim7 := { stood := { row := wholeTwinsRow, standIns := [], harness := (true, "c503bbb2b8591b0119eec0c4d39986a3ac3ce477720decb53dd68fb800619b78"), looks := true }, kinds := [], alts := [], laidByText := true, laidKinds := [.sentinel, .sentinel, .sentinel, .sentinel, .sentinel, .sentinel], laidTests := true, laidLooks := .later }
def WholeTwinsCardSaid : Prop := Claim7.holds Tryz.pinned (.plain (OpenSpec.ofChange wholeTwinsSpec)) wholeTwinsCard

/-- THE TIED CARD OF 'ceefaxtop.WholeNational'. -/
def wholeNationalCard : Claim7 := { stood := { row := wholeNationalRow, standIns := [], harness := (true, "c503bbb2b8591b0119eec0c4d39986a3ac3ce477720decb53dd68fb800619b78"), looks := true }, kinds := [], alts := [], laidByText := true, laidKinds := [.sentinel, .sentinel, .sentinel, .sentinel, .sentinel, .sentinel], laidTests := true, laidLooks := .later }
def WholeNationalCardSaid : Prop := Claim7.holds Tryz.pinned (.plain (OpenSpec.ofChange wholeNationalSpec)) wholeNationalCard

/-- THE TIED CARD OF 'ceefaxtop.WholeTorn'. -/
def wholeTornCard : Claim7 := { stood := { row := wholeTornRow, standIns := [], harness := (true, "c503bbb2b8591b0119eec0c4d39986a3ac3ce477720decb53dd68fb800619b78"), looks := true }, kinds := [], alts := [], laidByText := true, laidKinds := [.sentinel, .sentinel, .sentinel, .sentinel, .sentinel, .sentinel], laidTests := true, laidLooks := .later }
def WholeTornCardSaid : Prop := Claim7.holds Tryz.pinned (.plain (OpenSpec.ofChange wholeTornSpec)) wholeTornCard

/-- THE TIED CARD OF 'ceefaxtop.WholeLetters'. -/
def wholeLettersCard : Claim7 := { stood := { row := wholeLettersRow, standIns := [], harness := (true, "c503bbb2b8591b0119eec0c4d39986a3ac3ce477720decb53dd68fb800619b78"), looks := true }, kinds := [], alts := [], laidByText := true, laidKinds := [.sentinel, .sentinel, .sentinel, .sentinel, .sentinel, .sentinel], laidTests := true, laidLooks := .later }
def WholeLettersCardSaid : Prop := Claim7.holds Tryz.pinned (.plain (OpenSpec.ofChange wholeLettersSpec)) wholeLettersCard

/-- THE TIED CARD OF 'ceefaxtop.WholeBad'. -/
def wholeBadCard : Claim7 := { stood := { row := wholeBadRow, standIns := [], harness := (true, "c503bbb2b8591b0119eec0c4d39986a3ac3ce477720decb53dd68fb800619b78"), looks := true }, kinds := [], alts := [], laidByText := true, laidKinds := [.sentinel, .sentinel, .sentinel, .sentinel, .sentinel, .sentinel], laidTests := true, laidLooks := .later }
def WholeBadCardSaid : Prop := Claim7.holds Tryz.pinned (.plain (OpenSpec.ofChange wholeBadSpec)) wholeBadCard

/-- THE TIED CARD OF 'ceefaxtop.WholeEcho'. -/
def wholeEchoCard : Claim7 := { stood := { row := wholeEchoRow, standIns := [], harness := (true, "c503bbb2b8591b0119eec0c4d39986a3ac3ce477720decb53dd68fb800619b78"), looks := true }, kinds := [], alts := [], laidByText := true, laidKinds := [.sentinel, .sentinel, .sentinel, .sentinel, .sentinel, .sentinel], laidTests := true, laidLooks := .later }
def WholeEchoCardSaid : Prop := Claim7.holds Tryz.pinned (.plain (OpenSpec.ofChange wholeEchoSpec)) wholeEchoCard

/-- THE TIED CARD OF 'ceefaxtop.WholeSame'. -/
def wholeSameCard : Claim7 := { stood := { row := wholeSameRow, standIns := [], harness := (true, "c503bbb2b8591b0119eec0c4d39986a3ac3ce477720decb53dd68fb800619b78"), looks := true }, kinds := [], alts := [], laidByText := true, laidKinds := [.sentinel, .sentinel, .sentinel, .sentinel, .sentinel, .sentinel], laidTests := true, laidLooks := .later }
def WholeSameCardSaid : Prop := Claim7.holds Tryz.pinned (.plain (OpenSpec.ofChange wholeSameSpec)) wholeSameCard

/-- THE SECOND FORM's CARD OF 'ceefaxtop.WholeRolling'. -/
def wholeRollingUptoCard : Claim7 := { stood := { row := wholeRollingUptoRow, standIns := [], harness := (true, "c503bbb2b8591b0119eec0c4d39986a3ac3ce477720decb53dd68fb800619b78"), looks := true }, kinds := [], alts := [], laidByText := true, laidKinds := [.sentinel, .sentinel, .sentinel, .sentinel, .sentinel, .sentinel], laidTests := true, laidLooks := .later }
def WholeRollingUptoCardSaid : Prop := Claim7.holds Tryz.pinned (.plain (OpenSpec.upto wholeRollingSpec)) wholeRollingUptoCard

/-- THE SECOND FORM's CARD OF 'ceefaxtop.WholeTwins'. -/
def wholeTwinsUptoCard : Claim7 := { stood := { row := wholeTwinsUptoRow, standIns := [], harness := (true, "c503bbb2b8591b0119eec0c4d39986a3ac3ce477720decb53dd68fb800619b78"), looks := true }, kinds := [], alts := [], laidByText := true, laidKinds := [.sentinel, .sentinel, .sentinel, .sentinel, .sentinel, .sentinel], laidTests := true, laidLooks := .later }
def WholeTwinsUptoCardSaid : Prop := Claim7.holds Tryz.pinned (.plain (OpenSpec.upto wholeTwinsSpec)) wholeTwinsUptoCard

/-- THE SECOND FORM's CARD OF 'ceefaxtop.WholeNational'. -/
def wholeNationalUptoCard : Claim7 := { stood := { row := wholeNationalUptoRow, standIns := [], harness := (true, "c503bbb2b8591b0119eec0c4d39986a3ac3ce477720decb53dd68fb800619b78"), looks := true }, kinds := [], alts := [], laidByText := true, laidKinds := [.sentinel, .sentinel, .sentinel, .sentinel, .sentinel, .sentinel], laidTests := true, laidLooks := .later }
def WholeNationalUptoCardSaid : Prop := Claim7.holds Tryz.pinned (.plain (OpenSpec.upto wholeNationalSpec)) wholeNationalUptoCard

/-- THE SECOND FORM's CARD OF 'ceefaxtop.WholeTorn'. -/
def wholeTornUptoCard : Claim7 := { stood := { row := wholeTornUptoRow, standIns := [], harness := (true, "c503bbb2b8591b0119eec0c4d39986a3ac3ce477720decb53dd68fb800619b78"), looks := true }, kinds := [], alts := [], laidByText := true, laidKinds := [.sentinel, .sentinel, .sentinel, .sentinel, .sentinel, .sentinel], laidTests := true, laidLooks := .later }
def WholeTornUptoCardSaid : Prop := Claim7.holds Tryz.pinned (.plain (OpenSpec.upto wholeTornSpec)) wholeTornUptoCard

/-- THE SECOND FORM's CARD OF 'ceefaxtop.WholeLetters'. -/
def wholeLettersUptoCard : Claim7 := { stood := { row := wholeLettersUptoRow, standIns := [], harness := (true, "c503bbb2b8591b0119eec0c4d39986a3ac3ce477720decb53dd68fb800619b78"), looks := true }, kinds := [], alts := [], laidByText := true, laidKinds := [.sentinel, .sentinel, .sentinel, .sentinel, .sentinel, .sentinel], laidTests := true, laidLooks := .later }
def WholeLettersUptoCardSaid : Prop := Claim7.holds Tryz.pinned (.plain (OpenSpec.upto wholeLettersSpec)) wholeLettersUptoCard

/-- THE SECOND FORM's CARD OF 'ceefaxtop.WholeBad'. -/
def wholeBadUptoCard : Claim7 := { stood := { row := wholeBadUptoRow, standIns := [], harness := (true, "c503bbb2b8591b0119eec0c4d39986a3ac3ce477720decb53dd68fb800619b78"), looks := true }, kinds := [], alts := [], laidByText := true, laidKinds := [.sentinel, .sentinel, .sentinel, .sentinel, .sentinel, .sentinel], laidTests := true, laidLooks := .later }
def WholeBadUptoCardSaid : Prop := Claim7.holds Tryz.pinned (.plain (OpenSpec.upto wholeBadSpec)) wholeBadUptoCard

/-- THE SECOND FORM's CARD OF 'ceefaxtop.WholeEcho'. -/
def wholeEchoUptoCard : Claim7 := { stood := { row := wholeEchoUptoRow, standIns := [], harness := (true, "c503bbb2b8591b0119eec0c4d39986a3ac3ce477720decb53dd68fb800619b78"), looks := true }, kinds := [], alts := [], laidByText := true, laidKinds := [.sentinel, .sentinel, .sentinel, .sentinel, .sentinel, .sentinel], laidTests := true, laidLooks := .later }
def WholeEchoUptoCardSaid : Prop := Claim7.holds Tryz.pinned (.plain (OpenSpec.upto wholeEchoSpec)) wholeEchoUptoCard

/-- THE SECOND FORM's CARD OF 'ceefaxtop.WholeSame'. -/
def wholeSameUptoCard : Claim7 := { stood := { row := wholeSameUptoRow, standIns := [], harness := (true, "c503bbb2b8591b0119eec0c4d39986a3ac3ce477720decb53dd68fb800619b78"), looks := true }, kinds := [], alts := [], laidByText := true, laidKinds := [.sentinel, .sentinel, .sentinel, .sentinel, .sentinel, .sentinel], laidTests := true, laidLooks := .later }
def WholeSameUptoCardSaid : Prop := Claim7.holds Tryz.pinned (.plain (OpenSpec.upto wholeSameSpec)) wholeSameUptoCard
end Rows
end Go.Proofs.YtbaenaalfpcaaaaGreatDoor
