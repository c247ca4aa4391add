/-
  DERIVED. GIVEN WITH THE SEED: THE CARDS: each row of YtmckiigefkfpaaaDoorRows.lean that lists a variable, with what it lists TIED to the program's text (the seventh form; the later family's looks); each row that meets fmt, with fmt's text TOLD by the authors' own Lean function (tested against real Go, not proved from fmt's source: count such statements apart). THE CARD IS WHAT COUNTS. Prove the row's statement (the work); the ties are given (YtmckiigefkfpaaaDoorTie.lean); close each card by the builder's one call (the guide's Derived/Test/ToyasCard.lean, 'card_holds'). Laid BY PROGRAM, IN A SANDBOX (cutbox-door.mjs). By AI agents, Wed Nov 11 2026. No macro, syntax, notation, axiom, sorry.
-/
import Derived.Test.YtmckiigefkfpaaaDoorRows
import GoSem.ClaimSeven
namespace Go.Proofs.YtmckiigefkfpaaaDoor
namespace Rows

/-- THE TIED CARD OF 'ceefaxlaw13.StoreFull'. -/
def storeFullCard : Claim7 := { stood := { row := storeFullRow, standIns := [], harness := (true, "247cac0dc1f209e3e8be4ce6036ad321c004e720894f4c5325df0725f8e52f57"), looks := true }, kinds := [], alts := [], laidByText := true, laidKinds := [.sentinel], laidTests := true, laidLooks := .later }
def StoreFullCardSaid : Prop := Claim7.holds Tryd.pinned (.plain (OpenSpec.ofChange storeFullSpec)) storeFullCard

/-- THE TIED CARD OF 'ceefaxlaw13.StorePins'. -/
def storePinsCard : Claim7 := { stood := { row := storePinsRow, standIns := [], harness := (true, "247cac0dc1f209e3e8be4ce6036ad321c004e720894f4c5325df0725f8e52f57"), looks := true }, kinds := [], alts := [], laidByText := true, laidKinds := [.sentinel], laidTests := true, laidLooks := .later }
def StorePinsCardSaid : Prop := Claim7.holds Tryd.pinned (.plain (OpenSpec.ofChange storePinsSpec)) storePinsCard

/-- THE TIED CARD OF 'ceefaxlaw13.StoreGoes'. -/
def storeGoesCard : Claim7 := { stood := { row := storeGoesRow, standIns := [], harness := (true, "247cac0dc1f209e3e8be4ce6036ad321c004e720894f4c5325df0725f8e52f57"), looks := true }, kinds := [], alts := [], laidByText := true, laidKinds := [.sentinel], laidTests := true, laidLooks := .later }
def StoreGoesCardSaid : Prop := Claim7.holds Tryd.pinned (.plain (OpenSpec.ofChange storeGoesSpec)) storeGoesCard

/-- THE TIED CARD OF 'ceefaxlaw13.StorePlays'. -/
def storePlaysCard : Claim7 := { stood := { row := storePlaysRow, standIns := [], harness := (true, "247cac0dc1f209e3e8be4ce6036ad321c004e720894f4c5325df0725f8e52f57"), looks := true }, kinds := [], alts := [], laidByText := true, laidKinds := [.sentinel, .sentinel, .sentinel, .sentinel, .sentinel, .sentinel], laidTests := true, laidLooks := .later }
def StorePlaysCardSaid : Prop := Claim7.holds Tryd.pinned (.plain (OpenSpec.ofChange storePlaysSpec)) storePlaysCard

/-- THE SECOND FORM's CARD OF 'ceefaxlaw13.StoreFull'. -/
def storeFullUptoCard : Claim7 := { stood := { row := storeFullUptoRow, standIns := [], harness := (true, "247cac0dc1f209e3e8be4ce6036ad321c004e720894f4c5325df0725f8e52f57"), looks := true }, kinds := [], alts := [], laidByText := true, laidKinds := [.sentinel], laidTests := true, laidLooks := .later }
def StoreFullUptoCardSaid : Prop := Claim7.holds Tryd.pinned (.plain (OpenSpec.upto storeFullSpec)) storeFullUptoCard

/-- THE SECOND FORM's CARD OF 'ceefaxlaw13.StorePins'. -/
def storePinsUptoCard : Claim7 := { stood := { row := storePinsUptoRow, standIns := [], harness := (true, "247cac0dc1f209e3e8be4ce6036ad321c004e720894f4c5325df0725f8e52f57"), looks := true }, kinds := [], alts := [], laidByText := true, laidKinds := [.sentinel], laidTests := true, laidLooks := .later }
def StorePinsUptoCardSaid : Prop := Claim7.holds Tryd.pinned (.plain (OpenSpec.upto storePinsSpec)) storePinsUptoCard

/-- THE SECOND FORM's CARD OF 'ceefaxlaw13.StoreGoes'. -/
def storeGoesUptoCard : Claim7 := { stood := { row := storeGoesUptoRow, standIns := [], harness := (true, "247cac0dc1f209e3e8be4ce6036ad321c004e720894f4c5325df0725f8e52f57"), looks := true }, kinds := [], alts := [], laidByText := true, laidKinds := [.sentinel], laidTests := true, laidLooks := .later }
def StoreGoesUptoCardSaid : Prop := Claim7.holds Tryd.pinned (.plain (OpenSpec.upto storeGoesSpec)) storeGoesUptoCard

/-- THE SECOND FORM's CARD OF 'ceefaxlaw13.StorePlays'. -/
def storePlaysUptoCard : Claim7 := { stood := { row := storePlaysUptoRow, standIns := [], harness := (true, "247cac0dc1f209e3e8be4ce6036ad321c004e720894f4c5325df0725f8e52f57"), looks := true }, kinds := [], alts := [], laidByText := true, laidKinds := [.sentinel, .sentinel, .sentinel, .sentinel, .sentinel, .sentinel], laidTests := true, laidLooks := .later }
def StorePlaysUptoCardSaid : Prop := Claim7.holds Tryd.pinned (.plain (OpenSpec.upto storePlaysSpec)) storePlaysUptoCard
end Rows
end Go.Proofs.YtmckiigefkfpaaaDoor
