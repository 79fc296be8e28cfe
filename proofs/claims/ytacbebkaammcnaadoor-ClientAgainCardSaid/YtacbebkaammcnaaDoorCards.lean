/-
  DERIVED. GIVEN WITH THE SEED: THE CARDS: each row of YtacbebkaammcnaaDoorRows.lean that lists a variable, with what it lists TIED to the program's text (the seventh form; the later family's looks); each row that meets fmt, with fmt's text TOLD by the authors' own Lean function (tested against real Go, not proved from fmt's source: count such statements apart). THE CARD IS WHAT COUNTS. Prove the row's statement (the work); the ties are given (YtacbebkaammcnaaDoorTie.lean); close each card by the builder's one call (the guide's Derived/Test/ToyasCard.lean, 'card_holds'). Laid BY PROGRAM, IN A SANDBOX (cutbox-door.mjs). By AI agents, Wed Nov 11 2026. No macro, syntax, notation, axiom, sorry.
-/
import Derived.Test.YtacbebkaammcnaaDoorRows
import GoSem.ClaimSeven
namespace Go.Proofs.YtacbebkaammcnaaDoor
namespace Rows

/-- THE TIED CARD OF 'synodallaw18.ClientAsks'. -/
def clientAsksCard : Claim7 := { stood := { row := clientAsksRow, standIns := [], harness := (true, "6d26b0b8fe7b61d8ee316fec3b0fae4f1d3cc6501624480d4d42104da66d1700"), looks := true }, kinds := [], alts := [], laidByText := true, laidKinds := [.handle], laidTests := true, laidLooks := .later }
def ClientAsksCardSaid : Prop := Claim7.holds Tryd.pinned (.plain (OpenSpec.ofChange clientAsksSpec)) clientAsksCard

/-- THE TIED CARD OF 'synodallaw18.ClientPlaces'. -/
def clientPlacesCard : Claim7 := { stood := { row := clientPlacesRow, standIns := [], harness := (true, "6d26b0b8fe7b61d8ee316fec3b0fae4f1d3cc6501624480d4d42104da66d1700"), looks := true }, kinds := [], alts := [], laidByText := true, laidKinds := [.handle], laidTests := true, laidLooks := .later }
def ClientPlacesCardSaid : Prop := Claim7.holds Tryd.pinned (.plain (OpenSpec.ofChange clientPlacesSpec)) clientPlacesCard

/-- THE TIED CARD OF 'synodallaw18.ClientAgain'. -/
def clientAgainCard : Claim7 := { stood := { row := clientAgainRow, standIns := [], harness := (true, "6d26b0b8fe7b61d8ee316fec3b0fae4f1d3cc6501624480d4d42104da66d1700"), looks := true }, kinds := [], alts := [], laidByText := true, laidKinds := [.handle], laidTests := true, laidLooks := .later }
def ClientAgainCardSaid : Prop := Claim7.holds Tryd.pinned (.plain (OpenSpec.ofChange clientAgainSpec)) clientAgainCard

/-- THE TIED CARD OF 'synodallaw18.ClientFillers'. -/
def clientFillersCard : Claim7 := { stood := { row := clientFillersRow, standIns := [], harness := (true, "6d26b0b8fe7b61d8ee316fec3b0fae4f1d3cc6501624480d4d42104da66d1700"), looks := true }, kinds := [], alts := [], laidByText := true, laidKinds := [.handle], laidTests := true, laidLooks := .later }
def ClientFillersCardSaid : Prop := Claim7.holds Tryd.pinned (.plain (OpenSpec.ofChange clientFillersSpec)) clientFillersCard

/-- THE SECOND FORM's CARD OF 'synodallaw18.ClientAsks'. -/
def clientAsksUptoCard : Claim7 := { stood := { row := clientAsksUptoRow, standIns := [], harness := (true, "6d26b0b8fe7b61d8ee316fec3b0fae4f1d3cc6501624480d4d42104da66d1700"), looks := true }, kinds := [], alts := [], laidByText := true, laidKinds := [.handle], laidTests := true, laidLooks := .later }
def ClientAsksUptoCardSaid : Prop := Claim7.holds Tryd.pinned (.plain (OpenSpec.upto clientAsksSpec)) clientAsksUptoCard

/-- THE SECOND FORM's CARD OF 'synodallaw18.ClientPlaces'. -/
def clientPlacesUptoCard : Claim7 := { stood := { row := clientPlacesUptoRow, standIns := [], harness := (true, "6d26b0b8fe7b61d8ee316fec3b0fae4f1d3cc6501624480d4d42104da66d1700"), looks := true }, kinds := [], alts := [], laidByText := true, laidKinds := [.handle], laidTests := true, laidLooks := .later }
def ClientPlacesUptoCardSaid : Prop := Claim7.holds Tryd.pinned (.plain (OpenSpec.upto clientPlacesSpec)) clientPlacesUptoCard

/-- THE SECOND FORM's CARD OF 'synodallaw18.ClientAgain'. -/
def clientAgainUptoCard : Claim7 := { stood := { row := clientAgainUptoRow, standIns := [], harness := (true, "6d26b0b8fe7b61d8ee316fec3b0fae4f1d3cc6501624480d4d42104da66d1700"), looks := true }, kinds := [], alts := [], laidByText := true, laidKinds := [.handle], laidTests := true, laidLooks := .later }
def ClientAgainUptoCardSaid : Prop := Claim7.holds Tryd.pinned (.plain (OpenSpec.upto clientAgainSpec)) clientAgainUptoCard

/-- THE SECOND FORM's CARD OF 'synodallaw18.ClientFillers'. -/
def clientFillersUptoCard : Claim7 := { stood := { row := clientFillersUptoRow, standIns := [], harness := (true, "6d26b0b8fe7b61d8ee316fec3b0fae4f1d3cc6501624480d4d42104da66d1700"), looks := true }, kinds := [], alts := [], laidByText := true, laidKinds := [.handle], laidTests := true, laidLooks := .later }
def ClientFillersUptoCardSaid : Prop := Claim7.holds Tryd.pinned (.plain (OpenSpec.upto clientFillersSpec)) clientFillersUptoCard
end Rows
end Go.Proofs.YtacbebkaammcnaaDoor
