/-
  DERIVED. GIVEN WITH THE SEED: THE CARDS: each row of YtfnnjgbldojigaaDoorRows.lean that lists a variable, with what it lists TIED to the program's text (the seventh form; the later family's looks); each row that meets fmt, with fmt's text TOLD by the authors' own Lean function (tested against real Go, not proved from fmt's source: count such statements apart). THE CARD IS WHAT COUNTS. Prove the row's statement (the work); the ties are given (YtfnnjgbldojigaaDoorTie.lean); close each card by the builder's one call (the guide's Derived/Test/ToyasCard.lean, 'card_holds'). Laid BY PROGRAM, IN A SANDBOX (cutbox-door.mjs). By AI agents, Wed Nov 11 2026. No macro, syntax, notation, axiom, sorry.
-/
import Derived.Test.YtfnnjgbldojigaaDoorRows
import GoSem.ClaimSeven
namespace Go.Proofs.YtfnnjgbldojigaaDoor
namespace Rows

/-- THE TIED CARD OF 'synodallaw4.WalEcho'. -/
def walEchoCard : Claim7 := { stood := { row := walEchoRow, standIns := [], harness := (true, "2bf77ca04a2745f59b58b92268782c6241f18b1d592e3a07a4655dbce35184e8"), looks := true }, kinds := [], alts := [], laidByText := true, laidKinds := [.handle], laidTests := true, laidLooks := .later }
def WalEchoCardSaid : Prop := Claim7.holds Tryd.pinned (.plain (OpenSpec.ofChange walEchoSpec)) walEchoCard

/-- THE TIED CARD OF 'synodallaw4.WalLong'. -/
def walLongCard : Claim7 := { stood := { row := walLongRow, standIns := [], harness := (true, "2bf77ca04a2745f59b58b92268782c6241f18b1d592e3a07a4655dbce35184e8"), looks := true }, kinds := [], alts := [], laidByText := true, laidKinds := [.handle], laidTests := true, laidLooks := .later }
def WalLongCardSaid : Prop := Claim7.holds Tryd.pinned (.plain (OpenSpec.ofChange walLongSpec)) walLongCard

/-- THE TIED CARD OF 'synodallaw4.WalTails'. -/
def walTailsCard : Claim7 := { stood := { row := walTailsRow, standIns := [], harness := (true, "2bf77ca04a2745f59b58b92268782c6241f18b1d592e3a07a4655dbce35184e8"), looks := true }, kinds := [], alts := [], laidByText := true, laidKinds := [.handle], laidTests := true, laidLooks := .later }
def WalTailsCardSaid : Prop := Claim7.holds Tryd.pinned (.plain (OpenSpec.ofChange walTailsSpec)) walTailsCard

/-- THE TIED CARD OF 'synodallaw4.WalPlays'. -/
def walPlaysCard : Claim7 := { stood := { row := walPlaysRow, standIns := [], harness := (true, "2bf77ca04a2745f59b58b92268782c6241f18b1d592e3a07a4655dbce35184e8"), looks := true }, kinds := [], alts := [], laidByText := true, laidKinds := [.handle], laidTests := true, laidLooks := .later }
def WalPlaysCardSaid : Prop := Claim7.holds Tryd.pinned (.plain (OpenSpec.ofChange walPlaysSpec)) walPlaysCard

/-- THE TIED CARD OF 'synodallaw4.WalCrashes'. -/
def walCrashesCard : Claim7 := { stood := { row := walCrashesRow, standIns := [], harness := (true, "2bf77ca04a2745f59b58b92268782c6241f18b1d592e3a07a4655dbce35184e8"), looks := true }, kinds := [], alts := [], laidByText := true, laidKinds := [.handle], laidTests := true, laidLooks := .later }
def WalCrashesCardSaid : Prop := Claim7.holds Tryd.pinned (.plain (OpenSpec.ofChange walCrashesSpec)) walCrashesCard

/-- THE TIED CARD OF 'synodallaw4.WalKeeps'. -/
def walKeepsCard : Claim7 := { stood := { row := walKeepsRow, standIns := [], harness := (true, "2bf77ca04a2745f59b58b92268782c6241f18b1d592e3a07a4655dbce35184e8"), looks := true }, kinds := [], alts := [], laidByText := true, laidKinds := [.handle], laidTests := true, laidLooks := .later }
def WalKeepsCardSaid : Prop := Claim7.holds Tryd.pinned (.plain (OpenSpec.ofChange walKeepsSpec)) walKeepsCard

/-- THE TIED CARD OF 'synodallaw5.CellsRefuse'. -/
def cellsRefuseCard : Claim7 := { stood := { row := cellsRefuseRow, standIns := [], harness := (true, "2bf77ca04a2745f59b58b92268782c6241f18b1d592e3a07a4655dbce35184e8"), looks := true }, kinds := [], alts := [], laidByText := true, laidKinds := [.handle], laidTests := true, laidLooks := .later }
def CellsRefuseCardSaid : Prop := Claim7.holds Tryd.pinned (.plain (OpenSpec.ofChange cellsRefuseSpec)) cellsRefuseCard

/-- THE TIED CARD OF 'synodallaw5.CellsOwn'. -/
def cellsOwnCard : Claim7 := { stood := { row := cellsOwnRow, standIns := [], harness := (true, "2bf77ca04a2745f59b58b92268782c6241f18b1d592e3a07a4655dbce35184e8"), looks := true }, kinds := [], alts := [], laidByText := true, laidKinds := [.handle], laidTests := true, laidLooks := .later }
def CellsOwnCardSaid : Prop := Claim7.holds Tryd.pinned (.plain (OpenSpec.ofChange cellsOwnSpec)) cellsOwnCard

/-- THE TIED CARD OF 'synodallaw5.CellsPlay'. -/
def cellsPlayCard : Claim7 := { stood := { row := cellsPlayRow, standIns := [], harness := (true, "2bf77ca04a2745f59b58b92268782c6241f18b1d592e3a07a4655dbce35184e8"), looks := true }, kinds := [], alts := [], laidByText := true, laidKinds := [.handle], laidTests := true, laidLooks := .later }
def CellsPlayCardSaid : Prop := Claim7.holds Tryd.pinned (.plain (OpenSpec.ofChange cellsPlaySpec)) cellsPlayCard

/-- THE TIED CARD OF 'synodallaw5.CellsCrash'. -/
def cellsCrashCard : Claim7 := { stood := { row := cellsCrashRow, standIns := [], harness := (true, "2bf77ca04a2745f59b58b92268782c6241f18b1d592e3a07a4655dbce35184e8"), looks := true }, kinds := [], alts := [], laidByText := true, laidKinds := [.handle], laidTests := true, laidLooks := .later }
def CellsCrashCardSaid : Prop := Claim7.holds Tryd.pinned (.plain (OpenSpec.ofChange cellsCrashSpec)) cellsCrashCard

/-- THE SECOND FORM's CARD OF 'synodallaw4.WalEcho'. -/
def walEchoUptoCard : Claim7 := { stood := { row := walEchoUptoRow, standIns := [], harness := (true, "2bf77ca04a2745f59b58b92268782c6241f18b1d592e3a07a4655dbce35184e8"), looks := true }, kinds := [], alts := [], laidByText := true, laidKinds := [.handle], laidTests := true, laidLooks := .later }
def WalEchoUptoCardSaid : Prop := Claim7.holds Tryd.pinned (.plain (OpenSpec.upto walEchoSpec)) walEchoUptoCard

/-- THE SECOND FORM's CARD OF 'synodallaw4.WalLong'. -/
def walLongUptoCard : Claim7 := { stood := { row := walLongUptoRow, standIns := [], harness := (true, "2bf77ca04a2745f59b58b92268782c6241f18b1d592e3a07a4655dbce35184e8"), looks := true }, kinds := [], alts := [], laidByText := true, laidKinds := [.handle], laidTests := true, laidLooks := .later }
def WalLongUptoCardSaid : Prop := Claim7.holds Tryd.pinned (.plain (OpenSpec.upto walLongSpec)) walLongUptoCard

/-- THE SECOND FORM's CARD OF 'synodallaw4.WalTails'. -/
def walTailsUptoCard : Claim7 := { stood := { row := walTailsUptoRow, standIns := [], harness := (true, "2bf77ca04a2745f59b58b92268782c6241f18b1d592e3a07a4655dbce35184e8"), looks := true }, kinds := [], alts := [], laidByText := true, laidKinds := [.handle], laidTests := true, laidLooks := .later }
def WalTailsUptoCardSaid : Prop := Claim7.holds Tryd.pinned (.plain (OpenSpec.upto walTailsSpec)) walTailsUptoCard

/-- THE SECOND FORM's CARD OF 'synodallaw4.WalPlays'. -/
def walPlaysUptoCard : Claim7 := { stood := { row := walPlaysUptoRow, standIns := [], harness := (true, "2bf77ca04a2745f59b58b92268782c6241f18b1d592e3a07a4655dbce35184e8"), looks := true }, kinds := [], alts := [], laidByText := true, laidKinds := [.handle], laidTests := true, laidLooks := .later }
def WalPlaysUptoCardSaid : Prop := Claim7.holds Tryd.pinned (.plain (OpenSpec.upto walPlaysSpec)) walPlaysUptoCard

/-- THE SECOND FORM's CARD OF 'synodallaw4.WalCrashes'. -/
def walCrashesUptoCard : Claim7 := { stood := { row := walCrashesUptoRow, standIns := [], harness := (true, "2bf77ca04a2745f59b58b92268782c6241f18b1d592e3a07a4655dbce35184e8"), looks := true }, kinds := [], alts := [], laidByText := true, laidKinds := [.handle], laidTests := true, laidLooks := .later }
def WalCrashesUptoCardSaid : Prop := Claim7.holds Tryd.pinned (.plain (OpenSpec.upto walCrashesSpec)) walCrashesUptoCard

/-- THE SECOND FORM's CARD OF 'synodallaw4.WalKeeps'. -/
def walKeepsUptoCard : Claim7 := { stood := { row := walKeepsUptoRow, standIns := [], harness := (true, "2bf77ca04a2745f59b58b92268782c6241f18b1d592e3a07a4655dbce35184e8"), looks := true }, kinds := [], alts := [], laidByText := true, laidKinds := [.handle], laidTests := true, laidLooks := .later }
def WalKeepsUptoCardSaid : Prop := Claim7.holds Tryd.pinned (.plain (OpenSpec.upto walKeepsSpec)) walKeepsUptoCard

/-- THE SECOND FORM's CARD OF 'synodallaw5.CellsRefuse'. -/
def cellsRefuseUptoCard : Claim7 := { stood := { row := cellsRefuseUptoRow, standIns := [], harness := (true, "2bf77ca04a2745f59b58b92268782c6241f18b1d592e3a07a4655dbce35184e8"), looks := true }, kinds := [], alts := [], laidByText := true, laidKinds := [.handle], laidTests := true, laidLooks := .later }
def CellsRefuseUptoCardSaid : Prop := Claim7.holds Tryd.pinned (.plain (OpenSpec.upto cellsRefuseSpec)) cellsRefuseUptoCard

/-- THE SECOND FORM's CARD OF 'synodallaw5.CellsOwn'. -/
def cellsOwnUptoCard : Claim7 := { stood := { row := cellsOwnUptoRow, standIns := [], harness := (true, "2bf77ca04a2745f59b58b92268782c6241f18b1d592e3a07a4655dbce35184e8"), looks := true }, kinds := [], alts := [], laidByText := true, laidKinds := [.handle], laidTests := true, laidLooks := .later }
def CellsOwnUptoCardSaid : Prop := Claim7.holds Tryd.pinned (.plain (OpenSpec.upto cellsOwnSpec)) cellsOwnUptoCard

/-- THE SECOND FORM's CARD OF 'synodallaw5.CellsPlay'. -/
def cellsPlayUptoCard : Claim7 := { stood := { row := cellsPlayUptoRow, standIns := [], harness := (true, "2bf77ca04a2745f59b58b92268782c6241f18b1d592e3a07a4655dbce35184e8"), looks := true }, kinds := [], alts := [], laidByText := true, laidKinds := [.handle], laidTests := true, laidLooks := .later }
def CellsPlayUptoCardSaid : Prop := Claim7.holds Tryd.pinned (.plain (OpenSpec.upto cellsPlaySpec)) cellsPlayUptoCard

/-- THE SECOND FORM's CARD OF 'synodallaw5.CellsCrash'. -/
def cellsCrashUptoCard : Claim7 := { stood := { row := cellsCrashUptoRow, standIns := [], harness := (true, "2bf77ca04a2745f59b58b92268782c6241f18b1d592e3a07a4655dbce35184e8"), looks := true }, kinds := [], alts := [], laidByText := true, laidKinds := [.handle], laidTests := true, laidLooks := .later }
def CellsCrashUptoCardSaid : Prop := Claim7.holds Tryd.pinned (.plain (OpenSpec.upto cellsCrashSpec)) cellsCrashUptoCard
end Rows
end Go.Proofs.YtfnnjgbldojigaaDoor
