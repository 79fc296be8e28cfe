/-
  DERIVED. GIVEN WITH THE SEED: THE CARDS: each row of YtjjlojaaefipmaaDoorRows.lean that lists a variable, with what it lists TIED to the program's text (the seventh form; the later family's looks); each row that meets fmt, with fmt's text TOLD by the authors' own Lean function (tested against real Go, not proved from fmt's source: count such statements apart). THE CARD IS WHAT COUNTS. Prove the row's statement (the work); the ties are given (YtjjlojaaefipmaaDoorTie.lean); close each card by the builder's one call (the guide's Derived/Test/ToyasCard.lean, 'card_holds'). Laid BY PROGRAM, IN A SANDBOX (cutbox-door.mjs). By AI agents, Wed Nov 11 2026. No macro, syntax, notation, axiom, sorry.
-/
import Derived.Test.YtjjlojaaefipmaaDoorRows
import GoSem.ClaimSeven
namespace Go.Proofs.YtjjlojaaefipmaaDoor
namespace Rows

/-- THE TIED CARD OF 'synodallaw3.TapeStays'. -/
def tapeStaysCard : Claim7 := { stood := { row := tapeStaysRow, standIns := [], harness := (true, "dedb802cc93fd0293b7e1c78ca9d84dd0e3eb9d7297f6e6f8078993d752e1f1f"), looks := true }, kinds := [], alts := [], laidByText := true, laidKinds := [.handle], laidTests := true, laidLooks := .later }
def TapeStaysCardSaid : Prop := Claim7.holds Tryd.pinned (.plain (OpenSpec.ofChange tapeStaysSpec)) tapeStaysCard

/-- THE TIED CARD OF 'synodallaw3.TapeFronts'. -/
def tapeFrontsCard : Claim7 := { stood := { row := tapeFrontsRow, standIns := [], harness := (true, "dedb802cc93fd0293b7e1c78ca9d84dd0e3eb9d7297f6e6f8078993d752e1f1f"), looks := true }, kinds := [], alts := [], laidByText := true, laidKinds := [.handle], laidTests := true, laidLooks := .later }
def TapeFrontsCardSaid : Prop := Claim7.holds Tryd.pinned (.plain (OpenSpec.ofChange tapeFrontsSpec)) tapeFrontsCard

/-- THE TIED CARD OF 'synodallaw3.TapeRoom'. -/
def tapeRoomCard : Claim7 := { stood := { row := tapeRoomRow, standIns := [], harness := (true, "dedb802cc93fd0293b7e1c78ca9d84dd0e3eb9d7297f6e6f8078993d752e1f1f"), looks := true }, kinds := [], alts := [], laidByText := true, laidKinds := [.handle], laidTests := true, laidLooks := .later }
def TapeRoomCardSaid : Prop := Claim7.holds Tryd.pinned (.plain (OpenSpec.ofChange tapeRoomSpec)) tapeRoomCard

/-- THE TIED CARD OF 'synodallaw3.TapeReplaced'. -/
def tapeReplacedCard : Claim7 := { stood := { row := tapeReplacedRow, standIns := [], harness := (true, "dedb802cc93fd0293b7e1c78ca9d84dd0e3eb9d7297f6e6f8078993d752e1f1f"), looks := true }, kinds := [], alts := [], laidByText := true, laidKinds := [.handle], laidTests := true, laidLooks := .later }
def TapeReplacedCardSaid : Prop := Claim7.holds Tryd.pinned (.plain (OpenSpec.ofChange tapeReplacedSpec)) tapeReplacedCard

/-- THE TIED CARD OF 'synodallaw3.TapePlays'. -/
def tapePlaysCard : Claim7 := { stood := { row := tapePlaysRow, standIns := [], harness := (true, "dedb802cc93fd0293b7e1c78ca9d84dd0e3eb9d7297f6e6f8078993d752e1f1f"), looks := true }, kinds := [], alts := [], laidByText := true, laidKinds := [.handle], laidTests := true, laidLooks := .later }
def TapePlaysCardSaid : Prop := Claim7.holds Tryd.pinned (.plain (OpenSpec.ofChange tapePlaysSpec)) tapePlaysCard

/-- THE SECOND FORM's CARD OF 'synodallaw3.TapeStays'. -/
def tapeStaysUptoCard : Claim7 := { stood := { row := tapeStaysUptoRow, standIns := [], harness := (true, "dedb802cc93fd0293b7e1c78ca9d84dd0e3eb9d7297f6e6f8078993d752e1f1f"), looks := true }, kinds := [], alts := [], laidByText := true, laidKinds := [.handle], laidTests := true, laidLooks := .later }
def TapeStaysUptoCardSaid : Prop := Claim7.holds Tryd.pinned (.plain (OpenSpec.upto tapeStaysSpec)) tapeStaysUptoCard

/-- THE SECOND FORM's CARD OF 'synodallaw3.TapeFronts'. -/
def tapeFrontsUptoCard : Claim7 := { stood := { row := tapeFrontsUptoRow, standIns := [], harness := (true, "dedb802cc93fd0293b7e1c78ca9d84dd0e3eb9d7297f6e6f8078993d752e1f1f"), looks := true }, kinds := [], alts := [], laidByText := true, laidKinds := [.handle], laidTests := true, laidLooks := .later }
def TapeFrontsUptoCardSaid : Prop := Claim7.holds Tryd.pinned (.plain (OpenSpec.upto tapeFrontsSpec)) tapeFrontsUptoCard

/-- THE SECOND FORM's CARD OF 'synodallaw3.TapeRoom'. -/
def tapeRoomUptoCard : Claim7 := { stood := { row := tapeRoomUptoRow, standIns := [], harness := (true, "dedb802cc93fd0293b7e1c78ca9d84dd0e3eb9d7297f6e6f8078993d752e1f1f"), looks := true }, kinds := [], alts := [], laidByText := true, laidKinds := [.handle], laidTests := true, laidLooks := .later }
def TapeRoomUptoCardSaid : Prop := Claim7.holds Tryd.pinned (.plain (OpenSpec.upto tapeRoomSpec)) tapeRoomUptoCard

/-- THE SECOND FORM's CARD OF 'synodallaw3.TapeReplaced'. -/
def tapeReplacedUptoCard : Claim7 := { stood := { row := tapeReplacedUptoRow, standIns := [], harness := (true, "dedb802cc93fd0293b7e1c78ca9d84dd0e3eb9d7297f6e6f8078993d752e1f1f"), looks := true }, kinds := [], alts := [], laidByText := true, laidKinds := [.handle], laidTests := true, laidLooks := .later }
def TapeReplacedUptoCardSaid : Prop := Claim7.holds Tryd.pinned (.plain (OpenSpec.upto tapeReplacedSpec)) tapeReplacedUptoCard

/-- THE SECOND FORM's CARD OF 'synodallaw3.TapePlays'. -/
def tapePlaysUptoCard : Claim7 := { stood := { row := tapePlaysUptoRow, standIns := [], harness := (true, "dedb802cc93fd0293b7e1c78ca9d84dd0e3eb9d7297f6e6f8078993d752e1f1f"), looks := true }, kinds := [], alts := [], laidByText := true, laidKinds := [.handle], laidTests := true, laidLooks := .later }
def TapePlaysUptoCardSaid : Prop := Claim7.holds Tryd.pinned (.plain (OpenSpec.upto tapePlaysSpec)) tapePlaysUptoCard
end Rows
end Go.Proofs.YtjjlojaaefipmaaDoor
