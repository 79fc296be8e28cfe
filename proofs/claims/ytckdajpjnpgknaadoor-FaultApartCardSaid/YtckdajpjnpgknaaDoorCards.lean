/-
  DERIVED. GIVEN WITH THE SEED: THE CARDS: each row of YtckdajpjnpgknaaDoorRows.lean that lists a variable, with what it lists TIED to the program's text (the seventh form; the later family's looks); each row that meets fmt, with fmt's text TOLD by the authors' own Lean function (tested against real Go, not proved from fmt's source: count such statements apart). THE CARD IS WHAT COUNTS. Prove the row's statement (the work); the ties are given (YtckdajpjnpgknaaDoorTie.lean); close each card by the builder's one call (the guide's Derived/Test/ToyasCard.lean, 'card_holds'). Laid BY PROGRAM, IN A SANDBOX (cutbox-door.mjs). By AI agents, Wed Nov 11 2026. No macro, syntax, notation, axiom, sorry.
-/
import Derived.Test.YtckdajpjnpgknaaDoorRows
import GoSem.ClaimSeven
namespace Go.Proofs.YtckdajpjnpgknaaDoor
namespace Rows

/-- THE TIED CARD OF 'synodallaw1.FaultApart'. -/
def faultApartCard : Claim7 := { stood := { row := faultApartRow, standIns := [], harness := (true, "5735bf7f09034bb7091cc24fb8fff3733e992ab157b1d435de552db28da072a0"), looks := true }, kinds := [], alts := [], laidByText := true, laidKinds := [.handle], laidTests := true, laidLooks := .later }
def FaultApartCardSaid : Prop := Claim7.holds Tryd.pinned (.plain (OpenSpec.ofChange faultApartSpec)) faultApartCard

/-- THE TIED CARD OF 'synodallaw1.FaultWraps'. -/
def faultWrapsCard : Claim7 := { stood := { row := faultWrapsRow, standIns := [], harness := (true, "5735bf7f09034bb7091cc24fb8fff3733e992ab157b1d435de552db28da072a0"), looks := true }, kinds := [], alts := [], laidByText := true, laidKinds := [.handle], laidTests := true, laidLooks := .later }
def FaultWrapsCardSaid : Prop := Claim7.holds Tryd.pinned (.plain (OpenSpec.ofChange faultWrapsSpec)) faultWrapsCard

/-- THE TIED CARD OF 'synodallaw1.FaultIs'. -/
def faultIsCard : Claim7 := { stood := { row := faultIsRow, standIns := [], harness := (true, "5735bf7f09034bb7091cc24fb8fff3733e992ab157b1d435de552db28da072a0"), looks := true }, kinds := [], alts := [], laidByText := true, laidKinds := [.handle], laidTests := true, laidLooks := .later }
def FaultIsCardSaid : Prop := Claim7.holds Tryd.pinned (.plain (OpenSpec.ofChange faultIsSpec)) faultIsCard

/-- THE TIED CARD OF 'synodallaw1.FaultNone'. -/
def faultNoneCard : Claim7 := { stood := { row := faultNoneRow, standIns := [], harness := (true, "5735bf7f09034bb7091cc24fb8fff3733e992ab157b1d435de552db28da072a0"), looks := true }, kinds := [], alts := [], laidByText := true, laidKinds := [.handle], laidTests := true, laidLooks := .later }
def FaultNoneCardSaid : Prop := Claim7.holds Tryd.pinned (.plain (OpenSpec.ofChange faultNoneSpec)) faultNoneCard

/-- THE TIED CARD OF 'synodallaw1.FaultWords'. -/
def faultWordsCard : Claim7 := { stood := { row := faultWordsRow, standIns := [], harness := (true, "5735bf7f09034bb7091cc24fb8fff3733e992ab157b1d435de552db28da072a0"), looks := true }, kinds := [], alts := [], laidByText := true, laidKinds := [.handle], laidTests := true, laidLooks := .later }
def FaultWordsCardSaid : Prop := Claim7.holds Tryd.pinned (.plain (OpenSpec.ofChange faultWordsSpec)) faultWordsCard

/-- THE TIED CARD OF 'synodallaw1.FaultBare'. -/
def faultBareCard : Claim7 := { stood := { row := faultBareRow, standIns := [], harness := (true, "5735bf7f09034bb7091cc24fb8fff3733e992ab157b1d435de552db28da072a0"), looks := true }, kinds := [], alts := [], laidByText := true, laidKinds := [.handle], laidTests := true, laidLooks := .later }
def FaultBareCardSaid : Prop := Claim7.holds Tryd.pinned (.plain (OpenSpec.ofChange faultBareSpec)) faultBareCard

/-- THE SECOND FORM's CARD OF 'synodallaw1.FaultApart'. -/
def faultApartUptoCard : Claim7 := { stood := { row := faultApartUptoRow, standIns := [], harness := (true, "5735bf7f09034bb7091cc24fb8fff3733e992ab157b1d435de552db28da072a0"), looks := true }, kinds := [], alts := [], laidByText := true, laidKinds := [.handle], laidTests := true, laidLooks := .later }
def FaultApartUptoCardSaid : Prop := Claim7.holds Tryd.pinned (.plain (OpenSpec.upto faultApartSpec)) faultApartUptoCard

/-- THE SECOND FORM's CARD OF 'synodallaw1.FaultWraps'. -/
def faultWrapsUptoCard : Claim7 := { stood := { row := faultWrapsUptoRow, standIns := [], harness := (true, "5735bf7f09034bb7091cc24fb8fff3733e992ab157b1d435de552db28da072a0"), looks := true }, kinds := [], alts := [], laidByText := true, laidKinds := [.handle], laidTests := true, laidLooks := .later }
def FaultWrapsUptoCardSaid : Prop := Claim7.holds Tryd.pinned (.plain (OpenSpec.upto faultWrapsSpec)) faultWrapsUptoCard

/-- THE SECOND FORM's CARD OF 'synodallaw1.FaultIs'. -/
def faultIsUptoCard : Claim7 := { stood := { row := faultIsUptoRow, standIns := [], harness := (true, "5735bf7f09034bb7091cc24fb8fff3733e992ab157b1d435de552db28da072a0"), looks := true }, kinds := [], alts := [], laidByText := true, laidKinds := [.handle], laidTests := true, laidLooks := .later }
def FaultIsUptoCardSaid : Prop := Claim7.holds Tryd.pinned (.plain (OpenSpec.upto faultIsSpec)) faultIsUptoCard

/-- THE SECOND FORM's CARD OF 'synodallaw1.FaultNone'. -/
def faultNoneUptoCard : Claim7 := { stood := { row := faultNoneUptoRow, standIns := [], harness := (true, "5735bf7f09034bb7091cc24fb8fff3733e992ab157b1d435de552db28da072a0"), looks := true }, kinds := [], alts := [], laidByText := true, laidKinds := [.handle], laidTests := true, laidLooks := .later }
def FaultNoneUptoCardSaid : Prop := Claim7.holds Tryd.pinned (.plain (OpenSpec.upto faultNoneSpec)) faultNoneUptoCard

/-- THE SECOND FORM's CARD OF 'synodallaw1.FaultWords'. -/
def faultWordsUptoCard : Claim7 := { stood := { row := faultWordsUptoRow, standIns := [], harness := (true, "5735bf7f09034bb7091cc24fb8fff3733e992ab157b1d435de552db28da072a0"), looks := true }, kinds := [], alts := [], laidByText := true, laidKinds := [.handle], laidTests := true, laidLooks := .later }
def FaultWordsUptoCardSaid : Prop := Claim7.holds Tryd.pinned (.plain (OpenSpec.upto faultWordsSpec)) faultWordsUptoCard

/-- THE SECOND FORM's CARD OF 'synodallaw1.FaultBare'. -/
def faultBareUptoCard : Claim7 := { stood := { row := faultBareUptoRow, standIns := [], harness := (true, "5735bf7f09034bb7091cc24fb8fff3733e992ab157b1d435de552db28da072a0"), looks := true }, kinds := [], alts := [], laidByText := true, laidKinds := [.handle], laidTests := true, laidLooks := .later }
def FaultBareUptoCardSaid : Prop := Claim7.holds Tryd.pinned (.plain (OpenSpec.upto faultBareSpec)) faultBareUptoCard
end Rows
end Go.Proofs.YtckdajpjnpgknaaDoor
