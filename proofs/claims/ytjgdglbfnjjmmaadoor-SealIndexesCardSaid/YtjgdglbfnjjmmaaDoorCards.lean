/-
  DERIVED. GIVEN WITH THE SEED: THE CARDS: each row of YtjgdglbfnjjmmaaDoorRows.lean that lists a variable, with what it lists TIED to the program's text (the seventh form; the later family's looks); each row that meets fmt, with fmt's text TOLD by the authors' own Lean function (tested against real Go, not proved from fmt's source: count such statements apart). THE CARD IS WHAT COUNTS. Prove the row's statement (the work); the ties are given (YtjgdglbfnjjmmaaDoorTie.lean); close each card by the builder's one call (the guide's Derived/Test/ToyasCard.lean, 'card_holds'). Laid BY PROGRAM, IN A SANDBOX (cutbox-door.mjs). By AI agents, Wed Nov 11 2026. No macro, syntax, notation, axiom, sorry.
-/
import Derived.Test.YtjgdglbfnjjmmaaDoorRows
import GoSem.ClaimSeven
namespace Go.Proofs.YtjgdglbfnjjmmaaDoor
namespace Rows

/-- THE TIED CARD OF 'synodallaw17.SealIndexes'. -/
def sealIndexesCard : Claim7 := { stood := { row := sealIndexesRow, standIns := [], harness := (true, "e6bdbfefbbdc193096e22ede5d3c26dbd7abf4964211b8c0f560336d8c00a5a2"), looks := true }, kinds := [], alts := [], laidByText := true, laidKinds := [.handle], laidTests := true, laidLooks := .later }
def SealIndexesCardSaid : Prop := Claim7.holds Tryd.pinned (.plain (OpenSpec.ofChange sealIndexesSpec)) sealIndexesCard

/-- THE TIED CARD OF 'synodallaw17.SealReads'. -/
def sealReadsCard : Claim7 := { stood := { row := sealReadsRow, standIns := [], harness := (true, "e6bdbfefbbdc193096e22ede5d3c26dbd7abf4964211b8c0f560336d8c00a5a2"), looks := true }, kinds := [], alts := [], laidByText := true, laidKinds := [.handle], laidTests := true, laidLooks := .later }
def SealReadsCardSaid : Prop := Claim7.holds Tryd.pinned (.plain (OpenSpec.ofChange sealReadsSpec)) sealReadsCard

/-- THE TIED CARD OF 'synodallaw17.SealMany'. -/
def sealManyCard : Claim7 := { stood := { row := sealManyRow, standIns := [], harness := (true, "e6bdbfefbbdc193096e22ede5d3c26dbd7abf4964211b8c0f560336d8c00a5a2"), looks := true }, kinds := [], alts := [], laidByText := true, laidKinds := [.handle], laidTests := true, laidLooks := .later }
def SealManyCardSaid : Prop := Claim7.holds Tryd.pinned (.plain (OpenSpec.ofChange sealManySpec)) sealManyCard

/-- THE SECOND FORM's CARD OF 'synodallaw17.SealIndexes'. -/
def sealIndexesUptoCard : Claim7 := { stood := { row := sealIndexesUptoRow, standIns := [], harness := (true, "e6bdbfefbbdc193096e22ede5d3c26dbd7abf4964211b8c0f560336d8c00a5a2"), looks := true }, kinds := [], alts := [], laidByText := true, laidKinds := [.handle], laidTests := true, laidLooks := .later }
def SealIndexesUptoCardSaid : Prop := Claim7.holds Tryd.pinned (.plain (OpenSpec.upto sealIndexesSpec)) sealIndexesUptoCard

/-- THE SECOND FORM's CARD OF 'synodallaw17.SealReads'. -/
def sealReadsUptoCard : Claim7 := { stood := { row := sealReadsUptoRow, standIns := [], harness := (true, "e6bdbfefbbdc193096e22ede5d3c26dbd7abf4964211b8c0f560336d8c00a5a2"), looks := true }, kinds := [], alts := [], laidByText := true, laidKinds := [.handle], laidTests := true, laidLooks := .later }
def SealReadsUptoCardSaid : Prop := Claim7.holds Tryd.pinned (.plain (OpenSpec.upto sealReadsSpec)) sealReadsUptoCard

/-- THE SECOND FORM's CARD OF 'synodallaw17.SealMany'. -/
def sealManyUptoCard : Claim7 := { stood := { row := sealManyUptoRow, standIns := [], harness := (true, "e6bdbfefbbdc193096e22ede5d3c26dbd7abf4964211b8c0f560336d8c00a5a2"), looks := true }, kinds := [], alts := [], laidByText := true, laidKinds := [.handle], laidTests := true, laidLooks := .later }
def SealManyUptoCardSaid : Prop := Claim7.holds Tryd.pinned (.plain (OpenSpec.upto sealManySpec)) sealManyUptoCard
end Rows
end Go.Proofs.YtjgdglbfnjjmmaaDoor
