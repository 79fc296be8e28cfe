/-
  DERIVED. GIVEN WITH THE SEED: THE CARDS: each row of YtkdlghbfplhkpaaDoorRows.lean that lists a variable, with what it lists TIED to the program's text (the seventh form; the later family's looks); each row that meets fmt, with fmt's text TOLD by the authors' own Lean function (tested against real Go, not proved from fmt's source: count such statements apart). THE CARD IS WHAT COUNTS. Prove the row's statement (the work); the ties are given (YtkdlghbfplhkpaaDoorTie.lean); close each card by the builder's one call (the guide's Derived/Test/ToyasCard.lean, 'card_holds'). Laid BY PROGRAM, IN A SANDBOX (cutbox-door.mjs). By AI agents, Wed Nov 11 2026. No macro, syntax, notation, axiom, sorry.
-/
import Derived.Test.YtkdlghbfplhkpaaDoorRows
import GoSem.ClaimSeven
namespace Go.Proofs.YtkdlghbfplhkpaaDoor
namespace Rows

/-- THE TIED CARD OF 'synodallaw2.WireBounds'. -/
def wireBoundsCard : Claim7 := { stood := { row := wireBoundsRow, standIns := [], harness := (true, "c52a760a935911d8b160848c5c7a87d41a0e55f36c61bbe8b0de1678aed1d398"), looks := true }, kinds := [], alts := [], laidByText := true, laidKinds := [.handle], laidTests := true, laidLooks := .later }
def WireBoundsCardSaid : Prop := Claim7.holds Tryd.pinned (.plain (OpenSpec.ofChange wireBoundsSpec)) wireBoundsCard

/-- THE TIED CARD OF 'synodallaw2.WireCuts'. -/
def wireCutsCard : Claim7 := { stood := { row := wireCutsRow, standIns := [], harness := (true, "c52a760a935911d8b160848c5c7a87d41a0e55f36c61bbe8b0de1678aed1d398"), looks := true }, kinds := [], alts := [], laidByText := true, laidKinds := [.handle], laidTests := true, laidLooks := .later }
def WireCutsCardSaid : Prop := Claim7.holds Tryd.pinned (.plain (OpenSpec.ofChange wireCutsSpec)) wireCutsCard

/-- THE TIED CARD OF 'synodallaw2.WireReads'. -/
def wireReadsCard : Claim7 := { stood := { row := wireReadsRow, standIns := [], harness := (true, "c52a760a935911d8b160848c5c7a87d41a0e55f36c61bbe8b0de1678aed1d398"), looks := true }, kinds := [], alts := [], laidByText := true, laidKinds := [.handle], laidTests := true, laidLooks := .later }
def WireReadsCardSaid : Prop := Claim7.holds Tryd.pinned (.plain (OpenSpec.ofChange wireReadsSpec)) wireReadsCard

/-- THE SECOND FORM's CARD OF 'synodallaw2.WireBounds'. -/
def wireBoundsUptoCard : Claim7 := { stood := { row := wireBoundsUptoRow, standIns := [], harness := (true, "c52a760a935911d8b160848c5c7a87d41a0e55f36c61bbe8b0de1678aed1d398"), looks := true }, kinds := [], alts := [], laidByText := true, laidKinds := [.handle], laidTests := true, laidLooks := .later }
def WireBoundsUptoCardSaid : Prop := Claim7.holds Tryd.pinned (.plain (OpenSpec.upto wireBoundsSpec)) wireBoundsUptoCard

/-- THE SECOND FORM's CARD OF 'synodallaw2.WireCuts'. -/
def wireCutsUptoCard : Claim7 := { stood := { row := wireCutsUptoRow, standIns := [], harness := (true, "c52a760a935911d8b160848c5c7a87d41a0e55f36c61bbe8b0de1678aed1d398"), looks := true }, kinds := [], alts := [], laidByText := true, laidKinds := [.handle], laidTests := true, laidLooks := .later }
def WireCutsUptoCardSaid : Prop := Claim7.holds Tryd.pinned (.plain (OpenSpec.upto wireCutsSpec)) wireCutsUptoCard

/-- THE SECOND FORM's CARD OF 'synodallaw2.WireReads'. -/
def wireReadsUptoCard : Claim7 := { stood := { row := wireReadsUptoRow, standIns := [], harness := (true, "c52a760a935911d8b160848c5c7a87d41a0e55f36c61bbe8b0de1678aed1d398"), looks := true }, kinds := [], alts := [], laidByText := true, laidKinds := [.handle], laidTests := true, laidLooks := .later }
def WireReadsUptoCardSaid : Prop := Claim7.holds Tryd.pinned (.plain (OpenSpec.upto wireReadsSpec)) wireReadsUptoCard
end Rows
end Go.Proofs.YtkdlghbfplhkpaaDoor
