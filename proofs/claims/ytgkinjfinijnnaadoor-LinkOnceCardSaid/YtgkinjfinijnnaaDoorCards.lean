/-
  DERIVED. GIVEN WITH THE SEED: THE CARDS: each row of YtgkinjfinijnnaaDoorRows.lean that lists a variable, with what it lists TIED to the program's text (the seventh form; the later family's looks); each row that meets fmt, with fmt's text TOLD by the authors' own Lean function (tested against real Go, not proved from fmt's source: count such statements apart). THE CARD IS WHAT COUNTS. Prove the row's statement (the work); the ties are given (YtgkinjfinijnnaaDoorTie.lean); close each card by the builder's one call (the guide's Derived/Test/ToyasCard.lean, 'card_holds'). Laid BY PROGRAM, IN A SANDBOX (cutbox-door.mjs). By AI agents, Wed Nov 11 2026. No macro, syntax, notation, axiom, sorry.
-/
import Derived.Test.YtgkinjfinijnnaaDoorRows
import GoSem.ClaimSeven
namespace Go.Proofs.YtgkinjfinijnnaaDoor
namespace Rows

/-- THE TIED CARD OF 'synodallaw7.LinkFar'. -/
def linkFarCard : Claim7 := { stood := { row := linkFarRow, standIns := [], harness := (true, "1bad743071ff5cd09e8243498a729525695dc9171b264da4850a3154616e2b84"), looks := true }, kinds := [], alts := [], laidByText := true, laidKinds := [.handle], laidTests := true, laidLooks := .later }
def LinkFarCardSaid : Prop := Claim7.holds Tryd.pinned (.plain (OpenSpec.ofChange linkFarSpec)) linkFarCard

/-- THE TIED CARD OF 'synodallaw7.LinkOnce'. -/
def linkOnceCard : Claim7 := { stood := { row := linkOnceRow, standIns := [], harness := (true, "1bad743071ff5cd09e8243498a729525695dc9171b264da4850a3154616e2b84"), looks := true }, kinds := [], alts := [], laidByText := true, laidKinds := [.handle], laidTests := true, laidLooks := .later }
def LinkOnceCardSaid : Prop := Claim7.holds Tryd.pinned (.plain (OpenSpec.ofChange linkOnceSpec)) linkOnceCard

/-- THE TIED CARD OF 'synodallaw7.LinkStamps'. -/
def linkStampsCard : Claim7 := { stood := { row := linkStampsRow, standIns := [], harness := (true, "1bad743071ff5cd09e8243498a729525695dc9171b264da4850a3154616e2b84"), looks := true }, kinds := [], alts := [], laidByText := true, laidKinds := [.handle], laidTests := true, laidLooks := .later }
def LinkStampsCardSaid : Prop := Claim7.holds Tryd.pinned (.plain (OpenSpec.ofChange linkStampsSpec)) linkStampsCard

/-- THE TIED CARD OF 'synodallaw7.LinkPeers'. -/
def linkPeersCard : Claim7 := { stood := { row := linkPeersRow, standIns := [], harness := (true, "1bad743071ff5cd09e8243498a729525695dc9171b264da4850a3154616e2b84"), looks := true }, kinds := [], alts := [], laidByText := true, laidKinds := [.handle], laidTests := true, laidLooks := .later }
def LinkPeersCardSaid : Prop := Claim7.holds Tryd.pinned (.plain (OpenSpec.ofChange linkPeersSpec)) linkPeersCard

/-- THE SECOND FORM's CARD OF 'synodallaw7.LinkFar'. -/
def linkFarUptoCard : Claim7 := { stood := { row := linkFarUptoRow, standIns := [], harness := (true, "1bad743071ff5cd09e8243498a729525695dc9171b264da4850a3154616e2b84"), looks := true }, kinds := [], alts := [], laidByText := true, laidKinds := [.handle], laidTests := true, laidLooks := .later }
def LinkFarUptoCardSaid : Prop := Claim7.holds Tryd.pinned (.plain (OpenSpec.upto linkFarSpec)) linkFarUptoCard

/-- THE SECOND FORM's CARD OF 'synodallaw7.LinkOnce'. -/
def linkOnceUptoCard : Claim7 := { stood := { row := linkOnceUptoRow, standIns := [], harness := (true, "1bad743071ff5cd09e8243498a729525695dc9171b264da4850a3154616e2b84"), looks := true }, kinds := [], alts := [], laidByText := true, laidKinds := [.handle], laidTests := true, laidLooks := .later }
def LinkOnceUptoCardSaid : Prop := Claim7.holds Tryd.pinned (.plain (OpenSpec.upto linkOnceSpec)) linkOnceUptoCard

/-- THE SECOND FORM's CARD OF 'synodallaw7.LinkStamps'. -/
def linkStampsUptoCard : Claim7 := { stood := { row := linkStampsUptoRow, standIns := [], harness := (true, "1bad743071ff5cd09e8243498a729525695dc9171b264da4850a3154616e2b84"), looks := true }, kinds := [], alts := [], laidByText := true, laidKinds := [.handle], laidTests := true, laidLooks := .later }
def LinkStampsUptoCardSaid : Prop := Claim7.holds Tryd.pinned (.plain (OpenSpec.upto linkStampsSpec)) linkStampsUptoCard

/-- THE SECOND FORM's CARD OF 'synodallaw7.LinkPeers'. -/
def linkPeersUptoCard : Claim7 := { stood := { row := linkPeersUptoRow, standIns := [], harness := (true, "1bad743071ff5cd09e8243498a729525695dc9171b264da4850a3154616e2b84"), looks := true }, kinds := [], alts := [], laidByText := true, laidKinds := [.handle], laidTests := true, laidLooks := .later }
def LinkPeersUptoCardSaid : Prop := Claim7.holds Tryd.pinned (.plain (OpenSpec.upto linkPeersSpec)) linkPeersUptoCard
end Rows
end Go.Proofs.YtgkinjfinijnnaaDoor
