/-
  DERIVED. GIVEN WITH THE SEED: THE CARDS: each row of YtgkhkcoojfjofaaDoorRows.lean that lists a variable, with what it lists TIED to the program's text (the seventh form; the later family's looks); each row that meets fmt, with fmt's text TOLD by the authors' own Lean function (tested against real Go, not proved from fmt's source: count such statements apart). THE CARD IS WHAT COUNTS. Prove the row's statement (the work); the ties are given (YtgkhkcoojfjofaaDoorTie.lean); close each card by the builder's one call (the guide's Derived/Test/ToyasCard.lean, 'card_holds'). Laid BY PROGRAM, IN A SANDBOX (cutbox-door.mjs). By AI agents, Wed Nov 11 2026. No macro, syntax, notation, axiom, sorry.
-/
import Derived.Test.YtgkhkcoojfjofaaDoorRows
import GoSem.ClaimSeven
namespace Go.Proofs.YtgkhkcoojfjofaaDoor
namespace Rows

/-- THE TIED CARD OF 'synodallaw13.AcceptRises'. -/
def acceptRisesCard : Claim7 := { stood := { row := acceptRisesRow, standIns := [], harness := (true, "bd88729e739a071b730520ecf50148d3539346b64f37e39cf94b01af7b6ac129"), looks := true }, kinds := [], alts := [], laidByText := true, laidKinds := [.handle], laidTests := true, laidLooks := .later }
def AcceptRisesCardSaid : Prop := Claim7.holds Tryd.pinned (.plain (OpenSpec.ofChange acceptRisesSpec)) acceptRisesCard

/-- THE TIED CARD OF 'synodallaw13.AcceptTells'. -/
def acceptTellsCard : Claim7 := { stood := { row := acceptTellsRow, standIns := [], harness := (true, "bd88729e739a071b730520ecf50148d3539346b64f37e39cf94b01af7b6ac129"), looks := true }, kinds := [], alts := [], laidByText := true, laidKinds := [.handle], laidTests := true, laidLooks := .later }
def AcceptTellsCardSaid : Prop := Claim7.holds Tryd.pinned (.plain (OpenSpec.ofChange acceptTellsSpec)) acceptTellsCard

/-- THE TIED CARD OF 'synodallaw13.AcceptPlays'. -/
def acceptPlaysCard : Claim7 := { stood := { row := acceptPlaysRow, standIns := [], harness := (true, "bd88729e739a071b730520ecf50148d3539346b64f37e39cf94b01af7b6ac129"), looks := true }, kinds := [], alts := [], laidByText := true, laidKinds := [.handle], laidTests := true, laidLooks := .later }
def AcceptPlaysCardSaid : Prop := Claim7.holds Tryd.pinned (.plain (OpenSpec.ofChange acceptPlaysSpec)) acceptPlaysCard

/-- THE TIED CARD OF 'synodallaw13.AcceptPicks'. -/
def acceptPicksCard : Claim7 := { stood := { row := acceptPicksRow, standIns := [], harness := (true, "bd88729e739a071b730520ecf50148d3539346b64f37e39cf94b01af7b6ac129"), looks := true }, kinds := [], alts := [], laidByText := true, laidKinds := [.handle], laidTests := true, laidLooks := .later }
def AcceptPicksCardSaid : Prop := Claim7.holds Tryd.pinned (.plain (OpenSpec.ofChange acceptPicksSpec)) acceptPicksCard

/-- THE TIED CARD OF 'synodallaw13.AcceptChosen'. -/
def acceptChosenCard : Claim7 := { stood := { row := acceptChosenRow, standIns := [], harness := (true, "bd88729e739a071b730520ecf50148d3539346b64f37e39cf94b01af7b6ac129"), looks := true }, kinds := [], alts := [], laidByText := true, laidKinds := [.handle], laidTests := true, laidLooks := .later }
def AcceptChosenCardSaid : Prop := Claim7.holds Tryd.pinned (.plain (OpenSpec.ofChange acceptChosenSpec)) acceptChosenCard

/-- THE TIED CARD OF 'synodallaw13.AcceptOwn'. -/
def acceptOwnCard : Claim7 := { stood := { row := acceptOwnRow, standIns := [], harness := (true, "bd88729e739a071b730520ecf50148d3539346b64f37e39cf94b01af7b6ac129"), looks := true }, kinds := [], alts := [], laidByText := true, laidKinds := [.handle], laidTests := true, laidLooks := .later }
def AcceptOwnCardSaid : Prop := Claim7.holds Tryd.pinned (.plain (OpenSpec.ofChange acceptOwnSpec)) acceptOwnCard

/-- THE SECOND FORM's CARD OF 'synodallaw13.AcceptRises'. -/
def acceptRisesUptoCard : Claim7 := { stood := { row := acceptRisesUptoRow, standIns := [], harness := (true, "bd88729e739a071b730520ecf50148d3539346b64f37e39cf94b01af7b6ac129"), looks := true }, kinds := [], alts := [], laidByText := true, laidKinds := [.handle], laidTests := true, laidLooks := .later }
def AcceptRisesUptoCardSaid : Prop := Claim7.holds Tryd.pinned (.plain (OpenSpec.upto acceptRisesSpec)) acceptRisesUptoCard

/-- THE SECOND FORM's CARD OF 'synodallaw13.AcceptTells'. -/
def acceptTellsUptoCard : Claim7 := { stood := { row := acceptTellsUptoRow, standIns := [], harness := (true, "bd88729e739a071b730520ecf50148d3539346b64f37e39cf94b01af7b6ac129"), looks := true }, kinds := [], alts := [], laidByText := true, laidKinds := [.handle], laidTests := true, laidLooks := .later }
def AcceptTellsUptoCardSaid : Prop := Claim7.holds Tryd.pinned (.plain (OpenSpec.upto acceptTellsSpec)) acceptTellsUptoCard

/-- THE SECOND FORM's CARD OF 'synodallaw13.AcceptPlays'. -/
def acceptPlaysUptoCard : Claim7 := { stood := { row := acceptPlaysUptoRow, standIns := [], harness := (true, "bd88729e739a071b730520ecf50148d3539346b64f37e39cf94b01af7b6ac129"), looks := true }, kinds := [], alts := [], laidByText := true, laidKinds := [.handle], laidTests := true, laidLooks := .later }
def AcceptPlaysUptoCardSaid : Prop := Claim7.holds Tryd.pinned (.plain (OpenSpec.upto acceptPlaysSpec)) acceptPlaysUptoCard

/-- THE SECOND FORM's CARD OF 'synodallaw13.AcceptPicks'. -/
def acceptPicksUptoCard : Claim7 := { stood := { row := acceptPicksUptoRow, standIns := [], harness := (true, "bd88729e739a071b730520ecf50148d3539346b64f37e39cf94b01af7b6ac129"), looks := true }, kinds := [], alts := [], laidByText := true, laidKinds := [.handle], laidTests := true, laidLooks := .later }
def AcceptPicksUptoCardSaid : Prop := Claim7.holds Tryd.pinned (.plain (OpenSpec.upto acceptPicksSpec)) acceptPicksUptoCard

/-- THE SECOND FORM's CARD OF 'synodallaw13.AcceptChosen'. -/
def acceptChosenUptoCard : Claim7 := { stood := { row := acceptChosenUptoRow, standIns := [], harness := (true, "bd88729e739a071b730520ecf50148d3539346b64f37e39cf94b01af7b6ac129"), looks := true }, kinds := [], alts := [], laidByText := true, laidKinds := [.handle], laidTests := true, laidLooks := .later }
def AcceptChosenUptoCardSaid : Prop := Claim7.holds Tryd.pinned (.plain (OpenSpec.upto acceptChosenSpec)) acceptChosenUptoCard

/-- THE SECOND FORM's CARD OF 'synodallaw13.AcceptOwn'. -/
def acceptOwnUptoCard : Claim7 := { stood := { row := acceptOwnUptoRow, standIns := [], harness := (true, "bd88729e739a071b730520ecf50148d3539346b64f37e39cf94b01af7b6ac129"), looks := true }, kinds := [], alts := [], laidByText := true, laidKinds := [.handle], laidTests := true, laidLooks := .later }
def AcceptOwnUptoCardSaid : Prop := Claim7.holds Tryd.pinned (.plain (OpenSpec.upto acceptOwnSpec)) acceptOwnUptoCard
end Rows
end Go.Proofs.YtgkhkcoojfjofaaDoor
