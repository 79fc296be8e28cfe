/-
  NARROWER THAN 'FOR EVERY INPUT', by the rows' own cells (each row's printed sentence says how): AcceptRises: laid · AcceptTells: laid · AcceptPlays: laid · AcceptPicks: laid · AcceptChosen: laid · AcceptOwn: laid.
  DERIVED. THE GIVEN ROWS OF THIS SEAT. 6 by the template 'for every input the law returns true; each argument reads behind the call as it read before'; 0 by the template 'total and deterministic' (their statements: YtgkhkcoojfjofaaDoorTotals.lean).
  GIVEN WITH THE SEED: the statements are not yours to turn. If you find one false, say at which input.
  Laid BY PROGRAM, IN A SANDBOX (cutbox-rows.mjs): the forced cells as the released guide's own fill.sh prints them over the translation c32478a395683a34… (all of the seat's roots in one cut). By AI agents, Wed Nov 11 2026. No macro, syntax, notation, axiom, sorry.
-/
import Derived.Test.YtgkhkcoojfjofaaDoorChecked
import GoSem.Claim
import GoSem.ClaimJoined
import GoSem.ClaimMapViews
import Derived.JoinedTies
import Derived.KernelRfl
namespace Go.Proofs.YtgkhkcoojfjofaaDoor
/- THE CELL 'sum', in the pinned program and in every row, IS THE sha256 OF THE DUMP (.gsa) THAT YtgkhkcoojfjofaaDoorProg.lean LOADS. Nothing in Lean hashes anything: it is a label: what it is worth is what the hold of that sum in a sandbox is worth. -/
noncomputable def Tryd.pinned : Pinned := { name := "ytgkhkcoojfjofaadoor", sum := "c32478a395683a349507e1ab2b5aaf2286a3867c204b51a012229945956f1c59", checked := Tryd.checked }
namespace Rows
def none {H : Type} : Left H := { results := [], args := [] }

/- WHAT THE LISTED PACKAGE-LEVEL VARIABLES READ AS WHEN THE CALL BEGINS. Each datum BY PROGRAM (the guide's laid-datum.mjs) off the statement by which the dump's own 'gosem.cut.vars' lays the variable. In a bare row this is a premise. The card (YtgkhkcoojfjofaaDoorCards.lean) ties it to the program's text. -/
def laid_errors_errorType {H : Type} : DataW H := .iface "internal/reflectlite.rtype" (.agg [.ptr (.lit (.string [101, 114, 114, 111, 114]))])

/-- 'synodallaw13.AcceptRises': WHATEVER THE INPUT: true; the input reads as it did. -/
def acceptRisesSpec : ChangeSpec := { name := "acceptRises", fn := fun _ => fun
  | [d] => { results := [.lit (.bool true)], args := [d] }
  | _ => none }
def acceptRisesRow : OpenClaim := { program := "ytgkhkcoojfjofaadoor", sum := "c32478a395683a349507e1ab2b5aaf2286a3867c204b51a012229945956f1c59", func := "synodal/synodallaw13.AcceptRises", spec := "acceptRises", inPlace := ["internal/reflectlite.TypeOf", "internal/reflectlite.ValueOf", "(internal/reflectlite.Value).Type", "(internal/reflectlite.Value).IsNil", "(internal/reflectlite.Value).Elem", "(internal/reflectlite.Value).Set"], unfollowed := true, recurses := true, named := ["errors.errorType"], apart := false, laid := [("errors.errorType", laid_errors_errorType)] }
def AcceptRisesSaid : Prop := acceptRisesRow.holds Tryd.pinned (OpenSpec.ofChange acceptRisesSpec)

/-- ITS FALSE NEIGHBOUR: 'it returns false'. Refute it at one input. -/
def acceptRisesWrong : ChangeSpec := { name := "acceptRises", fn := fun _ => fun
  | [d] => { results := [.lit (.bool false)], args := [d] }
  | _ => none }
def AcceptRisesWrongFalsely : Prop := acceptRisesRow.holds Tryd.pinned (OpenSpec.ofChange acceptRisesWrong)

/-- 'synodallaw13.AcceptTells': WHATEVER THE INPUT: true; the input reads as it did. -/
def acceptTellsSpec : ChangeSpec := { name := "acceptTells", fn := fun _ => fun
  | [d1, d2, d3] => { results := [.lit (.bool true)], args := [d1, d2, d3] }
  | _ => none }
def acceptTellsRow : OpenClaim := { program := "ytgkhkcoojfjofaadoor", sum := "c32478a395683a349507e1ab2b5aaf2286a3867c204b51a012229945956f1c59", func := "synodal/synodallaw13.AcceptTells", spec := "acceptTells", inPlace := ["internal/reflectlite.TypeOf", "internal/reflectlite.ValueOf", "(internal/reflectlite.Value).Type", "(internal/reflectlite.Value).IsNil", "(internal/reflectlite.Value).Elem", "(internal/reflectlite.Value).Set"], unfollowed := true, recurses := true, named := ["errors.errorType"], apart := false, laid := [("errors.errorType", laid_errors_errorType)] }
def AcceptTellsSaid : Prop := acceptTellsRow.holds Tryd.pinned (OpenSpec.ofChange acceptTellsSpec)

/-- ITS FALSE NEIGHBOUR: 'it returns false'. Refute it at one input. -/
def acceptTellsWrong : ChangeSpec := { name := "acceptTells", fn := fun _ => fun
  | [d1, d2, d3] => { results := [.lit (.bool false)], args := [d1, d2, d3] }
  | _ => none }
def AcceptTellsWrongFalsely : Prop := acceptTellsRow.holds Tryd.pinned (OpenSpec.ofChange acceptTellsWrong)

/-- 'synodallaw13.AcceptPlays': WHATEVER THE INPUT: true; the input reads as it did. -/
def acceptPlaysSpec : ChangeSpec := { name := "acceptPlays", fn := fun _ => fun
  | [d] => { results := [.lit (.bool true)], args := [d] }
  | _ => none }
def acceptPlaysRow : OpenClaim := { program := "ytgkhkcoojfjofaadoor", sum := "c32478a395683a349507e1ab2b5aaf2286a3867c204b51a012229945956f1c59", func := "synodal/synodallaw13.AcceptPlays", spec := "acceptPlays", inPlace := ["internal/reflectlite.TypeOf", "internal/reflectlite.ValueOf", "(internal/reflectlite.Value).Type", "(internal/reflectlite.Value).IsNil", "(internal/reflectlite.Value).Elem", "(internal/reflectlite.Value).Set"], unfollowed := true, recurses := true, named := ["errors.errorType"], apart := false, laid := [("errors.errorType", laid_errors_errorType)] }
def AcceptPlaysSaid : Prop := acceptPlaysRow.holds Tryd.pinned (OpenSpec.ofChange acceptPlaysSpec)

/-- ITS FALSE NEIGHBOUR: 'it returns false'. Refute it at one input. -/
def acceptPlaysWrong : ChangeSpec := { name := "acceptPlays", fn := fun _ => fun
  | [d] => { results := [.lit (.bool false)], args := [d] }
  | _ => none }
def AcceptPlaysWrongFalsely : Prop := acceptPlaysRow.holds Tryd.pinned (OpenSpec.ofChange acceptPlaysWrong)

/-- 'synodallaw13.AcceptPicks': WHATEVER THE INPUT: true; the input reads as it did. -/
def acceptPicksSpec : ChangeSpec := { name := "acceptPicks", fn := fun _ => fun
  | [d1, d2] => { results := [.lit (.bool true)], args := [d1, d2] }
  | _ => none }
def acceptPicksRow : OpenClaim := { program := "ytgkhkcoojfjofaadoor", sum := "c32478a395683a349507e1ab2b5aaf2286a3867c204b51a012229945956f1c59", func := "synodal/synodallaw13.AcceptPicks", spec := "acceptPicks", inPlace := ["internal/reflectlite.TypeOf", "internal/reflectlite.ValueOf", "(internal/reflectlite.Value).Type", "(internal/reflectlite.Value).IsNil", "(internal/reflectlite.Value).Elem", "(internal/reflectlite.Value).Set"], unfollowed := true, recurses := true, named := ["errors.errorType"], apart := false, laid := [("errors.errorType", laid_errors_errorType)] }
def AcceptPicksSaid : Prop := acceptPicksRow.holds Tryd.pinned (OpenSpec.ofChange acceptPicksSpec)

/-- ITS FALSE NEIGHBOUR: 'it returns false'. Refute it at one input. -/
def acceptPicksWrong : ChangeSpec := { name := "acceptPicks", fn := fun _ => fun
  | [d1, d2] => { results := [.lit (.bool false)], args := [d1, d2] }
  | _ => none }
def AcceptPicksWrongFalsely : Prop := acceptPicksRow.holds Tryd.pinned (OpenSpec.ofChange acceptPicksWrong)

/-- 'synodallaw13.AcceptChosen': WHATEVER THE INPUT: true; the input reads as it did. -/
def acceptChosenSpec : ChangeSpec := { name := "acceptChosen", fn := fun _ => fun
  | [d1, d2, d3, d4] => { results := [.lit (.bool true)], args := [d1, d2, d3, d4] }
  | _ => none }
def acceptChosenRow : OpenClaim := { program := "ytgkhkcoojfjofaadoor", sum := "c32478a395683a349507e1ab2b5aaf2286a3867c204b51a012229945956f1c59", func := "synodal/synodallaw13.AcceptChosen", spec := "acceptChosen", inPlace := ["internal/reflectlite.TypeOf", "internal/reflectlite.ValueOf", "(internal/reflectlite.Value).Type", "(internal/reflectlite.Value).IsNil", "(internal/reflectlite.Value).Elem", "(internal/reflectlite.Value).Set"], unfollowed := true, recurses := true, named := ["errors.errorType"], apart := false, laid := [("errors.errorType", laid_errors_errorType)] }
def AcceptChosenSaid : Prop := acceptChosenRow.holds Tryd.pinned (OpenSpec.ofChange acceptChosenSpec)

/-- ITS FALSE NEIGHBOUR: 'it returns false'. Refute it at one input. -/
def acceptChosenWrong : ChangeSpec := { name := "acceptChosen", fn := fun _ => fun
  | [d1, d2, d3, d4] => { results := [.lit (.bool false)], args := [d1, d2, d3, d4] }
  | _ => none }
def AcceptChosenWrongFalsely : Prop := acceptChosenRow.holds Tryd.pinned (OpenSpec.ofChange acceptChosenWrong)

/-- 'synodallaw13.AcceptOwn': WHATEVER THE INPUT: true; the input reads as it did. -/
def acceptOwnSpec : ChangeSpec := { name := "acceptOwn", fn := fun _ => fun
  | [d1, d2] => { results := [.lit (.bool true)], args := [d1, d2] }
  | _ => none }
def acceptOwnRow : OpenClaim := { program := "ytgkhkcoojfjofaadoor", sum := "c32478a395683a349507e1ab2b5aaf2286a3867c204b51a012229945956f1c59", func := "synodal/synodallaw13.AcceptOwn", spec := "acceptOwn", inPlace := ["internal/reflectlite.TypeOf", "internal/reflectlite.ValueOf", "(internal/reflectlite.Value).Type", "(internal/reflectlite.Value).IsNil", "(internal/reflectlite.Value).Elem", "(internal/reflectlite.Value).Set"], unfollowed := true, recurses := true, named := ["errors.errorType"], apart := false, laid := [("errors.errorType", laid_errors_errorType)] }
def AcceptOwnSaid : Prop := acceptOwnRow.holds Tryd.pinned (OpenSpec.ofChange acceptOwnSpec)

/-- ITS FALSE NEIGHBOUR: 'it returns false'. Refute it at one input. -/
def acceptOwnWrong : ChangeSpec := { name := "acceptOwn", fn := fun _ => fun
  | [d1, d2] => { results := [.lit (.bool false)], args := [d1, d2] }
  | _ => none }
def AcceptOwnWrongFalsely : Prop := acceptOwnRow.holds Tryd.pinned (OpenSpec.ofChange acceptOwnWrong)

/- THE SECOND FORM. 'bulk': how many values and letters a reading holds, each counted each time it is reached (what is shared counts as often as it is met; a slice's spare places count too). A statement '..UptoSaid' is the law's where the arguments, and the package variables that the reading takes, are together of bulk at most 1048576: NARROWER than '..Said'. Prove '..Said' where nothing that the law and all that it calls make is longer than what came in: it says more and counts as full. Else prove '..UptoSaid'. A law counts once. -/
mutual
def uptoBulk {H : Type} : DataW H → Nat
  | .lit (.string bytes) => bytes.length + 1
  | .lit _ => 1
  | .nil => 1
  | .ptr d => uptoBulk d + 1
  | .slice elems spare => uptoBulkAll elems + uptoBulkAll spare + 1
  | .agg parts => uptoBulkAll parts + 1
  | .iface _ d => uptoBulk d + 1
  | .map entries => uptoBulkEntries entries + 1
  | .held _ => 1
def uptoBulkAll {H : Type} : List (DataW H) → Nat
  | [] => 0
  | d :: r => uptoBulk d + uptoBulkAll r
def uptoBulkEntries {H : Type} : List (Lit × DataW H) → Nat
  | [] => 0
  | x :: r => uptoBulkEntry x + uptoBulkEntries r
def uptoBulkEntry {H : Type} : Lit × DataW H → Nat
  | (.string bytes, d) => bytes.length + uptoBulk d + 1
  | (_, d) => uptoBulk d + 1
 end
def uptoSmall : (H : Type) → List (DataW H) → Bool := fun _ ds => decide (uptoBulkAll ds ≤ 1048576)
def OpenSpec.upto (s : _root_.Go.ChangeSpec) : _root_.Go.OpenSpec := { _root_.Go.OpenSpec.ofChange s with cond := some uptoSmall }

/-- 'synodallaw13.AcceptRises', WHERE WHAT IT READS IS OF BULK AT MOST 1048576: true; the input reads as it did. -/
def acceptRisesUptoRow : OpenClaim := { program := "ytgkhkcoojfjofaadoor", sum := "c32478a395683a349507e1ab2b5aaf2286a3867c204b51a012229945956f1c59", func := "synodal/synodallaw13.AcceptRises", spec := "acceptRises", inPlace := ["internal/reflectlite.TypeOf", "internal/reflectlite.ValueOf", "(internal/reflectlite.Value).Type", "(internal/reflectlite.Value).IsNil", "(internal/reflectlite.Value).Elem", "(internal/reflectlite.Value).Set"], unfollowed := true, recurses := true, named := ["errors.errorType"], apart := false, laid := [("errors.errorType", laid_errors_errorType)], narrowed := true }
def AcceptRisesUptoSaid : Prop := acceptRisesUptoRow.holds Tryd.pinned (OpenSpec.upto acceptRisesSpec)

/-- 'synodallaw13.AcceptTells', WHERE WHAT IT READS IS OF BULK AT MOST 1048576: true; the input reads as it did. -/
def acceptTellsUptoRow : OpenClaim := { program := "ytgkhkcoojfjofaadoor", sum := "c32478a395683a349507e1ab2b5aaf2286a3867c204b51a012229945956f1c59", func := "synodal/synodallaw13.AcceptTells", spec := "acceptTells", inPlace := ["internal/reflectlite.TypeOf", "internal/reflectlite.ValueOf", "(internal/reflectlite.Value).Type", "(internal/reflectlite.Value).IsNil", "(internal/reflectlite.Value).Elem", "(internal/reflectlite.Value).Set"], unfollowed := true, recurses := true, named := ["errors.errorType"], apart := false, laid := [("errors.errorType", laid_errors_errorType)], narrowed := true }
def AcceptTellsUptoSaid : Prop := acceptTellsUptoRow.holds Tryd.pinned (OpenSpec.upto acceptTellsSpec)

/-- 'synodallaw13.AcceptPlays', WHERE WHAT IT READS IS OF BULK AT MOST 1048576: true; the input reads as it did. -/
def acceptPlaysUptoRow : OpenClaim := { program := "ytgkhkcoojfjofaadoor", sum := "c32478a395683a349507e1ab2b5aaf2286a3867c204b51a012229945956f1c59", func := "synodal/synodallaw13.AcceptPlays", spec := "acceptPlays", inPlace := ["internal/reflectlite.TypeOf", "internal/reflectlite.ValueOf", "(internal/reflectlite.Value).Type", "(internal/reflectlite.Value).IsNil", "(internal/reflectlite.Value).Elem", "(internal/reflectlite.Value).Set"], unfollowed := true, recurses := true, named := ["errors.errorType"], apart := false, laid := [("errors.errorType", laid_errors_errorType)], narrowed := true }
def AcceptPlaysUptoSaid : Prop := acceptPlaysUptoRow.holds Tryd.pinned (OpenSpec.upto acceptPlaysSpec)

/-- 'synodallaw13.AcceptPicks', WHERE WHAT IT READS IS OF BULK AT MOST 1048576: true; the input reads as it did. -/
def acceptPicksUptoRow : OpenClaim := { program := "ytgkhkcoojfjofaadoor", sum := "c32478a395683a349507e1ab2b5aaf2286a3867c204b51a012229945956f1c59", func := "synodal/synodallaw13.AcceptPicks", spec := "acceptPicks", inPlace := ["internal/reflectlite.TypeOf", "internal/reflectlite.ValueOf", "(internal/reflectlite.Value).Type", "(internal/reflectlite.Value).IsNil", "(internal/reflectlite.Value).Elem", "(internal/reflectlite.Value).Set"], unfollowed := true, recurses := true, named := ["errors.errorType"], apart := false, laid := [("errors.errorType", laid_errors_errorType)], narrowed := true }
def AcceptPicksUptoSaid : Prop := acceptPicksUptoRow.holds Tryd.pinned (OpenSpec.upto acceptPicksSpec)

/-- 'synodallaw13.AcceptChosen', WHERE WHAT IT READS IS OF BULK AT MOST 1048576: true; the input reads as it did. -/
def acceptChosenUptoRow : OpenClaim := { program := "ytgkhkcoojfjofaadoor", sum := "c32478a395683a349507e1ab2b5aaf2286a3867c204b51a012229945956f1c59", func := "synodal/synodallaw13.AcceptChosen", spec := "acceptChosen", inPlace := ["internal/reflectlite.TypeOf", "internal/reflectlite.ValueOf", "(internal/reflectlite.Value).Type", "(internal/reflectlite.Value).IsNil", "(internal/reflectlite.Value).Elem", "(internal/reflectlite.Value).Set"], unfollowed := true, recurses := true, named := ["errors.errorType"], apart := false, laid := [("errors.errorType", laid_errors_errorType)], narrowed := true }
def AcceptChosenUptoSaid : Prop := acceptChosenUptoRow.holds Tryd.pinned (OpenSpec.upto acceptChosenSpec)

/-- 'synodallaw13.AcceptOwn', WHERE WHAT IT READS IS OF BULK AT MOST 1048576: true; the input reads as it did. -/
def acceptOwnUptoRow : OpenClaim := { program := "ytgkhkcoojfjofaadoor", sum := "c32478a395683a349507e1ab2b5aaf2286a3867c204b51a012229945956f1c59", func := "synodal/synodallaw13.AcceptOwn", spec := "acceptOwn", inPlace := ["internal/reflectlite.TypeOf", "internal/reflectlite.ValueOf", "(internal/reflectlite.Value).Type", "(internal/reflectlite.Value).IsNil", "(internal/reflectlite.Value).Elem", "(internal/reflectlite.Value).Set"], unfollowed := true, recurses := true, named := ["errors.errorType"], apart := false, laid := [("errors.errorType", laid_errors_errorType)], narrowed := true }
def AcceptOwnUptoSaid : Prop := acceptOwnUptoRow.holds Tryd.pinned (OpenSpec.upto acceptOwnSpec)

end Rows
end Go.Proofs.YtgkhkcoojfjofaaDoor
