/-
  NARROWER THAN 'FOR EVERY INPUT', by the rows' own cells (each row's printed sentence says how): ClientAsks: laid · ClientPlaces: laid · ClientAgain: laid · ClientFillers: laid.
  DERIVED. THE GIVEN ROWS OF THIS SEAT. 4 by the template 'for every input the law returns true; each argument reads behind the call as it read before'; 0 by the template 'total and deterministic' (their statements: YtacbebkaammcnaaDoorTotals.lean).
  GIVEN WITH THE SEED: the statements are not yours to turn. If you find one false, say at which input.
  Laid BY PROGRAM, IN A SANDBOX (cutbox-rows.mjs): the forced cells as the released guide's own fill.sh prints them over the translation f4d04809dbb94c13… (all of the seat's roots in one cut). By AI agents, Wed Nov 11 2026. No macro, syntax, notation, axiom, sorry.
-/
import Derived.Test.YtacbebkaammcnaaDoorChecked
import GoSem.Claim
import GoSem.ClaimJoined
import GoSem.ClaimMapViews
import Derived.JoinedTies
import Derived.KernelRfl
namespace Go.Proofs.YtacbebkaammcnaaDoor
/- THE CELL 'sum', in the pinned program and in every row, IS THE sha256 OF THE DUMP (.gsa) THAT YtacbebkaammcnaaDoorProg.lean LOADS. Nothing in Lean hashes anything: it is a label: what it is worth is what the hold of that sum in a sandbox is worth. -/
noncomputable def Tryd.pinned : Pinned := { name := "ytacbebkaammcnaadoor", sum := "f4d04809dbb94c1311d16444486248daea830df8ffd043d9e53dec6346a091cf", checked := Tryd.checked }
namespace Rows
def none {H : Type} : Left H := { results := [], args := [] }

/- WHAT THE LISTED PACKAGE-LEVEL VARIABLES READ AS WHEN THE CALL BEGINS. Each datum BY PROGRAM (the guide's laid-datum.mjs) off the statement by which the dump's own 'gosem.cut.vars' lays the variable. In a bare row this is a premise. The card (YtacbebkaammcnaaDoorCards.lean) ties it to the program's text. -/
def laid_errors_errorType {H : Type} : DataW H := .iface "internal/reflectlite.rtype" (.agg [.ptr (.lit (.string [101, 114, 114, 111, 114]))])

/-- 'synodallaw18.ClientAsks': WHATEVER THE INPUT: true; the input reads as it did. -/
def clientAsksSpec : ChangeSpec := { name := "clientAsks", fn := fun _ => fun
  | [d1, d2] => { results := [.lit (.bool true)], args := [d1, d2] }
  | _ => none }
def clientAsksRow : OpenClaim := { program := "ytacbebkaammcnaadoor", sum := "f4d04809dbb94c1311d16444486248daea830df8ffd043d9e53dec6346a091cf", func := "synodal/synodallaw18.ClientAsks", spec := "clientAsks", inPlace := ["internal/reflectlite.TypeOf", "internal/reflectlite.ValueOf", "(internal/reflectlite.Value).Type", "(internal/reflectlite.Value).IsNil", "(internal/reflectlite.Value).Elem", "(internal/reflectlite.Value).Set"], unfollowed := true, recurses := true, named := ["errors.errorType"], plainKeys := false, apart := false, laid := [("errors.errorType", laid_errors_errorType)] }
def ClientAsksSaid : Prop := clientAsksRow.holds Tryd.pinned (OpenSpec.ofChange clientAsksSpec)

/-- ITS FALSE NEIGHBOUR: 'it returns false'. Refute it at one input. -/
def clientAsksWrong : ChangeSpec := { name := "clientAsks", fn := fun _ => fun
  | [d1, d2] => { results := [.lit (.bool false)], args := [d1, d2] }
  | _ => none }
def ClientAsksWrongFalsely : Prop := clientAsksRow.holds Tryd.pinned (OpenSpec.ofChange clientAsksWrong)

/-- 'synodallaw18.ClientPlaces': WHATEVER THE INPUT: true; the input reads as it did. -/
def clientPlacesSpec : ChangeSpec := { name := "clientPlaces", fn := fun _ => fun
  | [d1, d2] => { results := [.lit (.bool true)], args := [d1, d2] }
  | _ => none }
def clientPlacesRow : OpenClaim := { program := "ytacbebkaammcnaadoor", sum := "f4d04809dbb94c1311d16444486248daea830df8ffd043d9e53dec6346a091cf", func := "synodal/synodallaw18.ClientPlaces", spec := "clientPlaces", inPlace := ["internal/reflectlite.TypeOf", "internal/reflectlite.ValueOf", "(internal/reflectlite.Value).Type", "(internal/reflectlite.Value).IsNil", "(internal/reflectlite.Value).Elem", "(internal/reflectlite.Value).Set"], unfollowed := true, recurses := true, named := ["errors.errorType"], plainKeys := false, apart := false, laid := [("errors.errorType", laid_errors_errorType)] }
def ClientPlacesSaid : Prop := clientPlacesRow.holds Tryd.pinned (OpenSpec.ofChange clientPlacesSpec)

/-- ITS FALSE NEIGHBOUR: 'it returns false'. Refute it at one input. -/
def clientPlacesWrong : ChangeSpec := { name := "clientPlaces", fn := fun _ => fun
  | [d1, d2] => { results := [.lit (.bool false)], args := [d1, d2] }
  | _ => none }
def ClientPlacesWrongFalsely : Prop := clientPlacesRow.holds Tryd.pinned (OpenSpec.ofChange clientPlacesWrong)

/-- 'synodallaw18.ClientAgain': WHATEVER THE INPUT: true; the input reads as it did. -/
def clientAgainSpec : ChangeSpec := { name := "clientAgain", fn := fun _ => fun
  | [d] => { results := [.lit (.bool true)], args := [d] }
  | _ => none }
def clientAgainRow : OpenClaim := { program := "ytacbebkaammcnaadoor", sum := "f4d04809dbb94c1311d16444486248daea830df8ffd043d9e53dec6346a091cf", func := "synodal/synodallaw18.ClientAgain", spec := "clientAgain", inPlace := ["internal/reflectlite.TypeOf", "internal/reflectlite.ValueOf", "(internal/reflectlite.Value).Type", "(internal/reflectlite.Value).IsNil", "(internal/reflectlite.Value).Elem", "(internal/reflectlite.Value).Set"], unfollowed := true, recurses := true, named := ["errors.errorType"], plainKeys := false, apart := false, laid := [("errors.errorType", laid_errors_errorType)] }
def ClientAgainSaid : Prop := clientAgainRow.holds Tryd.pinned (OpenSpec.ofChange clientAgainSpec)

/-- ITS FALSE NEIGHBOUR: 'it returns false'. Refute it at one input. -/
def clientAgainWrong : ChangeSpec := { name := "clientAgain", fn := fun _ => fun
  | [d] => { results := [.lit (.bool false)], args := [d] }
  | _ => none }
def ClientAgainWrongFalsely : Prop := clientAgainRow.holds Tryd.pinned (OpenSpec.ofChange clientAgainWrong)

/-- 'synodallaw18.ClientFillers': WHATEVER THE INPUT: true; the input reads as it did. -/
def clientFillersSpec : ChangeSpec := { name := "clientFillers", fn := fun _ => fun
  | [d1, d2, d3] => { results := [.lit (.bool true)], args := [d1, d2, d3] }
  | _ => none }
def clientFillersRow : OpenClaim := { program := "ytacbebkaammcnaadoor", sum := "f4d04809dbb94c1311d16444486248daea830df8ffd043d9e53dec6346a091cf", func := "synodal/synodallaw18.ClientFillers", spec := "clientFillers", inPlace := ["internal/reflectlite.TypeOf", "internal/reflectlite.ValueOf", "(internal/reflectlite.Value).Type", "(internal/reflectlite.Value).IsNil", "(internal/reflectlite.Value).Elem", "(internal/reflectlite.Value).Set"], unfollowed := true, recurses := true, named := ["errors.errorType"], plainKeys := false, apart := false, laid := [("errors.errorType", laid_errors_errorType)] }
def ClientFillersSaid : Prop := clientFillersRow.holds Tryd.pinned (OpenSpec.ofChange clientFillersSpec)

/-- ITS FALSE NEIGHBOUR: 'it returns false'. Refute it at one input. -/
def clientFillersWrong : ChangeSpec := { name := "clientFillers", fn := fun _ => fun
  | [d1, d2, d3] => { results := [.lit (.bool false)], args := [d1, d2, d3] }
  | _ => none }
def ClientFillersWrongFalsely : Prop := clientFillersRow.holds Tryd.pinned (OpenSpec.ofChange clientFillersWrong)

/- THE SECOND FORM. 'bulk': how many values and letters a reading holds, each counted each time it is reached (what is shared counts as often as it is met; a slice's spare places count too). A statement '..UptoSaid' is the law's where the arguments, and the package variables that the reading takes, are together of bulk at most 1048576: NARROWER than '..Said'. Prove '..Said' where nothing that the law and all that it calls make is longer than what came in: it says more and counts as full. Else prove '..UptoSaid'. A law counts once. -/
mutual
def uptoBulk {H : Type} : DataW H → Nat
  | .lit (.string bytes) => bytes.length + 1
  | .lit _ => 1
  | .nil => 1
  | .ptr d => uptoBulk d + 1
  | .slice elems spare => uptoBulkAll elems + uptoBulkAll spare + 1
  | .agg parts => uptoBulkAll parts + 1
  | .iface _ d => uptoBulk d + 1
  | .map entries => uptoBulkEntries entries + 1
  | .held _ => 1
def uptoBulkAll {H : Type} : List (DataW H) → Nat
  | [] => 0
  | d :: r => uptoBulk d + uptoBulkAll r
def uptoBulkEntries {H : Type} : List (Lit × DataW H) → Nat
  | [] => 0
  | x :: r => uptoBulkEntry x + uptoBulkEntries r
def uptoBulkEntry {H : Type} : Lit × DataW H → Nat
  | (.string bytes, d) => bytes.length + uptoBulk d + 1
  | (_, d) => uptoBulk d + 1
 end
def uptoSmall : (H : Type) → List (DataW H) → Bool := fun _ ds => decide (uptoBulkAll ds ≤ 1048576)
def OpenSpec.upto (s : _root_.Go.ChangeSpec) : _root_.Go.OpenSpec := { _root_.Go.OpenSpec.ofChange s with cond := some uptoSmall }

/-- 'synodallaw18.ClientAsks', WHERE WHAT IT READS IS OF BULK AT MOST 1048576: true; the input reads as it did. -/
def clientAsksUptoRow : OpenClaim := { program := "ytacbebkaammcnaadoor", sum := "f4d04809dbb94c1311d16444486248daea830df8ffd043d9e53dec6346a091cf", func := "synodal/synodallaw18.ClientAsks", spec := "clientAsks", inPlace := ["internal/reflectlite.TypeOf", "internal/reflectlite.ValueOf", "(internal/reflectlite.Value).Type", "(internal/reflectlite.Value).IsNil", "(internal/reflectlite.Value).Elem", "(internal/reflectlite.Value).Set"], unfollowed := true, recurses := true, named := ["errors.errorType"], plainKeys := false, apart := false, laid := [("errors.errorType", laid_errors_errorType)], narrowed := true }
def ClientAsksUptoSaid : Prop := clientAsksUptoRow.holds Tryd.pinned (OpenSpec.upto clientAsksSpec)

/-- 'synodallaw18.ClientPlaces', WHERE WHAT IT READS IS OF BULK AT MOST 1048576: true; the input reads as it did. -/
def clientPlacesUptoRow : OpenClaim := { program := "ytacbebkaammcnaadoor", sum := "f4d04809dbb94c1311d16444486248daea830df8ffd043d9e53dec6346a091cf", func := "synodal/synodallaw18.ClientPlaces", spec := "clientPlaces", inPlace := ["internal/reflectlite.TypeOf", "internal/reflectlite.ValueOf", "(internal/reflectlite.Value).Type", "(internal/reflectlite.Value).IsNil", "(internal/reflectlite.Value).Elem", "(internal/reflectlite.Value).Set"], unfollowed := true, recurses := true, named := ["errors.errorType"], plainKeys := false, apart := false, laid := [("errors.errorType", laid_errors_errorType)], narrowed := true }
def ClientPlacesUptoSaid : Prop := clientPlacesUptoRow.holds Tryd.pinned (OpenSpec.upto clientPlacesSpec)

/-- 'synodallaw18.ClientAgain', WHERE WHAT IT READS IS OF BULK AT MOST 1048576: true; the input reads as it did. -/
def clientAgainUptoRow : OpenClaim := { program := "ytacbebkaammcnaadoor", sum := "f4d04809dbb94c1311d16444486248daea830df8ffd043d9e53dec6346a091cf", func := "synodal/synodallaw18.ClientAgain", spec := "clientAgain", inPlace := ["internal/reflectlite.TypeOf", "internal/reflectlite.ValueOf", "(internal/reflectlite.Value).Type", "(internal/reflectlite.Value).IsNil", "(internal/reflectlite.Value).Elem", "(internal/reflectlite.Value).Set"], unfollowed := true, recurses := true, named := ["errors.errorType"], plainKeys := false, apart := false, laid := [("errors.errorType", laid_errors_errorType)], narrowed := true }
def ClientAgainUptoSaid : Prop := clientAgainUptoRow.holds Tryd.pinned (OpenSpec.upto clientAgainSpec)

/-- 'synodallaw18.ClientFillers', WHERE WHAT IT READS IS OF BULK AT MOST 1048576: true; the input reads as it did. -/
def clientFillersUptoRow : OpenClaim := { program := "ytacbebkaammcnaadoor", sum := "f4d04809dbb94c1311d16444486248daea830df8ffd043d9e53dec6346a091cf", func := "synodal/synodallaw18.ClientFillers", spec := "clientFillers", inPlace := ["internal/reflectlite.TypeOf", "internal/reflectlite.ValueOf", "(internal/reflectlite.Value).Type", "(internal/reflectlite.Value).IsNil", "(internal/reflectlite.Value).Elem", "(internal/reflectlite.Value).Set"], unfollowed := true, recurses := true, named := ["errors.errorType"], plainKeys := false, apart := false, laid := [("errors.errorType", laid_errors_errorType)], narrowed := true }
def ClientFillersUptoSaid : Prop := clientFillersUptoRow.holds Tryd.pinned (OpenSpec.upto clientFillersSpec)

end Rows
end Go.Proofs.YtacbebkaammcnaaDoor
