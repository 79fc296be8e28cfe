/-
  NARROWER THAN 'FOR EVERY INPUT', by the rows' own cells (each row's printed sentence says how): FaultApart: laid · FaultWraps: laid · FaultIs: laid · FaultNone: laid · FaultWords: laid · FaultBare: laid.
  DERIVED. THE GIVEN ROWS OF THIS SEAT. 6 by the template 'for every input the law returns true; each argument reads behind the call as it read before'; 0 by the template 'total and deterministic' (their statements: YtckdajpjnpgknaaDoorTotals.lean).
  GIVEN WITH THE SEED: the statements are not yours to turn. If you find one false, say at which input.
  Laid BY PROGRAM, IN A SANDBOX (cutbox-rows.mjs): the forced cells as the released guide's own fill.sh prints them over the translation 79666142f0f477d0… (all of the seat's roots in one cut). By AI agents, Wed Nov 11 2026. No macro, syntax, notation, axiom, sorry.
-/
import Derived.Test.YtckdajpjnpgknaaDoorChecked
import GoSem.Claim
import GoSem.ClaimJoined
import GoSem.ClaimMapViews
import Derived.JoinedTies
import Derived.KernelRfl
namespace Go.Proofs.YtckdajpjnpgknaaDoor
/- THE CELL 'sum', in the pinned program and in every row, IS THE sha256 OF THE DUMP (.gsa) THAT YtckdajpjnpgknaaDoorProg.lean LOADS. Nothing in Lean hashes anything: it is a label: what it is worth is what the hold of that sum in a sandbox is worth. -/
noncomputable def Tryd.pinned : Pinned := { name := "ytckdajpjnpgknaadoor", sum := "79666142f0f477d0897c423fcab5c47a5e05899ab221d768a5acc1aac675eaa3", checked := Tryd.checked }
namespace Rows
def none {H : Type} : Left H := { results := [], args := [] }

/- WHAT THE LISTED PACKAGE-LEVEL VARIABLES READ AS WHEN THE CALL BEGINS. Each datum BY PROGRAM (the guide's laid-datum.mjs) off the statement by which the dump's own 'gosem.cut.vars' lays the variable. In a bare row this is a premise. The card (YtckdajpjnpgknaaDoorCards.lean) ties it to the program's text. -/
def laid_errors_errorType {H : Type} : DataW H := .iface "internal/reflectlite.rtype" (.agg [.ptr (.lit (.string [101, 114, 114, 111, 114]))])

/-- 'synodallaw1.FaultApart': WHATEVER THE INPUT: true; the input reads as it did. -/
def faultApartSpec : ChangeSpec := { name := "faultApart", fn := fun _ => fun
  | [d1, d2, d3] => { results := [.lit (.bool true)], args := [d1, d2, d3] }
  | _ => none }
def faultApartRow : OpenClaim := { program := "ytckdajpjnpgknaadoor", sum := "79666142f0f477d0897c423fcab5c47a5e05899ab221d768a5acc1aac675eaa3", func := "synodal/synodallaw1.FaultApart", spec := "faultApart", inPlace := ["internal/reflectlite.ValueOf", "(internal/reflectlite.Value).Type", "(internal/reflectlite.Value).IsNil", "internal/reflectlite.TypeOf", "(internal/reflectlite.Value).Elem", "(internal/reflectlite.Value).Set"], unfollowed := true, recurses := true, named := ["errors.errorType"], apart := false, laid := [("errors.errorType", laid_errors_errorType)] }
def FaultApartSaid : Prop := faultApartRow.holds Tryd.pinned (OpenSpec.ofChange faultApartSpec)

/-- ITS FALSE NEIGHBOUR: 'it returns false'. Refute it at one input. -/
def faultApartWrong : ChangeSpec := { name := "faultApart", fn := fun _ => fun
  | [d1, d2, d3] => { results := [.lit (.bool false)], args := [d1, d2, d3] }
  | _ => none }
def FaultApartWrongFalsely : Prop := faultApartRow.holds Tryd.pinned (OpenSpec.ofChange faultApartWrong)

/-- 'synodallaw1.FaultWraps': WHATEVER THE INPUT: true; the input reads as it did. -/
def faultWrapsSpec : ChangeSpec := { name := "faultWraps", fn := fun _ => fun
  | [d1, d2] => { results := [.lit (.bool true)], args := [d1, d2] }
  | _ => none }
def faultWrapsRow : OpenClaim := { program := "ytckdajpjnpgknaadoor", sum := "79666142f0f477d0897c423fcab5c47a5e05899ab221d768a5acc1aac675eaa3", func := "synodal/synodallaw1.FaultWraps", spec := "faultWraps", inPlace := ["internal/reflectlite.ValueOf", "(internal/reflectlite.Value).Type", "(internal/reflectlite.Value).IsNil", "internal/reflectlite.TypeOf", "(internal/reflectlite.Value).Elem", "(internal/reflectlite.Value).Set"], unfollowed := true, recurses := true, named := ["errors.errorType"], apart := false, laid := [("errors.errorType", laid_errors_errorType)] }
def FaultWrapsSaid : Prop := faultWrapsRow.holds Tryd.pinned (OpenSpec.ofChange faultWrapsSpec)

/-- ITS FALSE NEIGHBOUR: 'it returns false'. Refute it at one input. -/
def faultWrapsWrong : ChangeSpec := { name := "faultWraps", fn := fun _ => fun
  | [d1, d2] => { results := [.lit (.bool false)], args := [d1, d2] }
  | _ => none }
def FaultWrapsWrongFalsely : Prop := faultWrapsRow.holds Tryd.pinned (OpenSpec.ofChange faultWrapsWrong)

/-- 'synodallaw1.FaultIs': WHATEVER THE INPUT: true; the input reads as it did. -/
def faultIsSpec : ChangeSpec := { name := "faultIs", fn := fun _ => fun
  | [d1, d2, d3, d4] => { results := [.lit (.bool true)], args := [d1, d2, d3, d4] }
  | _ => none }
def faultIsRow : OpenClaim := { program := "ytckdajpjnpgknaadoor", sum := "79666142f0f477d0897c423fcab5c47a5e05899ab221d768a5acc1aac675eaa3", func := "synodal/synodallaw1.FaultIs", spec := "faultIs", inPlace := ["internal/reflectlite.ValueOf", "(internal/reflectlite.Value).Type", "(internal/reflectlite.Value).IsNil", "internal/reflectlite.TypeOf", "(internal/reflectlite.Value).Elem", "(internal/reflectlite.Value).Set"], unfollowed := true, recurses := true, named := ["errors.errorType"], apart := false, laid := [("errors.errorType", laid_errors_errorType)] }
def FaultIsSaid : Prop := faultIsRow.holds Tryd.pinned (OpenSpec.ofChange faultIsSpec)

/-- ITS FALSE NEIGHBOUR: 'it returns false'. Refute it at one input. -/
def faultIsWrong : ChangeSpec := { name := "faultIs", fn := fun _ => fun
  | [d1, d2, d3, d4] => { results := [.lit (.bool false)], args := [d1, d2, d3, d4] }
  | _ => none }
def FaultIsWrongFalsely : Prop := faultIsRow.holds Tryd.pinned (OpenSpec.ofChange faultIsWrong)

/-- 'synodallaw1.FaultNone': WHATEVER THE INPUT: true; the input reads as it did. -/
def faultNoneSpec : ChangeSpec := { name := "faultNone", fn := fun _ => fun
  | [d1, d2] => { results := [.lit (.bool true)], args := [d1, d2] }
  | _ => none }
def faultNoneRow : OpenClaim := { program := "ytckdajpjnpgknaadoor", sum := "79666142f0f477d0897c423fcab5c47a5e05899ab221d768a5acc1aac675eaa3", func := "synodal/synodallaw1.FaultNone", spec := "faultNone", inPlace := ["internal/reflectlite.ValueOf", "(internal/reflectlite.Value).Type", "(internal/reflectlite.Value).IsNil", "internal/reflectlite.TypeOf", "(internal/reflectlite.Value).Elem", "(internal/reflectlite.Value).Set"], unfollowed := true, recurses := true, named := ["errors.errorType"], apart := false, laid := [("errors.errorType", laid_errors_errorType)] }
def FaultNoneSaid : Prop := faultNoneRow.holds Tryd.pinned (OpenSpec.ofChange faultNoneSpec)

/-- ITS FALSE NEIGHBOUR: 'it returns false'. Refute it at one input. -/
def faultNoneWrong : ChangeSpec := { name := "faultNone", fn := fun _ => fun
  | [d1, d2] => { results := [.lit (.bool false)], args := [d1, d2] }
  | _ => none }
def FaultNoneWrongFalsely : Prop := faultNoneRow.holds Tryd.pinned (OpenSpec.ofChange faultNoneWrong)

/-- 'synodallaw1.FaultWords': WHATEVER THE INPUT: true; the input reads as it did. -/
def faultWordsSpec : ChangeSpec := { name := "faultWords", fn := fun _ => fun
  | [d1, d2, d3, d4] => { results := [.lit (.bool true)], args := [d1, d2, d3, d4] }
  | _ => none }
def faultWordsRow : OpenClaim := { program := "ytckdajpjnpgknaadoor", sum := "79666142f0f477d0897c423fcab5c47a5e05899ab221d768a5acc1aac675eaa3", func := "synodal/synodallaw1.FaultWords", spec := "faultWords", inPlace := ["internal/reflectlite.ValueOf", "(internal/reflectlite.Value).Type", "(internal/reflectlite.Value).IsNil", "internal/reflectlite.TypeOf", "(internal/reflectlite.Value).Elem", "(internal/reflectlite.Value).Set"], unfollowed := true, recurses := true, named := ["errors.errorType"], apart := false, laid := [("errors.errorType", laid_errors_errorType)] }
def FaultWordsSaid : Prop := faultWordsRow.holds Tryd.pinned (OpenSpec.ofChange faultWordsSpec)

/-- ITS FALSE NEIGHBOUR: 'it returns false'. Refute it at one input. -/
def faultWordsWrong : ChangeSpec := { name := "faultWords", fn := fun _ => fun
  | [d1, d2, d3, d4] => { results := [.lit (.bool false)], args := [d1, d2, d3, d4] }
  | _ => none }
def FaultWordsWrongFalsely : Prop := faultWordsRow.holds Tryd.pinned (OpenSpec.ofChange faultWordsWrong)

/-- 'synodallaw1.FaultBare': WHATEVER THE INPUT: true; the input reads as it did. -/
def faultBareSpec : ChangeSpec := { name := "faultBare", fn := fun _ => fun
  | [d1, d2, d3] => { results := [.lit (.bool true)], args := [d1, d2, d3] }
  | _ => none }
def faultBareRow : OpenClaim := { program := "ytckdajpjnpgknaadoor", sum := "79666142f0f477d0897c423fcab5c47a5e05899ab221d768a5acc1aac675eaa3", func := "synodal/synodallaw1.FaultBare", spec := "faultBare", inPlace := ["internal/reflectlite.ValueOf", "(internal/reflectlite.Value).Type", "(internal/reflectlite.Value).IsNil", "internal/reflectlite.TypeOf", "(internal/reflectlite.Value).Elem", "(internal/reflectlite.Value).Set"], unfollowed := true, recurses := true, named := ["errors.errorType"], apart := false, laid := [("errors.errorType", laid_errors_errorType)] }
def FaultBareSaid : Prop := faultBareRow.holds Tryd.pinned (OpenSpec.ofChange faultBareSpec)

/-- ITS FALSE NEIGHBOUR: 'it returns false'. Refute it at one input. -/
def faultBareWrong : ChangeSpec := { name := "faultBare", fn := fun _ => fun
  | [d1, d2, d3] => { results := [.lit (.bool false)], args := [d1, d2, d3] }
  | _ => none }
def FaultBareWrongFalsely : Prop := faultBareRow.holds Tryd.pinned (OpenSpec.ofChange faultBareWrong)

/- THE SECOND FORM. 'bulk': how many values and letters a reading holds, each counted each time it is reached (what is shared counts as often as it is met; a slice's spare places count too). A statement '..UptoSaid' is the law's where the arguments, and the package variables that the reading takes, are together of bulk at most 1048576: NARROWER than '..Said'. Prove '..Said' where nothing that the law and all that it calls make is longer than what came in: it says more and counts as full. Else prove '..UptoSaid'. A law counts once. -/
mutual
def uptoBulk {H : Type} : DataW H → Nat
  | .lit (.string bytes) => bytes.length + 1
  | .lit _ => 1
  | .nil => 1
  | .ptr d => uptoBulk d + 1
  | .slice elems spare => uptoBulkAll elems + uptoBulkAll spare + 1
  | .agg parts => uptoBulkAll parts + 1
  | .iface _ d => uptoBulk d + 1
  | .map entries => uptoBulkEntries entries + 1
  | .held _ => 1
def uptoBulkAll {H : Type} : List (DataW H) → Nat
  | [] => 0
  | d :: r => uptoBulk d + uptoBulkAll r
def uptoBulkEntries {H : Type} : List (Lit × DataW H) → Nat
  | [] => 0
  | x :: r => uptoBulkEntry x + uptoBulkEntries r
def uptoBulkEntry {H : Type} : Lit × DataW H → Nat
  | (.string bytes, d) => bytes.length + uptoBulk d + 1
  | (_, d) => uptoBulk d + 1
 end
def uptoSmall : (H : Type) → List (DataW H) → Bool := fun _ ds => decide (uptoBulkAll ds ≤ 1048576)
def OpenSpec.upto (s : _root_.Go.ChangeSpec) : _root_.Go.OpenSpec := { _root_.Go.OpenSpec.ofChange s with cond := some uptoSmall }

/-- 'synodallaw1.FaultApart', WHERE WHAT IT READS IS OF BULK AT MOST 1048576: true; the input reads as it did. -/
def faultApartUptoRow : OpenClaim := { program := "ytckdajpjnpgknaadoor", sum := "79666142f0f477d0897c423fcab5c47a5e05899ab221d768a5acc1aac675eaa3", func := "synodal/synodallaw1.FaultApart", spec := "faultApart", inPlace := ["internal/reflectlite.ValueOf", "(internal/reflectlite.Value).Type", "(internal/reflectlite.Value).IsNil", "internal/reflectlite.TypeOf", "(internal/reflectlite.Value).Elem", "(internal/reflectlite.Value).Set"], unfollowed := true, recurses := true, named := ["errors.errorType"], apart := false, laid := [("errors.errorType", laid_errors_errorType)], narrowed := true }
def FaultApartUptoSaid : Prop := faultApartUptoRow.holds Tryd.pinned (OpenSpec.upto faultApartSpec)

/-- 'synodallaw1.FaultWraps', WHERE WHAT IT READS IS OF BULK AT MOST 1048576: true; the input reads as it did. -/
def faultWrapsUptoRow : OpenClaim := { program := "ytckdajpjnpgknaadoor", sum := "79666142f0f477d0897c423fcab5c47a5e05899ab221d768a5acc1aac675eaa3", func := "synodal/synodallaw1.FaultWraps", spec := "faultWraps", inPlace := ["internal/reflectlite.ValueOf", "(internal/reflectlite.Value).Type", "(internal/reflectlite.Value).IsNil", "internal/reflectlite.TypeOf", "(internal/reflectlite.Value).Elem", "(internal/reflectlite.Value).Set"], unfollowed := true, recurses := true, named := ["errors.errorType"], apart := false, laid := [("errors.errorType", laid_errors_errorType)], narrowed := true }
def FaultWrapsUptoSaid : Prop := faultWrapsUptoRow.holds Tryd.pinned (OpenSpec.upto faultWrapsSpec)

/-- 'synodallaw1.FaultIs', WHERE WHAT IT READS IS OF BULK AT MOST 1048576: true; the input reads as it did. -/
def faultIsUptoRow : OpenClaim := { program := "ytckdajpjnpgknaadoor", sum := "79666142f0f477d0897c423fcab5c47a5e05899ab221d768a5acc1aac675eaa3", func := "synodal/synodallaw1.FaultIs", spec := "faultIs", inPlace := ["internal/reflectlite.ValueOf", "(internal/reflectlite.Value).Type", "(internal/reflectlite.Value).IsNil", "internal/reflectlite.TypeOf", "(internal/reflectlite.Value).Elem", "(internal/reflectlite.Value).Set"], unfollowed := true, recurses := true, named := ["errors.errorType"], apart := false, laid := [("errors.errorType", laid_errors_errorType)], narrowed := true }
def FaultIsUptoSaid : Prop := faultIsUptoRow.holds Tryd.pinned (OpenSpec.upto faultIsSpec)

/-- 'synodallaw1.FaultNone', WHERE WHAT IT READS IS OF BULK AT MOST 1048576: true; the input reads as it did. -/
def faultNoneUptoRow : OpenClaim := { program := "ytckdajpjnpgknaadoor", sum := "79666142f0f477d0897c423fcab5c47a5e05899ab221d768a5acc1aac675eaa3", func := "synodal/synodallaw1.FaultNone", spec := "faultNone", inPlace := ["internal/reflectlite.ValueOf", "(internal/reflectlite.Value).Type", "(internal/reflectlite.Value).IsNil", "internal/reflectlite.TypeOf", "(internal/reflectlite.Value).Elem", "(internal/reflectlite.Value).Set"], unfollowed := true, recurses := true, named := ["errors.errorType"], apart := false, laid := [("errors.errorType", laid_errors_errorType)], narrowed := true }
def FaultNoneUptoSaid : Prop := faultNoneUptoRow.holds Tryd.pinned (OpenSpec.upto faultNoneSpec)

/-- 'synodallaw1.FaultWords', WHERE WHAT IT READS IS OF BULK AT MOST 1048576: true; the input reads as it did. -/
def faultWordsUptoRow : OpenClaim := { program := "ytckdajpjnpgknaadoor", sum := "79666142f0f477d0897c423fcab5c47a5e05899ab221d768a5acc1aac675eaa3", func := "synodal/synodallaw1.FaultWords", spec := "faultWords", inPlace := ["internal/reflectlite.ValueOf", "(internal/reflectlite.Value).Type", "(internal/reflectlite.Value).IsNil", "internal/reflectlite.TypeOf", "(internal/reflectlite.Value).Elem", "(internal/reflectlite.Value).Set"], unfollowed := true, recurses := true, named := ["errors.errorType"], apart := false, laid := [("errors.errorType", laid_errors_errorType)], narrowed := true }
def FaultWordsUptoSaid : Prop := faultWordsUptoRow.holds Tryd.pinned (OpenSpec.upto faultWordsSpec)

/-- 'synodallaw1.FaultBare', WHERE WHAT IT READS IS OF BULK AT MOST 1048576: true; the input reads as it did. -/
def faultBareUptoRow : OpenClaim := { program := "ytckdajpjnpgknaadoor", sum := "79666142f0f477d0897c423fcab5c47a5e05899ab221d768a5acc1aac675eaa3", func := "synodal/synodallaw1.FaultBare", spec := "faultBare", inPlace := ["internal/reflectlite.ValueOf", "(internal/reflectlite.Value).Type", "(internal/reflectlite.Value).IsNil", "internal/reflectlite.TypeOf", "(internal/reflectlite.Value).Elem", "(internal/reflectlite.Value).Set"], unfollowed := true, recurses := true, named := ["errors.errorType"], apart := false, laid := [("errors.errorType", laid_errors_errorType)], narrowed := true }
def FaultBareUptoSaid : Prop := faultBareUptoRow.holds Tryd.pinned (OpenSpec.upto faultBareSpec)

end Rows
end Go.Proofs.YtckdajpjnpgknaaDoor
