/-
  NARROWER THAN 'FOR EVERY INPUT', by the rows' own cells (each row's printed sentence says how): SealIndexes: laid · SealReads: laid · SealMany: laid.
  DERIVED. THE GIVEN ROWS OF THIS SEAT. 3 by the template 'for every input the law returns true; each argument reads behind the call as it read before'; 0 by the template 'total and deterministic' (their statements: YtjgdglbfnjjmmaaDoorTotals.lean).
  GIVEN WITH THE SEED: the statements are not yours to turn. If you find one false, say at which input.
  Laid BY PROGRAM, IN A SANDBOX (cutbox-rows.mjs): the forced cells as the released guide's own fill.sh prints them over the translation 831079c41ba87e29… (all of the seat's roots in one cut). By AI agents, Wed Nov 11 2026. No macro, syntax, notation, axiom, sorry.
-/
import Derived.Test.YtjgdglbfnjjmmaaDoorChecked
import GoSem.Claim
import GoSem.ClaimJoined
import GoSem.ClaimMapViews
import Derived.JoinedTies
import Derived.KernelRfl
namespace Go.Proofs.YtjgdglbfnjjmmaaDoor
/- THE CELL 'sum', in the pinned program and in every row, IS THE sha256 OF THE DUMP (.gsa) THAT YtjgdglbfnjjmmaaDoorProg.lean LOADS. Nothing in Lean hashes anything: it is a label: what it is worth is what the hold of that sum in a sandbox is worth. -/
noncomputable def Tryd.pinned : Pinned := { name := "ytjgdglbfnjjmmaadoor", sum := "831079c41ba87e29eafa9900f653ecd9f4b137774c52b81e5060840de2c54ee0", checked := Tryd.checked }
namespace Rows
def none {H : Type} : Left H := { results := [], args := [] }

/- WHAT THE LISTED PACKAGE-LEVEL VARIABLES READ AS WHEN THE CALL BEGINS. Each datum BY PROGRAM (the guide's laid-datum.mjs) off the statement by which the dump's own 'gosem.cut.vars' lays the variable. In a bare row this is a premise. The card (YtjgdglbfnjjmmaaDoorCards.lean) ties it to the program's text. -/
def laid_errors_errorType {H : Type} : DataW H := .iface "internal/reflectlite.rtype" (.agg [.ptr (.lit (.string [101, 114, 114, 111, 114]))])

/-- 'synodallaw17.SealIndexes': WHATEVER THE INPUT: true; the input reads as it did. -/
def sealIndexesSpec : ChangeSpec := { name := "sealIndexes", fn := fun _ => fun
  | [d1, d2] => { results := [.lit (.bool true)], args := [d1, d2] }
  | _ => none }
def sealIndexesRow : OpenClaim := { program := "ytjgdglbfnjjmmaadoor", sum := "831079c41ba87e29eafa9900f653ecd9f4b137774c52b81e5060840de2c54ee0", func := "synodal/synodallaw17.SealIndexes", spec := "sealIndexes", inPlace := ["internal/reflectlite.ValueOf", "(internal/reflectlite.Value).Type", "(internal/reflectlite.Value).IsNil", "internal/reflectlite.TypeOf", "(internal/reflectlite.Value).Elem", "(internal/reflectlite.Value).Set"], unfollowed := true, recurses := true, named := ["errors.errorType"], apart := false, laid := [("errors.errorType", laid_errors_errorType)] }
def SealIndexesSaid : Prop := sealIndexesRow.holds Tryd.pinned (OpenSpec.ofChange sealIndexesSpec)

/-- ITS FALSE NEIGHBOUR: 'it returns false'. Refute it at one input. -/
def sealIndexesWrong : ChangeSpec := { name := "sealIndexes", fn := fun _ => fun
  | [d1, d2] => { results := [.lit (.bool false)], args := [d1, d2] }
  | _ => none }
def SealIndexesWrongFalsely : Prop := sealIndexesRow.holds Tryd.pinned (OpenSpec.ofChange sealIndexesWrong)

/-- 'synodallaw17.SealReads': WHATEVER THE INPUT: true; the input reads as it did. -/
def sealReadsSpec : ChangeSpec := { name := "sealReads", fn := fun _ => fun
  | [d1, d2, d3, d4, d5, d6] => { results := [.lit (.bool true)], args := [d1, d2, d3, d4, d5, d6] }
  | _ => none }
def sealReadsRow : OpenClaim := { program := "ytjgdglbfnjjmmaadoor", sum := "831079c41ba87e29eafa9900f653ecd9f4b137774c52b81e5060840de2c54ee0", func := "synodal/synodallaw17.SealReads", spec := "sealReads", inPlace := ["internal/reflectlite.ValueOf", "(internal/reflectlite.Value).Type", "(internal/reflectlite.Value).IsNil", "internal/reflectlite.TypeOf", "(internal/reflectlite.Value).Elem", "(internal/reflectlite.Value).Set"], unfollowed := true, recurses := true, named := ["errors.errorType"], apart := false, laid := [("errors.errorType", laid_errors_errorType)] }
def SealReadsSaid : Prop := sealReadsRow.holds Tryd.pinned (OpenSpec.ofChange sealReadsSpec)

/-- ITS FALSE NEIGHBOUR: 'it returns false'. Refute it at one input. -/
def sealReadsWrong : ChangeSpec := { name := "sealReads", fn := fun _ => fun
  | [d1, d2, d3, d4, d5, d6] => { results := [.lit (.bool false)], args := [d1, d2, d3, d4, d5, d6] }
  | _ => none }
def SealReadsWrongFalsely : Prop := sealReadsRow.holds Tryd.pinned (OpenSpec.ofChange sealReadsWrong)

/-- 'synodallaw17.SealMany': WHATEVER THE INPUT: true; the input reads as it did. -/
def sealManySpec : ChangeSpec := { name := "sealMany", fn := fun _ => fun
  | [d1, d2] => { results := [.lit (.bool true)], args := [d1, d2] }
  | _ => none }
def sealManyRow : OpenClaim := { program := "ytjgdglbfnjjmmaadoor", sum := "831079c41ba87e29eafa9900f653ecd9f4b137774c52b81e5060840de2c54ee0", func := "synodal/synodallaw17.SealMany", spec := "sealMany", inPlace := ["internal/reflectlite.ValueOf", "(internal/reflectlite.Value).Type", "(internal/reflectlite.Value).IsNil", "internal/reflectlite.TypeOf", "(internal/reflectlite.Value).Elem", "(internal/reflectlite.Value).Set"], unfollowed := true, recurses := true, named := ["errors.errorType"], apart := false, laid := [("errors.errorType", laid_errors_errorType)] }
def SealManySaid : Prop := sealManyRow.holds Tryd.pinned (OpenSpec.ofChange sealManySpec)

/-- ITS FALSE NEIGHBOUR: 'it returns false'. Refute it at one input. -/
def sealManyWrong : ChangeSpec := { name := "sealMany", fn := fun _ => fun
  | [d1, d2] => { results := [.lit (.bool false)], args := [d1, d2] }
  | _ => none }
def SealManyWrongFalsely : Prop := sealManyRow.holds Tryd.pinned (OpenSpec.ofChange sealManyWrong)

/- THE SECOND FORM. 'bulk': how many values and letters a reading holds, each counted each time it is reached (what is shared counts as often as it is met; a slice's spare places count too). A statement '..UptoSaid' is the law's where the arguments, and the package variables that the reading takes, are together of bulk at most 1048576: NARROWER than '..Said'. Prove '..Said' where nothing that the law and all that it calls make is longer than what came in: it says more and counts as full. Else prove '..UptoSaid'. A law counts once. -/
mutual
def uptoBulk {H : Type} : DataW H → Nat
  | .lit (.string bytes) => bytes.length + 1
  | .lit _ => 1
  | .nil => 1
  | .ptr d => uptoBulk d + 1
  | .slice elems spare => uptoBulkAll elems + uptoBulkAll spare + 1
  | .agg parts => uptoBulkAll parts + 1
  | .iface _ d => uptoBulk d + 1
  | .map entries => uptoBulkEntries entries + 1
  | .held _ => 1
def uptoBulkAll {H : Type} : List (DataW H) → Nat
  | [] => 0
  | d :: r => uptoBulk d + uptoBulkAll r
def uptoBulkEntries {H : Type} : List (Lit × DataW H) → Nat
  | [] => 0
  | x :: r => uptoBulkEntry x + uptoBulkEntries r
def uptoBulkEntry {H : Type} : Lit × DataW H → Nat
  | (.string bytes, d) => bytes.length + uptoBulk d + 1
  | (_, d) => uptoBulk d + 1
 end
def uptoSmall : (H : Type) → List (DataW H) → Bool := fun _ ds => decide (uptoBulkAll ds ≤ 1048576)
def OpenSpec.upto (s : _root_.Go.ChangeSpec) : _root_.Go.OpenSpec := { _root_.Go.OpenSpec.ofChange s with cond := some uptoSmall }

/-- 'synodallaw17.SealIndexes', WHERE WHAT IT READS IS OF BULK AT MOST 1048576: true; the input reads as it did. -/
def sealIndexesUptoRow : OpenClaim := { program := "ytjgdglbfnjjmmaadoor", sum := "831079c41ba87e29eafa9900f653ecd9f4b137774c52b81e5060840de2c54ee0", func := "synodal/synodallaw17.SealIndexes", spec := "sealIndexes", inPlace := ["internal/reflectlite.ValueOf", "(internal/reflectlite.Value).Type", "(internal/reflectlite.Value).IsNil", "internal/reflectlite.TypeOf", "(internal/reflectlite.Value).Elem", "(internal/reflectlite.Value).Set"], unfollowed := true, recurses := true, named := ["errors.errorType"], apart := false, laid := [("errors.errorType", laid_errors_errorType)], narrowed := true }
def SealIndexesUptoSaid : Prop := sealIndexesUptoRow.holds Tryd.pinned (OpenSpec.upto sealIndexesSpec)

/-- 'synodallaw17.SealReads', WHERE WHAT IT READS IS OF BULK AT MOST 1048576: true; the input reads as it did. -/
def sealReadsUptoRow : OpenClaim := { program := "ytjgdglbfnjjmmaadoor", sum := "831079c41ba87e29eafa9900f653ecd9f4b137774c52b81e5060840de2c54ee0", func := "synodal/synodallaw17.SealReads", spec := "sealReads", inPlace := ["internal/reflectlite.ValueOf", "(internal/reflectlite.Value).Type", "(internal/reflectlite.Value).IsNil", "internal/reflectlite.TypeOf", "(internal/reflectlite.Value).Elem", "(internal/reflectlite.Value).Set"], unfollowed := true, recurses := true, named := ["errors.errorType"], apart := false, laid := [("errors.errorType", laid_errors_errorType)], narrowed := true }
def SealReadsUptoSaid : Prop := sealReadsUptoRow.holds Tryd.pinned (OpenSpec.upto sealReadsSpec)

/-- 'synodallaw17.SealMany', WHERE WHAT IT READS IS OF BULK AT MOST 1048576: true; the input reads as it did. -/
def sealManyUptoRow : OpenClaim := { program := "ytjgdglbfnjjmmaadoor", sum := "831079c41ba87e29eafa9900f653ecd9f4b137774c52b81e5060840de2c54ee0", func := "synodal/synodallaw17.SealMany", spec := "sealMany", inPlace := ["internal/reflectlite.ValueOf", "(internal/reflectlite.Value).Type", "(internal/reflectlite.Value).IsNil", "internal/reflectlite.TypeOf", "(internal/reflectlite.Value).Elem", "(internal/reflectlite.Value).Set"], unfollowed := true, recurses := true, named := ["errors.errorType"], apart := false, laid := [("errors.errorType", laid_errors_errorType)], narrowed := true }
def SealManyUptoSaid : Prop := sealManyUptoRow.holds Tryd.pinned (OpenSpec.upto sealManySpec)

end Rows
end Go.Proofs.YtjgdglbfnjjmmaaDoor
