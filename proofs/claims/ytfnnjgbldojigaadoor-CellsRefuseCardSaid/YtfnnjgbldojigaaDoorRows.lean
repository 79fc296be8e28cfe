/-
  NARROWER THAN 'FOR EVERY INPUT', by the rows' own cells (each row's printed sentence says how): WalEcho: laid · WalLong: laid · WalTails: laid · WalPlays: laid · WalCrashes: laid · WalKeeps: laid · CellsRefuse: laid · CellsOwn: laid · CellsPlay: laid · CellsCrash: laid.
  DERIVED. THE GIVEN ROWS OF THIS SEAT. 10 by the template 'for every input the law returns true; each argument reads behind the call as it read before'; 0 by the template 'total and deterministic' (their statements: YtfnnjgbldojigaaDoorTotals.lean).
  GIVEN WITH THE SEED: the statements are not yours to turn. If you find one false, say at which input.
  Laid BY PROGRAM, IN A SANDBOX (cutbox-rows.mjs): the forced cells as the released guide's own fill.sh prints them over the translation dfcaf8116373373d… (all of the seat's roots in one cut). By AI agents, Wed Nov 11 2026. No macro, syntax, notation, axiom, sorry.
-/
import Derived.Test.YtfnnjgbldojigaaDoorChecked
import GoSem.Claim
import GoSem.ClaimJoined
import GoSem.ClaimMapViews
import Derived.JoinedTies
import Derived.KernelRfl
namespace Go.Proofs.YtfnnjgbldojigaaDoor
/- THE CELL 'sum', in the pinned program and in every row, IS THE sha256 OF THE DUMP (.gsa) THAT YtfnnjgbldojigaaDoorProg.lean LOADS. Nothing in Lean hashes anything: it is a label: what it is worth is what the hold of that sum in a sandbox is worth. -/
noncomputable def Tryd.pinned : Pinned := { name := "ytfnnjgbldojigaadoor", sum := "dfcaf8116373373d29a17c20b006c9af91dd1f9436a5a800a903cd1ed967c168", checked := Tryd.checked }
namespace Rows
def none {H : Type} : Left H := { results := [], args := [] }

/- WHAT THE LISTED PACKAGE-LEVEL VARIABLES READ AS WHEN THE CALL BEGINS. Each datum BY PROGRAM (the guide's laid-datum.mjs) off the statement by which the dump's own 'gosem.cut.vars' lays the variable. In a bare row this is a premise. The card (YtfnnjgbldojigaaDoorCards.lean) ties it to the program's text. -/
def laid_errors_errorType {H : Type} : DataW H := .iface "internal/reflectlite.rtype" (.agg [.ptr (.lit (.string [101, 114, 114, 111, 114]))])

/-- 'synodallaw4.WalEcho': WHATEVER THE INPUT: true; the input reads as it did. -/
def walEchoSpec : ChangeSpec := { name := "walEcho", fn := fun _ => fun
  | [d1, d2] => { results := [.lit (.bool true)], args := [d1, d2] }
  | _ => none }
def walEchoRow : OpenClaim := { program := "ytfnnjgbldojigaadoor", sum := "dfcaf8116373373d29a17c20b006c9af91dd1f9436a5a800a903cd1ed967c168", func := "synodal/synodallaw4.WalEcho", spec := "walEcho", inPlace := ["internal/reflectlite.TypeOf", "internal/reflectlite.ValueOf", "(internal/reflectlite.Value).Type", "(internal/reflectlite.Value).IsNil", "(internal/reflectlite.Value).Elem", "(internal/reflectlite.Value).Set"], unfollowed := true, recurses := true, named := ["errors.errorType"], apart := false, laid := [("errors.errorType", laid_errors_errorType)] }
def WalEchoSaid : Prop := walEchoRow.holds Tryd.pinned (OpenSpec.ofChange walEchoSpec)

/-- ITS FALSE NEIGHBOUR: 'it returns false'. Refute it at one input. -/
def walEchoWrong : ChangeSpec := { name := "walEcho", fn := fun _ => fun
  | [d1, d2] => { results := [.lit (.bool false)], args := [d1, d2] }
  | _ => none }
def WalEchoWrongFalsely : Prop := walEchoRow.holds Tryd.pinned (OpenSpec.ofChange walEchoWrong)

/-- 'synodallaw4.WalLong': WHATEVER THE INPUT: true; the input reads as it did. -/
def walLongSpec : ChangeSpec := { name := "walLong", fn := fun _ => fun
  | [d1, d2] => { results := [.lit (.bool true)], args := [d1, d2] }
  | _ => none }
def walLongRow : OpenClaim := { program := "ytfnnjgbldojigaadoor", sum := "dfcaf8116373373d29a17c20b006c9af91dd1f9436a5a800a903cd1ed967c168", func := "synodal/synodallaw4.WalLong", spec := "walLong", inPlace := ["internal/reflectlite.TypeOf", "internal/reflectlite.ValueOf", "(internal/reflectlite.Value).Type", "(internal/reflectlite.Value).IsNil", "(internal/reflectlite.Value).Elem", "(internal/reflectlite.Value).Set"], unfollowed := true, recurses := true, named := ["errors.errorType"], apart := false, laid := [("errors.errorType", laid_errors_errorType)] }
def WalLongSaid : Prop := walLongRow.holds Tryd.pinned (OpenSpec.ofChange walLongSpec)

/-- ITS FALSE NEIGHBOUR: 'it returns false'. Refute it at one input. -/
def walLongWrong : ChangeSpec := { name := "walLong", fn := fun _ => fun
  | [d1, d2] => { results := [.lit (.bool false)], args := [d1, d2] }
  | _ => none }
def WalLongWrongFalsely : Prop := walLongRow.holds Tryd.pinned (OpenSpec.ofChange walLongWrong)

/-- 'synodallaw4.WalTails': WHATEVER THE INPUT: true; the input reads as it did. -/
def walTailsSpec : ChangeSpec := { name := "walTails", fn := fun _ => fun
  | [d1, d2, d3] => { results := [.lit (.bool true)], args := [d1, d2, d3] }
  | _ => none }
def walTailsRow : OpenClaim := { program := "ytfnnjgbldojigaadoor", sum := "dfcaf8116373373d29a17c20b006c9af91dd1f9436a5a800a903cd1ed967c168", func := "synodal/synodallaw4.WalTails", spec := "walTails", inPlace := ["internal/reflectlite.TypeOf", "internal/reflectlite.ValueOf", "(internal/reflectlite.Value).Type", "(internal/reflectlite.Value).IsNil", "(internal/reflectlite.Value).Elem", "(internal/reflectlite.Value).Set"], unfollowed := true, recurses := true, named := ["errors.errorType"], apart := false, laid := [("errors.errorType", laid_errors_errorType)] }
def WalTailsSaid : Prop := walTailsRow.holds Tryd.pinned (OpenSpec.ofChange walTailsSpec)

/-- ITS FALSE NEIGHBOUR: 'it returns false'. Refute it at one input. -/
def walTailsWrong : ChangeSpec := { name := "walTails", fn := fun _ => fun
  | [d1, d2, d3] => { results := [.lit (.bool false)], args := [d1, d2, d3] }
  | _ => none }
def WalTailsWrongFalsely : Prop := walTailsRow.holds Tryd.pinned (OpenSpec.ofChange walTailsWrong)

/-- 'synodallaw4.WalPlays': WHATEVER THE INPUT: true; the input reads as it did. -/
def walPlaysSpec : ChangeSpec := { name := "walPlays", fn := fun _ => fun
  | [d] => { results := [.lit (.bool true)], args := [d] }
  | _ => none }
def walPlaysRow : OpenClaim := { program := "ytfnnjgbldojigaadoor", sum := "dfcaf8116373373d29a17c20b006c9af91dd1f9436a5a800a903cd1ed967c168", func := "synodal/synodallaw4.WalPlays", spec := "walPlays", inPlace := ["internal/reflectlite.TypeOf", "internal/reflectlite.ValueOf", "(internal/reflectlite.Value).Type", "(internal/reflectlite.Value).IsNil", "(internal/reflectlite.Value).Elem", "(internal/reflectlite.Value).Set"], unfollowed := true, recurses := true, named := ["errors.errorType"], apart := false, laid := [("errors.errorType", laid_errors_errorType)] }
def WalPlaysSaid : Prop := walPlaysRow.holds Tryd.pinned (OpenSpec.ofChange walPlaysSpec)

/-- ITS FALSE NEIGHBOUR: 'it returns false'. Refute it at one input. -/
def walPlaysWrong : ChangeSpec := { name := "walPlays", fn := fun _ => fun
  | [d] => { results := [.lit (.bool false)], args := [d] }
  | _ => none }
def WalPlaysWrongFalsely : Prop := walPlaysRow.holds Tryd.pinned (OpenSpec.ofChange walPlaysWrong)

/-- 'synodallaw4.WalCrashes': WHATEVER THE INPUT: true; the input reads as it did. -/
def walCrashesSpec : ChangeSpec := { name := "walCrashes", fn := fun _ => fun
  | [d1, d2, d3, d4] => { results := [.lit (.bool true)], args := [d1, d2, d3, d4] }
  | _ => none }
def walCrashesRow : OpenClaim := { program := "ytfnnjgbldojigaadoor", sum := "dfcaf8116373373d29a17c20b006c9af91dd1f9436a5a800a903cd1ed967c168", func := "synodal/synodallaw4.WalCrashes", spec := "walCrashes", inPlace := ["internal/reflectlite.TypeOf", "internal/reflectlite.ValueOf", "(internal/reflectlite.Value).Type", "(internal/reflectlite.Value).IsNil", "(internal/reflectlite.Value).Elem", "(internal/reflectlite.Value).Set"], unfollowed := true, recurses := true, named := ["errors.errorType"], apart := false, laid := [("errors.errorType", laid_errors_errorType)] }
def WalCrashesSaid : Prop := walCrashesRow.holds Tryd.pinned (OpenSpec.ofChange walCrashesSpec)

/-- ITS FALSE NEIGHBOUR: 'it returns false'. Refute it at one input. -/
def walCrashesWrong : ChangeSpec := { name := "walCrashes", fn := fun _ => fun
  | [d1, d2, d3, d4] => { results := [.lit (.bool false)], args := [d1, d2, d3, d4] }
  | _ => none }
def WalCrashesWrongFalsely : Prop := walCrashesRow.holds Tryd.pinned (OpenSpec.ofChange walCrashesWrong)

/-- 'synodallaw4.WalKeeps': WHATEVER THE INPUT: true; the input reads as it did. -/
def walKeepsSpec : ChangeSpec := { name := "walKeeps", fn := fun _ => fun
  | [d1, d2, d3, d4] => { results := [.lit (.bool true)], args := [d1, d2, d3, d4] }
  | _ => none }
def walKeepsRow : OpenClaim := { program := "ytfnnjgbldojigaadoor", sum := "dfcaf8116373373d29a17c20b006c9af91dd1f9436a5a800a903cd1ed967c168", func := "synodal/synodallaw4.WalKeeps", spec := "walKeeps", inPlace := ["internal/reflectlite.TypeOf", "internal/reflectlite.ValueOf", "(internal/reflectlite.Value).Type", "(internal/reflectlite.Value).IsNil", "(internal/reflectlite.Value).Elem", "(internal/reflectlite.Value).Set"], unfollowed := true, recurses := true, named := ["errors.errorType"], apart := false, laid := [("errors.errorType", laid_errors_errorType)] }
def WalKeepsSaid : Prop := walKeepsRow.holds Tryd.pinned (OpenSpec.ofChange walKeepsSpec)

/-- ITS FALSE NEIGHBOUR: 'it returns false'. Refute it at one input. -/
def walKeepsWrong : ChangeSpec := { name := "walKeeps", fn := fun _ => fun
  | [d1, d2, d3, d4] => { results := [.lit (.bool false)], args := [d1, d2, d3, d4] }
  | _ => none }
def WalKeepsWrongFalsely : Prop := walKeepsRow.holds Tryd.pinned (OpenSpec.ofChange walKeepsWrong)

/-- 'synodallaw5.CellsRefuse': WHATEVER THE INPUT: true; the input reads as it did. -/
def cellsRefuseSpec : ChangeSpec := { name := "cellsRefuse", fn := fun _ => fun
  | [d1, d2] => { results := [.lit (.bool true)], args := [d1, d2] }
  | _ => none }
def cellsRefuseRow : OpenClaim := { program := "ytfnnjgbldojigaadoor", sum := "dfcaf8116373373d29a17c20b006c9af91dd1f9436a5a800a903cd1ed967c168", func := "synodal/synodallaw5.CellsRefuse", spec := "cellsRefuse", inPlace := ["internal/reflectlite.TypeOf", "internal/reflectlite.ValueOf", "(internal/reflectlite.Value).Type", "(internal/reflectlite.Value).IsNil", "(internal/reflectlite.Value).Elem", "(internal/reflectlite.Value).Set"], unfollowed := true, recurses := true, named := ["errors.errorType"], apart := false, laid := [("errors.errorType", laid_errors_errorType)] }
def CellsRefuseSaid : Prop := cellsRefuseRow.holds Tryd.pinned (OpenSpec.ofChange cellsRefuseSpec)

/-- ITS FALSE NEIGHBOUR: 'it returns false'. Refute it at one input. -/
def cellsRefuseWrong : ChangeSpec := { name := "cellsRefuse", fn := fun _ => fun
  | [d1, d2] => { results := [.lit (.bool false)], args := [d1, d2] }
  | _ => none }
def CellsRefuseWrongFalsely : Prop := cellsRefuseRow.holds Tryd.pinned (OpenSpec.ofChange cellsRefuseWrong)

/-- 'synodallaw5.CellsOwn': WHATEVER THE INPUT: true; the input reads as it did. -/
def cellsOwnSpec : ChangeSpec := { name := "cellsOwn", fn := fun _ => fun
  | [d1, d2, d3] => { results := [.lit (.bool true)], args := [d1, d2, d3] }
  | _ => none }
def cellsOwnRow : OpenClaim := { program := "ytfnnjgbldojigaadoor", sum := "dfcaf8116373373d29a17c20b006c9af91dd1f9436a5a800a903cd1ed967c168", func := "synodal/synodallaw5.CellsOwn", spec := "cellsOwn", inPlace := ["internal/reflectlite.TypeOf", "internal/reflectlite.ValueOf", "(internal/reflectlite.Value).Type", "(internal/reflectlite.Value).IsNil", "(internal/reflectlite.Value).Elem", "(internal/reflectlite.Value).Set"], unfollowed := true, recurses := true, named := ["errors.errorType"], apart := false, laid := [("errors.errorType", laid_errors_errorType)] }
def CellsOwnSaid : Prop := cellsOwnRow.holds Tryd.pinned (OpenSpec.ofChange cellsOwnSpec)

/-- ITS FALSE NEIGHBOUR: 'it returns false'. Refute it at one input. -/
def cellsOwnWrong : ChangeSpec := { name := "cellsOwn", fn := fun _ => fun
  | [d1, d2, d3] => { results := [.lit (.bool false)], args := [d1, d2, d3] }
  | _ => none }
def CellsOwnWrongFalsely : Prop := cellsOwnRow.holds Tryd.pinned (OpenSpec.ofChange cellsOwnWrong)

/-- 'synodallaw5.CellsPlay': WHATEVER THE INPUT: true; the input reads as it did. -/
def cellsPlaySpec : ChangeSpec := { name := "cellsPlay", fn := fun _ => fun
  | [d1, d2, d3] => { results := [.lit (.bool true)], args := [d1, d2, d3] }
  | _ => none }
def cellsPlayRow : OpenClaim := { program := "ytfnnjgbldojigaadoor", sum := "dfcaf8116373373d29a17c20b006c9af91dd1f9436a5a800a903cd1ed967c168", func := "synodal/synodallaw5.CellsPlay", spec := "cellsPlay", inPlace := ["internal/reflectlite.TypeOf", "internal/reflectlite.ValueOf", "(internal/reflectlite.Value).Type", "(internal/reflectlite.Value).IsNil", "(internal/reflectlite.Value).Elem", "(internal/reflectlite.Value).Set"], unfollowed := true, recurses := true, named := ["errors.errorType"], apart := false, laid := [("errors.errorType", laid_errors_errorType)] }
def CellsPlaySaid : Prop := cellsPlayRow.holds Tryd.pinned (OpenSpec.ofChange cellsPlaySpec)

/-- ITS FALSE NEIGHBOUR: 'it returns false'. Refute it at one input. -/
def cellsPlayWrong : ChangeSpec := { name := "cellsPlay", fn := fun _ => fun
  | [d1, d2, d3] => { results := [.lit (.bool false)], args := [d1, d2, d3] }
  | _ => none }
def CellsPlayWrongFalsely : Prop := cellsPlayRow.holds Tryd.pinned (OpenSpec.ofChange cellsPlayWrong)

/-- 'synodallaw5.CellsCrash': WHATEVER THE INPUT: true; the input reads as it did. -/
def cellsCrashSpec : ChangeSpec := { name := "cellsCrash", fn := fun _ => fun
  | [d1, d2, d3, d4] => { results := [.lit (.bool true)], args := [d1, d2, d3, d4] }
  | _ => none }
def cellsCrashRow : OpenClaim := { program := "ytfnnjgbldojigaadoor", sum := "dfcaf8116373373d29a17c20b006c9af91dd1f9436a5a800a903cd1ed967c168", func := "synodal/synodallaw5.CellsCrash", spec := "cellsCrash", inPlace := ["internal/reflectlite.TypeOf", "internal/reflectlite.ValueOf", "(internal/reflectlite.Value).Type", "(internal/reflectlite.Value).IsNil", "(internal/reflectlite.Value).Elem", "(internal/reflectlite.Value).Set"], unfollowed := true, recurses := true, named := ["errors.errorType"], apart := false, laid := [("errors.errorType", laid_errors_errorType)] }
def CellsCrashSaid : Prop := cellsCrashRow.holds Tryd.pinned (OpenSpec.ofChange cellsCrashSpec)

/-- ITS FALSE NEIGHBOUR: 'it returns false'. Refute it at one input. -/
def cellsCrashWrong : ChangeSpec := { name := "cellsCrash", fn := fun _ => fun
  | [d1, d2, d3, d4] => { results := [.lit (.bool false)], args := [d1, d2, d3, d4] }
  | _ => none }
def CellsCrashWrongFalsely : Prop := cellsCrashRow.holds Tryd.pinned (OpenSpec.ofChange cellsCrashWrong)

/- THE SECOND FORM. 'bulk': how many values and letters a reading holds, each counted each time it is reached (what is shared counts as often as it is met; a slice's spare places count too). A statement '..UptoSaid' is the law's where the arguments, and the package variables that the reading takes, are together of bulk at most 1048576: NARROWER than '..Said'. Prove '..Said' where nothing that the law and all that it calls make is longer than what came in: it says more and counts as full. Else prove '..UptoSaid'. A law counts once. -/
mutual
def uptoBulk {H : Type} : DataW H → Nat
  | .lit (.string bytes) => bytes.length + 1
  | .lit _ => 1
  | .nil => 1
  | .ptr d => uptoBulk d + 1
  | .slice elems spare => uptoBulkAll elems + uptoBulkAll spare + 1
  | .agg parts => uptoBulkAll parts + 1
  | .iface _ d => uptoBulk d + 1
  | .map entries => uptoBulkEntries entries + 1
  | .held _ => 1
def uptoBulkAll {H : Type} : List (DataW H) → Nat
  | [] => 0
  | d :: r => uptoBulk d + uptoBulkAll r
def uptoBulkEntries {H : Type} : List (Lit × DataW H) → Nat
  | [] => 0
  | x :: r => uptoBulkEntry x + uptoBulkEntries r
def uptoBulkEntry {H : Type} : Lit × DataW H → Nat
  | (.string bytes, d) => bytes.length + uptoBulk d + 1
  | (_, d) => uptoBulk d + 1
 end
def uptoSmall : (H : Type) → List (DataW H) → Bool := fun _ ds => decide (uptoBulkAll ds ≤ 1048576)
def OpenSpec.upto (s : _root_.Go.ChangeSpec) : _root_.Go.OpenSpec := { _root_.Go.OpenSpec.ofChange s with cond := some uptoSmall }

/-- 'synodallaw4.WalEcho', WHERE WHAT IT READS IS OF BULK AT MOST 1048576: true; the input reads as it did. -/
def walEchoUptoRow : OpenClaim := { program := "ytfnnjgbldojigaadoor", sum := "dfcaf8116373373d29a17c20b006c9af91dd1f9436a5a800a903cd1ed967c168", func := "synodal/synodallaw4.WalEcho", spec := "walEcho", inPlace := ["internal/reflectlite.TypeOf", "internal/reflectlite.ValueOf", "(internal/reflectlite.Value).Type", "(internal/reflectlite.Value).IsNil", "(internal/reflectlite.Value).Elem", "(internal/reflectlite.Value).Set"], unfollowed := true, recurses := true, named := ["errors.errorType"], apart := false, laid := [("errors.errorType", laid_errors_errorType)], narrowed := true }
def WalEchoUptoSaid : Prop := walEchoUptoRow.holds Tryd.pinned (OpenSpec.upto walEchoSpec)

/-- 'synodallaw4.WalLong', WHERE WHAT IT READS IS OF BULK AT MOST 1048576: true; the input reads as it did. -/
def walLongUptoRow : OpenClaim := { program := "ytfnnjgbldojigaadoor", sum := "dfcaf8116373373d29a17c20b006c9af91dd1f9436a5a800a903cd1ed967c168", func := "synodal/synodallaw4.WalLong", spec := "walLong", inPlace := ["internal/reflectlite.TypeOf", "internal/reflectlite.ValueOf", "(internal/reflectlite.Value).Type", "(internal/reflectlite.Value).IsNil", "(internal/reflectlite.Value).Elem", "(internal/reflectlite.Value).Set"], unfollowed := true, recurses := true, named := ["errors.errorType"], apart := false, laid := [("errors.errorType", laid_errors_errorType)], narrowed := true }
def WalLongUptoSaid : Prop := walLongUptoRow.holds Tryd.pinned (OpenSpec.upto walLongSpec)

/-- 'synodallaw4.WalTails', WHERE WHAT IT READS IS OF BULK AT MOST 1048576: true; the input reads as it did. -/
def walTailsUptoRow : OpenClaim := { program := "ytfnnjgbldojigaadoor", sum := "dfcaf8116373373d29a17c20b006c9af91dd1f9436a5a800a903cd1ed967c168", func := "synodal/synodallaw4.WalTails", spec := "walTails", inPlace := ["internal/reflectlite.TypeOf", "internal/reflectlite.ValueOf", "(internal/reflectlite.Value).Type", "(internal/reflectlite.Value).IsNil", "(internal/reflectlite.Value).Elem", "(internal/reflectlite.Value).Set"], unfollowed := true, recurses := true, named := ["errors.errorType"], apart := false, laid := [("errors.errorType", laid_errors_errorType)], narrowed := true }
def WalTailsUptoSaid : Prop := walTailsUptoRow.holds Tryd.pinned (OpenSpec.upto walTailsSpec)

/-- 'synodallaw4.WalPlays', WHERE WHAT IT READS IS OF BULK AT MOST 1048576: true; the input reads as it did. -/
def walPlaysUptoRow : OpenClaim := { program := "ytfnnjgbldojigaadoor", sum := "dfcaf8116373373d29a17c20b006c9af91dd1f9436a5a800a903cd1ed967c168", func := "synodal/synodallaw4.WalPlays", spec := "walPlays", inPlace := ["internal/reflectlite.TypeOf", "internal/reflectlite.ValueOf", "(internal/reflectlite.Value).Type", "(internal/reflectlite.Value).IsNil", "(internal/reflectlite.Value).Elem", "(internal/reflectlite.Value).Set"], unfollowed := true, recurses := true, named := ["errors.errorType"], apart := false, laid := [("errors.errorType", laid_errors_errorType)], narrowed := true }
def WalPlaysUptoSaid : Prop := walPlaysUptoRow.holds Tryd.pinned (OpenSpec.upto walPlaysSpec)

/-- 'synodallaw4.WalCrashes', WHERE WHAT IT READS IS OF BULK AT MOST 1048576: true; the input reads as it did. -/
def walCrashesUptoRow : OpenClaim := { program := "ytfnnjgbldojigaadoor", sum := "dfcaf8116373373d29a17c20b006c9af91dd1f9436a5a800a903cd1ed967c168", func := "synodal/synodallaw4.WalCrashes", spec := "walCrashes", inPlace := ["internal/reflectlite.TypeOf", "internal/reflectlite.ValueOf", "(internal/reflectlite.Value).Type", "(internal/reflectlite.Value).IsNil", "(internal/reflectlite.Value).Elem", "(internal/reflectlite.Value).Set"], unfollowed := true, recurses := true, named := ["errors.errorType"], apart := false, laid := [("errors.errorType", laid_errors_errorType)], narrowed := true }
def WalCrashesUptoSaid : Prop := walCrashesUptoRow.holds Tryd.pinned (OpenSpec.upto walCrashesSpec)

/-- 'synodallaw4.WalKeeps', WHERE WHAT IT READS IS OF BULK AT MOST 1048576: true; the input reads as it did. -/
def walKeepsUptoRow : OpenClaim := { program := "ytfnnjgbldojigaadoor", sum := "dfcaf8116373373d29a17c20b006c9af91dd1f9436a5a800a903cd1ed967c168", func := "synodal/synodallaw4.WalKeeps", spec := "walKeeps", inPlace := ["internal/reflectlite.TypeOf", "internal/reflectlite.ValueOf", "(internal/reflectlite.Value).Type", "(internal/reflectlite.Value).IsNil", "(internal/reflectlite.Value).Elem", "(internal/reflectlite.Value).Set"], unfollowed := true, recurses := true, named := ["errors.errorType"], apart := false, laid := [("errors.errorType", laid_errors_errorType)], narrowed := true }
def WalKeepsUptoSaid : Prop := walKeepsUptoRow.holds Tryd.pinned (OpenSpec.upto walKeepsSpec)

/-- 'synodallaw5.CellsRefuse', WHERE WHAT IT READS IS OF BULK AT MOST 1048576: true; the input reads as it did. -/
def cellsRefuseUptoRow : OpenClaim := { program := "ytfnnjgbldojigaadoor", sum := "dfcaf8116373373d29a17c20b006c9af91dd1f9436a5a800a903cd1ed967c168", func := "synodal/synodallaw5.CellsRefuse", spec := "cellsRefuse", inPlace := ["internal/reflectlite.TypeOf", "internal/reflectlite.ValueOf", "(internal/reflectlite.Value).Type", "(internal/reflectlite.Value).IsNil", "(internal/reflectlite.Value).Elem", "(internal/reflectlite.Value).Set"], unfollowed := true, recurses := true, named := ["errors.errorType"], apart := false, laid := [("errors.errorType", laid_errors_errorType)], narrowed := true }
def CellsRefuseUptoSaid : Prop := cellsRefuseUptoRow.holds Tryd.pinned (OpenSpec.upto cellsRefuseSpec)

/-- 'synodallaw5.CellsOwn', WHERE WHAT IT READS IS OF BULK AT MOST 1048576: true; the input reads as it did. -/
def cellsOwnUptoRow : OpenClaim := { program := "ytfnnjgbldojigaadoor", sum := "dfcaf8116373373d29a17c20b006c9af91dd1f9436a5a800a903cd1ed967c168", func := "synodal/synodallaw5.CellsOwn", spec := "cellsOwn", inPlace := ["internal/reflectlite.TypeOf", "internal/reflectlite.ValueOf", "(internal/reflectlite.Value).Type", "(internal/reflectlite.Value).IsNil", "(internal/reflectlite.Value).Elem", "(internal/reflectlite.Value).Set"], unfollowed := true, recurses := true, named := ["errors.errorType"], apart := false, laid := [("errors.errorType", laid_errors_errorType)], narrowed := true }
def CellsOwnUptoSaid : Prop := cellsOwnUptoRow.holds Tryd.pinned (OpenSpec.upto cellsOwnSpec)

/-- 'synodallaw5.CellsPlay', WHERE WHAT IT READS IS OF BULK AT MOST 1048576: true; the input reads as it did. -/
def cellsPlayUptoRow : OpenClaim := { program := "ytfnnjgbldojigaadoor", sum := "dfcaf8116373373d29a17c20b006c9af91dd1f9436a5a800a903cd1ed967c168", func := "synodal/synodallaw5.CellsPlay", spec := "cellsPlay", inPlace := ["internal/reflectlite.TypeOf", "internal/reflectlite.ValueOf", "(internal/reflectlite.Value).Type", "(internal/reflectlite.Value).IsNil", "(internal/reflectlite.Value).Elem", "(internal/reflectlite.Value).Set"], unfollowed := true, recurses := true, named := ["errors.errorType"], apart := false, laid := [("errors.errorType", laid_errors_errorType)], narrowed := true }
def CellsPlayUptoSaid : Prop := cellsPlayUptoRow.holds Tryd.pinned (OpenSpec.upto cellsPlaySpec)

/-- 'synodallaw5.CellsCrash', WHERE WHAT IT READS IS OF BULK AT MOST 1048576: true; the input reads as it did. -/
def cellsCrashUptoRow : OpenClaim := { program := "ytfnnjgbldojigaadoor", sum := "dfcaf8116373373d29a17c20b006c9af91dd1f9436a5a800a903cd1ed967c168", func := "synodal/synodallaw5.CellsCrash", spec := "cellsCrash", inPlace := ["internal/reflectlite.TypeOf", "internal/reflectlite.ValueOf", "(internal/reflectlite.Value).Type", "(internal/reflectlite.Value).IsNil", "(internal/reflectlite.Value).Elem", "(internal/reflectlite.Value).Set"], unfollowed := true, recurses := true, named := ["errors.errorType"], apart := false, laid := [("errors.errorType", laid_errors_errorType)], narrowed := true }
def CellsCrashUptoSaid : Prop := cellsCrashUptoRow.holds Tryd.pinned (OpenSpec.upto cellsCrashSpec)

end Rows
end Go.Proofs.YtfnnjgbldojigaaDoor
