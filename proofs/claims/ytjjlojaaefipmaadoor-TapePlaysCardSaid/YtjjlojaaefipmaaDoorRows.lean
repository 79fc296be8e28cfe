/-
  NARROWER THAN 'FOR EVERY INPUT', by the rows' own cells (each row's printed sentence says how): TapeStays: laid · TapeFronts: laid · TapeRoom: laid · TapeReplaced: laid · TapePlays: laid.
  DERIVED. THE GIVEN ROWS OF THIS SEAT. 5 by the template 'for every input the law returns true; each argument reads behind the call as it read before'; 0 by the template 'total and deterministic' (their statements: YtjjlojaaefipmaaDoorTotals.lean).
  GIVEN WITH THE SEED: the statements are not yours to turn. If you find one false, say at which input.
  Laid BY PROGRAM, IN A SANDBOX (cutbox-rows.mjs): the forced cells as the released guide's own fill.sh prints them over the translation 18648e9a79573760… (all of the seat's roots in one cut). By AI agents, Wed Nov 11 2026. No macro, syntax, notation, axiom, sorry.
-/
import Derived.Test.YtjjlojaaefipmaaDoorChecked
import GoSem.Claim
import GoSem.ClaimJoined
import GoSem.ClaimMapViews
import Derived.JoinedTies
import Derived.KernelRfl
namespace Go.Proofs.YtjjlojaaefipmaaDoor
/- THE CELL 'sum', in the pinned program and in every row, IS THE sha256 OF THE DUMP (.gsa) THAT YtjjlojaaefipmaaDoorProg.lean LOADS. Nothing in Lean hashes anything: it is a label: what it is worth is what the hold of that sum in a sandbox is worth. -/
noncomputable def Tryd.pinned : Pinned := { name := "ytjjlojaaefipmaadoor", sum := "18648e9a795737602bbfb19306a32a2d1c83f848b2c02102f520b76f445da481", checked := Tryd.checked }
namespace Rows
def none {H : Type} : Left H := { results := [], args := [] }

/- WHAT THE LISTED PACKAGE-LEVEL VARIABLES READ AS WHEN THE CALL BEGINS. Each datum BY PROGRAM (the guide's laid-datum.mjs) off the statement by which the dump's own 'gosem.cut.vars' lays the variable. In a bare row this is a premise. The card (YtjjlojaaefipmaaDoorCards.lean) ties it to the program's text. -/
def laid_errors_errorType {H : Type} : DataW H := .iface "internal/reflectlite.rtype" (.agg [.ptr (.lit (.string [101, 114, 114, 111, 114]))])

/-- 'synodallaw3.TapeStays': WHATEVER THE INPUT: true; the input reads as it did. -/
def tapeStaysSpec : ChangeSpec := { name := "tapeStays", fn := fun _ => fun
  | [d1, d2, d3] => { results := [.lit (.bool true)], args := [d1, d2, d3] }
  | _ => none }
def tapeStaysRow : OpenClaim := { program := "ytjjlojaaefipmaadoor", sum := "18648e9a795737602bbfb19306a32a2d1c83f848b2c02102f520b76f445da481", func := "synodal/synodallaw3.TapeStays", spec := "tapeStays", inPlace := ["internal/reflectlite.TypeOf", "internal/reflectlite.ValueOf", "(internal/reflectlite.Value).Type", "(internal/reflectlite.Value).IsNil", "(internal/reflectlite.Value).Elem", "(internal/reflectlite.Value).Set"], unfollowed := true, recurses := true, named := ["errors.errorType"], apart := false, laid := [("errors.errorType", laid_errors_errorType)] }
def TapeStaysSaid : Prop := tapeStaysRow.holds Tryd.pinned (OpenSpec.ofChange tapeStaysSpec)

/-- ITS FALSE NEIGHBOUR: 'it returns false'. Refute it at one input. -/
def tapeStaysWrong : ChangeSpec := { name := "tapeStays", fn := fun _ => fun
  | [d1, d2, d3] => { results := [.lit (.bool false)], args := [d1, d2, d3] }
  | _ => none }
def TapeStaysWrongFalsely : Prop := tapeStaysRow.holds Tryd.pinned (OpenSpec.ofChange tapeStaysWrong)

/-- 'synodallaw3.TapeFronts': WHATEVER THE INPUT: true; the input reads as it did. -/
def tapeFrontsSpec : ChangeSpec := { name := "tapeFronts", fn := fun _ => fun
  | [d1, d2, d3] => { results := [.lit (.bool true)], args := [d1, d2, d3] }
  | _ => none }
def tapeFrontsRow : OpenClaim := { program := "ytjjlojaaefipmaadoor", sum := "18648e9a795737602bbfb19306a32a2d1c83f848b2c02102f520b76f445da481", func := "synodal/synodallaw3.TapeFronts", spec := "tapeFronts", inPlace := ["internal/reflectlite.TypeOf", "internal/reflectlite.ValueOf", "(internal/reflectlite.Value).Type", "(internal/reflectlite.Value).IsNil", "(internal/reflectlite.Value).Elem", "(internal/reflectlite.Value).Set"], unfollowed := true, recurses := true, named := ["errors.errorType"], apart := false, laid := [("errors.errorType", laid_errors_errorType)] }
def TapeFrontsSaid : Prop := tapeFrontsRow.holds Tryd.pinned (OpenSpec.ofChange tapeFrontsSpec)

/-- ITS FALSE NEIGHBOUR: 'it returns false'. Refute it at one input. -/
def tapeFrontsWrong : ChangeSpec := { name := "tapeFronts", fn := fun _ => fun
  | [d1, d2, d3] => { results := [.lit (.bool false)], args := [d1, d2, d3] }
  | _ => none }
def TapeFrontsWrongFalsely : Prop := tapeFrontsRow.holds Tryd.pinned (OpenSpec.ofChange tapeFrontsWrong)

/-- 'synodallaw3.TapeRoom': WHATEVER THE INPUT: true; the input reads as it did. -/
def tapeRoomSpec : ChangeSpec := { name := "tapeRoom", fn := fun _ => fun
  | [d1, d2] => { results := [.lit (.bool true)], args := [d1, d2] }
  | _ => none }
def tapeRoomRow : OpenClaim := { program := "ytjjlojaaefipmaadoor", sum := "18648e9a795737602bbfb19306a32a2d1c83f848b2c02102f520b76f445da481", func := "synodal/synodallaw3.TapeRoom", spec := "tapeRoom", inPlace := ["internal/reflectlite.TypeOf", "internal/reflectlite.ValueOf", "(internal/reflectlite.Value).Type", "(internal/reflectlite.Value).IsNil", "(internal/reflectlite.Value).Elem", "(internal/reflectlite.Value).Set"], unfollowed := true, recurses := true, named := ["errors.errorType"], apart := false, laid := [("errors.errorType", laid_errors_errorType)] }
def TapeRoomSaid : Prop := tapeRoomRow.holds Tryd.pinned (OpenSpec.ofChange tapeRoomSpec)

/-- ITS FALSE NEIGHBOUR: 'it returns false'. Refute it at one input. -/
def tapeRoomWrong : ChangeSpec := { name := "tapeRoom", fn := fun _ => fun
  | [d1, d2] => { results := [.lit (.bool false)], args := [d1, d2] }
  | _ => none }
def TapeRoomWrongFalsely : Prop := tapeRoomRow.holds Tryd.pinned (OpenSpec.ofChange tapeRoomWrong)

/-- 'synodallaw3.TapeReplaced': WHATEVER THE INPUT: true; the input reads as it did. -/
def tapeReplacedSpec : ChangeSpec := { name := "tapeReplaced", fn := fun _ => fun
  | [d1, d2, d3, d4] => { results := [.lit (.bool true)], args := [d1, d2, d3, d4] }
  | _ => none }
def tapeReplacedRow : OpenClaim := { program := "ytjjlojaaefipmaadoor", sum := "18648e9a795737602bbfb19306a32a2d1c83f848b2c02102f520b76f445da481", func := "synodal/synodallaw3.TapeReplaced", spec := "tapeReplaced", inPlace := ["internal/reflectlite.TypeOf", "internal/reflectlite.ValueOf", "(internal/reflectlite.Value).Type", "(internal/reflectlite.Value).IsNil", "(internal/reflectlite.Value).Elem", "(internal/reflectlite.Value).Set"], unfollowed := true, recurses := true, named := ["errors.errorType"], apart := false, laid := [("errors.errorType", laid_errors_errorType)] }
def TapeReplacedSaid : Prop := tapeReplacedRow.holds Tryd.pinned (OpenSpec.ofChange tapeReplacedSpec)

/-- ITS FALSE NEIGHBOUR: 'it returns false'. Refute it at one input. -/
def tapeReplacedWrong : ChangeSpec := { name := "tapeReplaced", fn := fun _ => fun
  | [d1, d2, d3, d4] => { results := [.lit (.bool false)], args := [d1, d2, d3, d4] }
  | _ => none }
def TapeReplacedWrongFalsely : Prop := tapeReplacedRow.holds Tryd.pinned (OpenSpec.ofChange tapeReplacedWrong)

/-- 'synodallaw3.TapePlays': WHATEVER THE INPUT: true; the input reads as it did. -/
def tapePlaysSpec : ChangeSpec := { name := "tapePlays", fn := fun _ => fun
  | [d1, d2] => { results := [.lit (.bool true)], args := [d1, d2] }
  | _ => none }
def tapePlaysRow : OpenClaim := { program := "ytjjlojaaefipmaadoor", sum := "18648e9a795737602bbfb19306a32a2d1c83f848b2c02102f520b76f445da481", func := "synodal/synodallaw3.TapePlays", spec := "tapePlays", inPlace := ["internal/reflectlite.TypeOf", "internal/reflectlite.ValueOf", "(internal/reflectlite.Value).Type", "(internal/reflectlite.Value).IsNil", "(internal/reflectlite.Value).Elem", "(internal/reflectlite.Value).Set"], unfollowed := true, recurses := true, named := ["errors.errorType"], apart := false, laid := [("errors.errorType", laid_errors_errorType)] }
def TapePlaysSaid : Prop := tapePlaysRow.holds Tryd.pinned (OpenSpec.ofChange tapePlaysSpec)

/-- ITS FALSE NEIGHBOUR: 'it returns false'. Refute it at one input. -/
def tapePlaysWrong : ChangeSpec := { name := "tapePlays", fn := fun _ => fun
  | [d1, d2] => { results := [.lit (.bool false)], args := [d1, d2] }
  | _ => none }
def TapePlaysWrongFalsely : Prop := tapePlaysRow.holds Tryd.pinned (OpenSpec.ofChange tapePlaysWrong)

/- THE SECOND FORM. 'bulk': how many values and letters a reading holds, each counted each time it is reached (what is shared counts as often as it is met; a slice's spare places count too). A statement '..UptoSaid' is the law's where the arguments, and the package variables that the reading takes, are together of bulk at most 1048576: NARROWER than '..Said'. Prove '..Said' where nothing that the law and all that it calls make is longer than what came in: it says more and counts as full. Else prove '..UptoSaid'. A law counts once. -/
mutual
def uptoBulk {H : Type} : DataW H → Nat
  | .lit (.string bytes) => bytes.length + 1
  | .lit _ => 1
  | .nil => 1
  | .ptr d => uptoBulk d + 1
  | .slice elems spare => uptoBulkAll elems + uptoBulkAll spare + 1
  | .agg parts => uptoBulkAll parts + 1
  | .iface _ d => uptoBulk d + 1
  | .map entries => uptoBulkEntries entries + 1
  | .held _ => 1
def uptoBulkAll {H : Type} : List (DataW H) → Nat
  | [] => 0
  | d :: r => uptoBulk d + uptoBulkAll r
def uptoBulkEntries {H : Type} : List (Lit × DataW H) → Nat
  | [] => 0
  | x :: r => uptoBulkEntry x + uptoBulkEntries r
def uptoBulkEntry {H : Type} : Lit × DataW H → Nat
  | (.string bytes, d) => bytes.length + uptoBulk d + 1
  | (_, d) => uptoBulk d + 1
 end
def uptoSmall : (H : Type) → List (DataW H) → Bool := fun _ ds => decide (uptoBulkAll ds ≤ 1048576)
def OpenSpec.upto (s : _root_.Go.ChangeSpec) : _root_.Go.OpenSpec := { _root_.Go.OpenSpec.ofChange s with cond := some uptoSmall }

/-- 'synodallaw3.TapeStays', WHERE WHAT IT READS IS OF BULK AT MOST 1048576: true; the input reads as it did. -/
def tapeStaysUptoRow : OpenClaim := { program := "ytjjlojaaefipmaadoor", sum := "18648e9a795737602bbfb19306a32a2d1c83f848b2c02102f520b76f445da481", func := "synodal/synodallaw3.TapeStays", spec := "tapeStays", inPlace := ["internal/reflectlite.TypeOf", "internal/reflectlite.ValueOf", "(internal/reflectlite.Value).Type", "(internal/reflectlite.Value).IsNil", "(internal/reflectlite.Value).Elem", "(internal/reflectlite.Value).Set"], unfollowed := true, recurses := true, named := ["errors.errorType"], apart := false, laid := [("errors.errorType", laid_errors_errorType)], narrowed := true }
def TapeStaysUptoSaid : Prop := tapeStaysUptoRow.holds Tryd.pinned (OpenSpec.upto tapeStaysSpec)

/-- 'synodallaw3.TapeFronts', WHERE WHAT IT READS IS OF BULK AT MOST 1048576: true; the input reads as it did. -/
def tapeFrontsUptoRow : OpenClaim := { program := "ytjjlojaaefipmaadoor", sum := "18648e9a795737602bbfb19306a32a2d1c83f848b2c02102f520b76f445da481", func := "synodal/synodallaw3.TapeFronts", spec := "tapeFronts", inPlace := ["internal/reflectlite.TypeOf", "internal/reflectlite.ValueOf", "(internal/reflectlite.Value).Type", "(internal/reflectlite.Value).IsNil", "(internal/reflectlite.Value).Elem", "(internal/reflectlite.Value).Set"], unfollowed := true, recurses := true, named := ["errors.errorType"], apart := false, laid := [("errors.errorType", laid_errors_errorType)], narrowed := true }
def TapeFrontsUptoSaid : Prop := tapeFrontsUptoRow.holds Tryd.pinned (OpenSpec.upto tapeFrontsSpec)

/-- 'synodallaw3.TapeRoom', WHERE WHAT IT READS IS OF BULK AT MOST 1048576: true; the input reads as it did. -/
def tapeRoomUptoRow : OpenClaim := { program := "ytjjlojaaefipmaadoor", sum := "18648e9a795737602bbfb19306a32a2d1c83f848b2c02102f520b76f445da481", func := "synodal/synodallaw3.TapeRoom", spec := "tapeRoom", inPlace := ["internal/reflectlite.TypeOf", "internal/reflectlite.ValueOf", "(internal/reflectlite.Value).Type", "(internal/reflectlite.Value).IsNil", "(internal/reflectlite.Value).Elem", "(internal/reflectlite.Value).Set"], unfollowed := true, recurses := true, named := ["errors.errorType"], apart := false, laid := [("errors.errorType", laid_errors_errorType)], narrowed := true }
def TapeRoomUptoSaid : Prop := tapeRoomUptoRow.holds Tryd.pinned (OpenSpec.upto tapeRoomSpec)

/-- 'synodallaw3.TapeReplaced', WHERE WHAT IT READS IS OF BULK AT MOST 1048576: true; the input reads as it did. -/
def tapeReplacedUptoRow : OpenClaim := { program := "ytjjlojaaefipmaadoor", sum := "18648e9a795737602bbfb19306a32a2d1c83f848b2c02102f520b76f445da481", func := "synodal/synodallaw3.TapeReplaced", spec := "tapeReplaced", inPlace := ["internal/reflectlite.TypeOf", "internal/reflectlite.ValueOf", "(internal/reflectlite.Value).Type", "(internal/reflectlite.Value).IsNil", "(internal/reflectlite.Value).Elem", "(internal/reflectlite.Value).Set"], unfollowed := true, recurses := true, named := ["errors.errorType"], apart := false, laid := [("errors.errorType", laid_errors_errorType)], narrowed := true }
def TapeReplacedUptoSaid : Prop := tapeReplacedUptoRow.holds Tryd.pinned (OpenSpec.upto tapeReplacedSpec)

/-- 'synodallaw3.TapePlays', WHERE WHAT IT READS IS OF BULK AT MOST 1048576: true; the input reads as it did. -/
def tapePlaysUptoRow : OpenClaim := { program := "ytjjlojaaefipmaadoor", sum := "18648e9a795737602bbfb19306a32a2d1c83f848b2c02102f520b76f445da481", func := "synodal/synodallaw3.TapePlays", spec := "tapePlays", inPlace := ["internal/reflectlite.TypeOf", "internal/reflectlite.ValueOf", "(internal/reflectlite.Value).Type", "(internal/reflectlite.Value).IsNil", "(internal/reflectlite.Value).Elem", "(internal/reflectlite.Value).Set"], unfollowed := true, recurses := true, named := ["errors.errorType"], apart := false, laid := [("errors.errorType", laid_errors_errorType)], narrowed := true }
def TapePlaysUptoSaid : Prop := tapePlaysUptoRow.holds Tryd.pinned (OpenSpec.upto tapePlaysSpec)

end Rows
end Go.Proofs.YtjjlojaaefipmaaDoor
