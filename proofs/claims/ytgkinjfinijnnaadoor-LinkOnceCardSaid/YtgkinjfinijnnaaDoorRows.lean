/-
  NARROWER THAN 'FOR EVERY INPUT', by the rows' own cells (each row's printed sentence says how): LinkFar: laid · LinkOnce: laid · LinkStamps: laid · LinkPeers: laid.
  DERIVED. THE GIVEN ROWS OF THIS SEAT. 4 by the template 'for every input the law returns true; each argument reads behind the call as it read before'; 0 by the template 'total and deterministic' (their statements: YtgkinjfinijnnaaDoorTotals.lean).
  GIVEN WITH THE SEED: the statements are not yours to turn. If you find one false, say at which input.
  Laid BY PROGRAM, IN A SANDBOX (cutbox-rows.mjs): the forced cells as the released guide's own fill.sh prints them over the translation 4302bafb198bf527… (all of the seat's roots in one cut). By AI agents, Wed Nov 11 2026. No macro, syntax, notation, axiom, sorry.
-/
import Derived.Test.YtgkinjfinijnnaaDoorChecked
import GoSem.Claim
import GoSem.ClaimJoined
import GoSem.ClaimMapViews
import Derived.JoinedTies
import Derived.KernelRfl
namespace Go.Proofs.YtgkinjfinijnnaaDoor
/- THE CELL 'sum', in the pinned program and in every row, IS THE sha256 OF THE DUMP (.gsa) THAT YtgkinjfinijnnaaDoorProg.lean LOADS. Nothing in Lean hashes anything: it is a label: what it is worth is what the hold of that sum in a sandbox is worth. -/
noncomputable def Tryd.pinned : Pinned := { name := "ytgkinjfinijnnaadoor", sum := "4302bafb198bf527d0782e6aba4931b1a307c58a0e2e5eefdbfd96ec6912a615", checked := Tryd.checked }
namespace Rows
def none {H : Type} : Left H := { results := [], args := [] }

/- WHAT THE LISTED PACKAGE-LEVEL VARIABLES READ AS WHEN THE CALL BEGINS. Each datum BY PROGRAM (the guide's laid-datum.mjs) off the statement by which the dump's own 'gosem.cut.vars' lays the variable. In a bare row this is a premise. The card (YtgkinjfinijnnaaDoorCards.lean) ties it to the program's text. -/
def laid_errors_errorType {H : Type} : DataW H := .iface "internal/reflectlite.rtype" (.agg [.ptr (.lit (.string [101, 114, 114, 111, 114]))])

/-- 'synodallaw7.LinkFar': WHATEVER THE INPUT: true; the input reads as it did. -/
def linkFarSpec : ChangeSpec := { name := "linkFar", fn := fun _ => fun
  | [d1, d2] => { results := [.lit (.bool true)], args := [d1, d2] }
  | _ => none }
def linkFarRow : OpenClaim := { program := "ytgkinjfinijnnaadoor", sum := "4302bafb198bf527d0782e6aba4931b1a307c58a0e2e5eefdbfd96ec6912a615", func := "synodal/synodallaw7.LinkFar", spec := "linkFar", inPlace := ["internal/reflectlite.ValueOf", "(internal/reflectlite.Value).Type", "(internal/reflectlite.Value).IsNil", "internal/reflectlite.TypeOf", "(internal/reflectlite.Value).Elem", "(internal/reflectlite.Value).Set"], unfollowed := true, recurses := true, named := ["errors.errorType"], apart := false, laid := [("errors.errorType", laid_errors_errorType)] }
def LinkFarSaid : Prop := linkFarRow.holds Tryd.pinned (OpenSpec.ofChange linkFarSpec)

/-- ITS FALSE NEIGHBOUR: 'it returns false'. Refute it at one input. -/
def linkFarWrong : ChangeSpec := { name := "linkFar", fn := fun _ => fun
  | [d1, d2] => { results := [.lit (.bool false)], args := [d1, d2] }
  | _ => none }
def LinkFarWrongFalsely : Prop := linkFarRow.holds Tryd.pinned (OpenSpec.ofChange linkFarWrong)

/-- 'synodallaw7.LinkOnce': WHATEVER THE INPUT: true; the input reads as it did. -/
def linkOnceSpec : ChangeSpec := { name := "linkOnce", fn := fun _ => fun
  | [d1, d2] => { results := [.lit (.bool true)], args := [d1, d2] }
  | _ => none }
def linkOnceRow : OpenClaim := { program := "ytgkinjfinijnnaadoor", sum := "4302bafb198bf527d0782e6aba4931b1a307c58a0e2e5eefdbfd96ec6912a615", func := "synodal/synodallaw7.LinkOnce", spec := "linkOnce", inPlace := ["internal/reflectlite.ValueOf", "(internal/reflectlite.Value).Type", "(internal/reflectlite.Value).IsNil", "internal/reflectlite.TypeOf", "(internal/reflectlite.Value).Elem", "(internal/reflectlite.Value).Set"], unfollowed := true, recurses := true, named := ["errors.errorType"], apart := false, laid := [("errors.errorType", laid_errors_errorType)] }
def LinkOnceSaid : Prop := linkOnceRow.holds Tryd.pinned (OpenSpec.ofChange linkOnceSpec)

/-- ITS FALSE NEIGHBOUR: 'it returns false'. Refute it at one input. -/
def linkOnceWrong : ChangeSpec := { name := "linkOnce", fn := fun _ => fun
  | [d1, d2] => { results := [.lit (.bool false)], args := [d1, d2] }
  | _ => none }
def LinkOnceWrongFalsely : Prop := linkOnceRow.holds Tryd.pinned (OpenSpec.ofChange linkOnceWrong)

/-- 'synodallaw7.LinkStamps': WHATEVER THE INPUT: true; the input reads as it did. -/
def linkStampsSpec : ChangeSpec := { name := "linkStamps", fn := fun _ => fun
  | [d1, d2] => { results := [.lit (.bool true)], args := [d1, d2] }
  | _ => none }
def linkStampsRow : OpenClaim := { program := "ytgkinjfinijnnaadoor", sum := "4302bafb198bf527d0782e6aba4931b1a307c58a0e2e5eefdbfd96ec6912a615", func := "synodal/synodallaw7.LinkStamps", spec := "linkStamps", inPlace := ["internal/reflectlite.ValueOf", "(internal/reflectlite.Value).Type", "(internal/reflectlite.Value).IsNil", "internal/reflectlite.TypeOf", "(internal/reflectlite.Value).Elem", "(internal/reflectlite.Value).Set"], unfollowed := true, recurses := true, named := ["errors.errorType"], apart := false, laid := [("errors.errorType", laid_errors_errorType)] }
def LinkStampsSaid : Prop := linkStampsRow.holds Tryd.pinned (OpenSpec.ofChange linkStampsSpec)

/-- ITS FALSE NEIGHBOUR: 'it returns false'. Refute it at one input. -/
def linkStampsWrong : ChangeSpec := { name := "linkStamps", fn := fun _ => fun
  | [d1, d2] => { results := [.lit (.bool false)], args := [d1, d2] }
  | _ => none }
def LinkStampsWrongFalsely : Prop := linkStampsRow.holds Tryd.pinned (OpenSpec.ofChange linkStampsWrong)

/-- 'synodallaw7.LinkPeers': WHATEVER THE INPUT: true; the input reads as it did. -/
def linkPeersSpec : ChangeSpec := { name := "linkPeers", fn := fun _ => fun
  | [d] => { results := [.lit (.bool true)], args := [d] }
  | _ => none }
def linkPeersRow : OpenClaim := { program := "ytgkinjfinijnnaadoor", sum := "4302bafb198bf527d0782e6aba4931b1a307c58a0e2e5eefdbfd96ec6912a615", func := "synodal/synodallaw7.LinkPeers", spec := "linkPeers", inPlace := ["internal/reflectlite.ValueOf", "(internal/reflectlite.Value).Type", "(internal/reflectlite.Value).IsNil", "internal/reflectlite.TypeOf", "(internal/reflectlite.Value).Elem", "(internal/reflectlite.Value).Set"], unfollowed := true, recurses := true, named := ["errors.errorType"], apart := false, laid := [("errors.errorType", laid_errors_errorType)] }
def LinkPeersSaid : Prop := linkPeersRow.holds Tryd.pinned (OpenSpec.ofChange linkPeersSpec)

/-- ITS FALSE NEIGHBOUR: 'it returns false'. Refute it at one input. -/
def linkPeersWrong : ChangeSpec := { name := "linkPeers", fn := fun _ => fun
  | [d] => { results := [.lit (.bool false)], args := [d] }
  | _ => none }
def LinkPeersWrongFalsely : Prop := linkPeersRow.holds Tryd.pinned (OpenSpec.ofChange linkPeersWrong)

/- THE SECOND FORM. 'bulk': how many values and letters a reading holds, each counted each time it is reached (what is shared counts as often as it is met; a slice's spare places count too). A statement '..UptoSaid' is the law's where the arguments, and the package variables that the reading takes, are together of bulk at most 1048576: NARROWER than '..Said'. Prove '..Said' where nothing that the law and all that it calls make is longer than what came in: it says more and counts as full. Else prove '..UptoSaid'. A law counts once. -/
mutual
def uptoBulk {H : Type} : DataW H → Nat
  | .lit (.string bytes) => bytes.length + 1
  | .lit _ => 1
  | .nil => 1
  | .ptr d => uptoBulk d + 1
  | .slice elems spare => uptoBulkAll elems + uptoBulkAll spare + 1
  | .agg parts => uptoBulkAll parts + 1
  | .iface _ d => uptoBulk d + 1
  | .map entries => uptoBulkEntries entries + 1
  | .held _ => 1
def uptoBulkAll {H : Type} : List (DataW H) → Nat
  | [] => 0
  | d :: r => uptoBulk d + uptoBulkAll r
def uptoBulkEntries {H : Type} : List (Lit × DataW H) → Nat
  | [] => 0
  | x :: r => uptoBulkEntry x + uptoBulkEntries r
def uptoBulkEntry {H : Type} : Lit × DataW H → Nat
  | (.string bytes, d) => bytes.length + uptoBulk d + 1
  | (_, d) => uptoBulk d + 1
 end
def uptoSmall : (H : Type) → List (DataW H) → Bool := fun _ ds => decide (uptoBulkAll ds ≤ 1048576)
def OpenSpec.upto (s : _root_.Go.ChangeSpec) : _root_.Go.OpenSpec := { _root_.Go.OpenSpec.ofChange s with cond := some uptoSmall }

/-- 'synodallaw7.LinkFar', WHERE WHAT IT READS IS OF BULK AT MOST 1048576: true; the input reads as it did. -/
def linkFarUptoRow : OpenClaim := { program := "ytgkinjfinijnnaadoor", sum := "4302bafb198bf527d0782e6aba4931b1a307c58a0e2e5eefdbfd96ec6912a615", func := "synodal/synodallaw7.LinkFar", spec := "linkFar", inPlace := ["internal/reflectlite.ValueOf", "(internal/reflectlite.Value).Type", "(internal/reflectlite.Value).IsNil", "internal/reflectlite.TypeOf", "(internal/reflectlite.Value).Elem", "(internal/reflectlite.Value).Set"], unfollowed := true, recurses := true, named := ["errors.errorType"], apart := false, laid := [("errors.errorType", laid_errors_errorType)], narrowed := true }
def LinkFarUptoSaid : Prop := linkFarUptoRow.holds Tryd.pinned (OpenSpec.upto linkFarSpec)

/-- 'synodallaw7.LinkOnce', WHERE WHAT IT READS IS OF BULK AT MOST 1048576: true; the input reads as it did. -/
def linkOnceUptoRow : OpenClaim := { program := "ytgkinjfinijnnaadoor", sum := "4302bafb198bf527d0782e6aba4931b1a307c58a0e2e5eefdbfd96ec6912a615", func := "synodal/synodallaw7.LinkOnce", spec := "linkOnce", inPlace := ["internal/reflectlite.ValueOf", "(internal/reflectlite.Value).Type", "(internal/reflectlite.Value).IsNil", "internal/reflectlite.TypeOf", "(internal/reflectlite.Value).Elem", "(internal/reflectlite.Value).Set"], unfollowed := true, recurses := true, named := ["errors.errorType"], apart := false, laid := [("errors.errorType", laid_errors_errorType)], narrowed := true }
def LinkOnceUptoSaid : Prop := linkOnceUptoRow.holds Tryd.pinned (OpenSpec.upto linkOnceSpec)

/-- 'synodallaw7.LinkStamps', WHERE WHAT IT READS IS OF BULK AT MOST 1048576: true; the input reads as it did. -/
def linkStampsUptoRow : OpenClaim := { program := "ytgkinjfinijnnaadoor", sum := "4302bafb198bf527d0782e6aba4931b1a307c58a0e2e5eefdbfd96ec6912a615", func := "synodal/synodallaw7.LinkStamps", spec := "linkStamps", inPlace := ["internal/reflectlite.ValueOf", "(internal/reflectlite.Value).Type", "(internal/reflectlite.Value).IsNil", "internal/reflectlite.TypeOf", "(internal/reflectlite.Value).Elem", "(internal/reflectlite.Value).Set"], unfollowed := true, recurses := true, named := ["errors.errorType"], apart := false, laid := [("errors.errorType", laid_errors_errorType)], narrowed := true }
def LinkStampsUptoSaid : Prop := linkStampsUptoRow.holds Tryd.pinned (OpenSpec.upto linkStampsSpec)

/-- 'synodallaw7.LinkPeers', WHERE WHAT IT READS IS OF BULK AT MOST 1048576: true; the input reads as it did. -/
def linkPeersUptoRow : OpenClaim := { program := "ytgkinjfinijnnaadoor", sum := "4302bafb198bf527d0782e6aba4931b1a307c58a0e2e5eefdbfd96ec6912a615", func := "synodal/synodallaw7.LinkPeers", spec := "linkPeers", inPlace := ["internal/reflectlite.ValueOf", "(internal/reflectlite.Value).Type", "(internal/reflectlite.Value).IsNil", "internal/reflectlite.TypeOf", "(internal/reflectlite.Value).Elem", "(internal/reflectlite.Value).Set"], unfollowed := true, recurses := true, named := ["errors.errorType"], apart := false, laid := [("errors.errorType", laid_errors_errorType)], narrowed := true }
def LinkPeersUptoSaid : Prop := linkPeersUptoRow.holds Tryd.pinned (OpenSpec.upto linkPeersSpec)

end Rows
end Go.Proofs.YtgkinjfinijnnaaDoor
