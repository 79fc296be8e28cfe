/- AcceptTells as the row wants it. -/
import Derived.Test.YtgkhkcoojfjofaaDoorTelL
set_option linter.unusedVariables false
set_option linter.unusedSimpArgs false
namespace Go.Proofs.YtgkhkcoojfjofaaDoor
open Go.RowKit Go.Proofs.YtgkhkcoojfjofaaDoorW.PrintWords Go.Proofs.Mine

theorem tells_row (A0 : Option Addr) (c0 : Nat) (l : List Int) (fr : Int) (late : Bool) (w : World) (hg : Laid w) (hr : ReadsInt w .i64 A0 l.length l) (_ : l.length ≤ c0) (_ : l.length * 8 ≤ 140737488351232) (_ : ∀ x ∈ l, (Lit.int .i64 x).wf = true) (_ : (Lit.int .i64 fr).wf = true) :
    Calls Tryd.prog 4 #[.slice A0 l.length c0, .int .i64 fr, .bool late] w fun e w' => e = .returned (.bool true) ∧ Below w.heap.size w w' := tells_any A0 c0 l fr late w hg hr
end Go.Proofs.YtgkhkcoojfjofaaDoor
