/- AcceptChosen as the row wants it. -/
import Derived.Test.YtgkhkcoojfjofaaDoorChoL
set_option linter.unusedVariables false
set_option linter.unusedSimpArgs false
namespace Go.Proofs.YtgkhkcoojfjofaaDoor
open Go.RowKit Go.Proofs.YtgkhkcoojfjofaaDoorW.PrintWords Go.Proofs.Mine

theorem chosen_row (n0 : Int) (A1 : Option Addr) (c1 : Nat) (lb : List Int) (A2 : Option Addr) (c2 : Nat) (lw : List Int) (A3 : Option Addr) (c3 : Nat) (lh : List Int) (w : World) (_ : Laid w) (_ : (Lit.int .i64 n0).wf = true)
    (h1 : ReadsInt w .i64 A1 lb.length lb) (_ : lb.length ≤ c1) (_ : lb.length * 8 ≤ 140737488351232) (_ : ∀ x ∈ lb, (Lit.int .i64 x).wf = true)
    (h2 : ReadsInt w .i64 A2 lw.length lw) (_ : lw.length ≤ c2) (_ : lw.length * 8 ≤ 140737488351232) (_ : ∀ x ∈ lw, (Lit.int .i64 x).wf = true)
    (h3 : ReadsInt w .i64 A3 lh.length lh) (_ : lh.length ≤ c3) (_ : lh.length * 8 ≤ 140737488351232) (_ : ∀ x ∈ lh, (Lit.int .i64 x).wf = true) :
    Calls Tryd.prog 7 #[.int .i64 n0, .slice A1 lb.length c1, .slice A2 lw.length c2, .slice A3 lh.length c3] w fun e w' => e = .returned (.bool true) ∧ Below w.heap.size w w' := chosen_any n0 A1 A2 A3 c1 c2 c3 lb lw lh w h1 h2 h3
end Go.Proofs.YtgkhkcoojfjofaaDoor
