/- WireCuts as the row wants it. -/
import Derived.Test.YtkdlghbfplhkpaaDoorCutL
import Derived.Test.YtkdlghbfplhkpaaDoorOpnM
set_option linter.unusedVariables false
set_option linter.unusedSimpArgs false
namespace Go.Proofs.YtkdlghbfplhkpaaDoor
open Go.RowKit Go.Proofs.YtkdlghbfplhkpaaDoorW.PrintWords Go.Proofs.Mine

theorem laid_lt {w : World} (h : Laid w) : 0 < w.heap.size := by
  have h1 : w.cell? ⟨0, 0, none⟩ = _ := h
  exact World.block_lt_of_cell? w _ h1
theorem cuts_row (m : Msg) (At Ae Ao An : Option Addr) (ct ce co cn : Nat) (x : Ent) (Ax : Option Addr) (cx : Nat) (w : World) (hg : Laid w) (hm : MsgR w m At Ae Ao An) (h1 : m.terms.length ≤ ct) (_ : m.ents.length ≤ ce) (h2 : m.old.length ≤ co) (h3 : m.new.length ≤ cn) (hcx : x.mem.length ≤ cx) (hx : ReadsInt w .i64 Ax x.mem.length x.mem) :
    Calls Tryd.prog 4 #[msgV m At Ae Ao An ct ce co cn, .agg (x.cells (.slice Ax x.mem.length cx)).toArray] w fun e w' => e = .returned (.bool true) ∧ Below w.heap.size w w' :=
  cuts_any m At Ae Ao An ct ce co cn x Ax cx w hg (laid_lt hg) hm h1 h2 h3 hx hcx
end Go.Proofs.YtkdlghbfplhkpaaDoor
