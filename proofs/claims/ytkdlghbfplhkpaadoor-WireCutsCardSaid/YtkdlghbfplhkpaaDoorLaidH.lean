/- From the row's condition on errors.errorType to the variable's cell; a world that meets it. -/
import Derived.Test.YtkdlghbfplhkpaaDoorRows
import Derived.Test.YtkdlghbfplhkpaaDoorAsW
import Derived.ChangeSame
import Derived.ChangeVars
import Derived.JoinedOf
import Derived.RowKit
import Derived.RowKitTokens
import Derived.LaidLaws
import Derived.LaidHandle
import Derived.Stop.Joined
import Derived.SevenTiedAt
namespace Go.Proofs.YtkdlghbfplhkpaaDoor.LaidH
open Go.ChangeShapes Go.WideShapes Go.RowKit

def laid : List (String × DataW Unit) := [("errors.errorType", Rows.laid_errors_errorType)]
theorem et : Tryd.prog.globalNamed "errors.errorType" = some 0 := by kernel_rfl
theorem rt : (Tryd.prog.cutTypes.find? (·.1 == "internal/reflectlite.rtype")).map (·.2) = some 125 := by kernel_rfl
theorem oneRow : ((List.range 165).filter fun t => Tryd.prog.rowNamed t [101, 114, 114, 111, 114]) = [68] := by kernel_rfl
theorem size : Tryd.prog.types.size = 165 := by kernel_rfl
theorem handle_of_laid {W : World} (h : laidMetH Tryd.prog laid W) : Laid W := by
  have h' : laidMet Tryd.prog [] W ∧ handlesMet Tryd.prog laid W := h
  obtain ⟨name, u, ty, e1, e2, e3, e4, e5⟩ := h'.2 _ (List.mem_singleton.2 rfl)
  have en : name = [101, 114, 114, 111, 114] := (Option.some.inj e1).symm
  subst en
  obtain rfl := Option.some.inj (rt.symm.trans e2)
  have hm : ty ∈ (List.range 165).filter fun t => Tryd.prog.rowNamed t [101, 114, 114, 111, 114] := List.mem_filter.2 ⟨List.mem_range.2 (by rw [← size]; exact e3), e4⟩
  rw [oneRow] at hm
  obtain rfl := List.mem_singleton.1 hm
  have hh : typeHandle Tryd.prog 68 = .pointer (some ⟨1, 68, none⟩) := by kernel_rfl
  rw [hh] at e5
  have hc : W.cell? ⟨0, 0, none⟩ = some (.iface 125 (.agg #[.pointer (some ⟨1, 68, none⟩)])) := by simpa using World.var?_cell et e5 0
  exact hc
noncomputable def laidWorld (os : Os) : World :=
  let w0 := World.holding Tryd.prog os ⟨#[], #[], []⟩
  { w0 with heap := w0.heap.modify 0 fun
      | .cells _ t frozen => .cells #[.iface 125 (.agg #[.pointer (some ⟨1, 68, none⟩)])] t frozen
      | o => o }
theorem laidWorld_met (os : Os) (args : Array Value) : laidMetH Tryd.prog laid ((laidWorld os).forCall (fun _ _ => 0) ⟨#[], args, []⟩).memory :=
  laidMetH_of_parts (laidMet_nil _ _) (by kernel_rfl)
end Go.Proofs.YtkdlghbfplhkpaaDoor.LaidH
