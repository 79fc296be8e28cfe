import Derived.Test.YtfnnjgbldojigaaDoorRowK
/-! A guarded operation whose guard says yes steps as the same operation without its guard. -/


open Go
namespace Go.Proofs.YtfnnjgbldojigaaDoor
theorem unguard {P : Program} {ops : Array Oper} {Q : Exit → Act → World → Prop} {a : Act} {w : World} {rest : List Oper} {o : Oper}
    (hw : Region.wanted o (yielded ops a.tmps) = true) (h : wpList P ops Q ({ o with guard := none } :: rest) a w) : wpList P ops Q (o :: rest) a w := by
  simp only [wpList, hw, if_true]
  simp only [wpList, Region.wanted, if_true] at h
  exact h
end Go.Proofs.YtfnnjgbldojigaaDoor
