/- The steps of a region that draws its order, over a state that is no literal. -/
import Derived.Test.YtfnnjgbldojigaaDoorEchoQ
set_option linter.unusedVariables false
set_option linter.unusedSimpArgs false
namespace Go.Proofs.YtfnnjgbldojigaaDoor
open Go.RowKit Go.Proofs.YtfnnjgbldojigaaDoorW.PrintWords Go.Proofs.Mine Go.Proofs.Mine.Crc

section
variable {P : Program} {o : Oper} {a : Act} {w : World} {K : Act → World → Prop} {Q : Exit → Act → World → Prop}
theorem call_wp (f : FuncId) {fn : Func} (hf : P.funcs[f]? = some fn) (hn : fn.name ≠ "runtime.NumGoroutine") (hb : fn.body ≠ none) (xs : Array Operand) (ts : Array TypeId) (ho : o.op = .call { callee := .value (.func f), args := xs, argTypes := ts }) {ys : Array Value} (hx : xs.map a.eval = ys) {R : Value → World → Prop}
    (h : Calls P f ys w fun e w' => ∃ v, e = .returned v ∧ R v w') (hK : ∀ v w', R v w' → K (a.put o.dst v) w') : Oper.wp P o a w K Q := by
  unfold Oper.wp execOp
  subst hx
  have e : (callFunc f (#[] ++ xs.map a.eval ++ #[])).run P w = .ok (.enter f (xs.map a.eval)) w := by
    simp [callFunc, go_sem, hf, hn, hb]
  simp only [ho]
  show Oper.upon P o a K Q ((callFunc f (#[] ++ xs.map a.eval ++ #[])).run P w)
  rw [e, Oper.upon_enter]
  refine Calls.mono h ?_
  rintro e w' ⟨v, rfl, hR⟩
  exact hK v w' hR
theorem build_wp (t : TypeId) (n : Nat) (xs : Array (Nat × Operand)) (ho : o.op = .buildSlice t n xs) {ys : Array (Nat × Value)} (hx : xs.map (fun x => (x.1, a.eval x.2)) = ys) {v : Value} {w' : World} (hr : (Instr.buildSlice t n ys).run P w = .ok v w') (h : K (a.put o.dst v) w') : Oper.wp P o a w K Q := by
  unfold Oper.wp execOp
  simp only [ho, hx, Sem.run_bind, hr, Result.andThen_ok, Sem.run_pure]
  exact h
theorem convert_wp (t u : TypeId) (x : Operand) (ho : o.op = .convert t u x) {v : Value} {w' : World} (hr : (convert t u (a.eval x)).run P w = .ok v w') (h : K (a.put o.dst v) w') : Oper.wp P o a w K Q := by
  unfold Oper.wp execOp
  simp only [ho, Sem.run_bind, hr, Result.andThen_ok, Sem.run_pure]
  exact h
theorem pick_wp (x y z : Operand) (ho : o.op = .pick x y z) (hx : a.eval x = .bool true) (h : K (a.put o.dst (a.eval y)) w) : Oper.wp P o a w K Q := by
  unfold Oper.wp execOp
  simp only [ho, hx, asBool, Sem.run_bind, Sem.run_pure, Result.andThen_ok, if_true]
  exact h
theorem assign_wp (x : Operand) (ho : o.op = .assign x) (h : K (a.put o.dst (a.eval x)) w) : Oper.wp P o a w K Q := by
  unfold Oper.wp execOp
  simp only [ho, Sem.run_bind, Sem.run_pure, Result.andThen_ok]
  exact h
theorem put_same {d : Nat} {v : Value} (h : d < a.tmps.size) : (a.put (some d) v).tmps.getD d undef = v := by
  show (a.tmps.setIfInBounds d v).getD d undef = v
  simp [h]
theorem put_other {d n : Nat} {v : Value} (h : d ≠ n) : (a.put (some d) v).tmps.getD n undef = a.tmps.getD n undef := by
  show (a.tmps.setIfInBounds d v).getD n undef = _
  simp [Array.getElem?_setIfInBounds, h]
theorem put_size {d : Nat} {v : Value} : (a.put (some d) v).tmps.size = a.tmps.size := by
  show (a.tmps.setIfInBounds d v).size = _
  simp
theorem wanted_yes {ops : Array Oper} {j d : Nat} {oj : Oper} (hj : ops[j]? = some oj) (hd : oj.dst = some d) (ht : a.tmps.getD d undef = .bool true) (hs : d < a.tmps.size) (ho : o.guard = some (j, true)) : Region.wanted o (yielded ops a.tmps) = true := by
  unfold Region.wanted yielded
  have h1 : a.tmps[d]? = some (.bool true) := by
    rw [Array.getElem?_eq_getElem hs]
    rw [← ht]
    simp [hs]
  simp [ho, hj, hd, h1]
end
theorem build_empty (w : World) : (Instr.buildSlice 22 0 #[]).run Tryd.prog w = .ok (.slice (some ⟨w.heap.size, 0, none⟩) 0 0) (w.alloc (.cells #[] 32)) := by
  go_simp
theorem build_more (w : World) : (Instr.buildSlice 32 4 #[(0, .int .u8 109), (1, .int .u8 111), (2, .int .u8 114), (3, .int .u8 101)]).run Tryd.prog w = .ok (.slice (some ⟨w.heap.size, 0, none⟩) 4 4) (w.alloc (.cells #[.int .u8 109, .int .u8 111, .int .u8 114, .int .u8 101] 5)) := by
  go_simp
theorem build_one (w : World) (v : Value) (g : Nat) (hv : v = .slice (some ⟨g, 0, none⟩) 4 4) : (Instr.buildSlice 22 1 #[(0, v)]).run Tryd.prog w = .ok (.slice (some ⟨w.heap.size, 0, none⟩) 1 1) (w.alloc (.cells #[v] 32)) := by
  subst hv
  go_simp
end Go.Proofs.YtfnnjgbldojigaaDoor
