/- fault's functions by their contracts. -/
import Derived.Test.YtkdlghbfplhkpaaDoorIsW
import Derived.Lib.SliceRun
import Derived.Deep.RegionLaw
set_option linter.unusedVariables false
set_option linter.unusedSimpArgs false
namespace Go.Proofs.YtkdlghbfplhkpaaDoor
open Go.RowKit Go.Proofs.Mine Go.Proofs.YtkdlghbfplhkpaaDoorW.PrintWords

/-- What an error was, at bottom: a number, or one of errors.New's make. -/
inductive Bs where
  | num (n : Int)
def Bs.v : Bs → Value | .num n => .iface 33 (.int .i64 n)
def Bs.kind : Bs → Int | .num n => n
def Bs.fine : Bs → Prop | .num n => n ≠ 0
/-- An error with its places, at block b. -/
def AtIs (w : World) (b : Nat) (ps : List ByteArray) (k : Bs) : Prop := ∃ A c, w.heap[b]? = some (.cells #[.slice A ps.length c, k.v] 111 (0, 0)) ∧ Kd.string.C w A ps.length ps ∧ k.fine
theorem AtIs.lt {w : World} {b : Nat} {ps : List ByteArray} {k : Bs} (h : AtIs w b ps k) : b < w.heap.size := by
  obtain ⟨A, c, h, _⟩ := h
  exact blk_lt h
theorem AtIs.below {w w1 : World} {b : Nat} {ps : List ByteArray} {k : Bs} (h : AtIs w b ps k) (hB : Below w.heap.size w w1) : AtIs w1 b ps k := by
  obtain ⟨A, c, h1, h2, h3⟩ := h
  exact ⟨A, c, blk_below h1 hB, Kd.C_below h2 hB, h3⟩
theorem AtIs.alloc {w : World} {b : Nat} {ps : List ByteArray} {k : Bs} (h : AtIs w b ps k) (o : Obj) : AtIs (w.alloc o) b ps k := h.below ((Below.refl _ _).alloc (Nat.le_refl _) o)
theorem AtIs.err {w : World} {b : Nat} {ps : List ByteArray} {k : Bs} (h : AtIs w b ps k) : w.cell? ⟨b, 1, none⟩ = some k.v := by
  obtain ⟨A, c, h1, _⟩ := h
  exact blk_cell h1 1
/-- An error that is none of these two is not looked at: a base, or one with places. -/
inductive Er where
  | base (k : Bs)
  | at (b : Nat) (ps : List ByteArray) (k : Bs)
def Er.v : Er → Value | .base k => k.v | .at b _ _ => .iface 108 (.pointer (some ⟨b, 0, none⟩))
def Er.ps : Er → List ByteArray | .base _ => [] | .at _ ps _ => ps
def Er.k : Er → Bs | .base k => k | .at _ _ k => k
def Er.ok (w : World) : Er → Prop | .base k => k.fine | .at b ps k => AtIs w b ps k
theorem Er.ok_below {w w1 : World} {e : Er} (h : e.ok w) (hB : Below w.heap.size w w1) : e.ok w1 := by
  cases e with
  | base k => exact h
  | «at» b ps k => exact AtIs.below h hB
def wrapP (s : ByteArray) (ps : List ByteArray) : List ByteArray := if ps.length < 16 then s :: ps else ps
theorem str_lit (W : World) (s : ByteArray) : Kd.string.C (W.alloc (.cells #[.string s] 9)) (some ⟨W.heap.size, 0, none⟩) 1 [s] :=
  Kd.C_of_reads (enc := Value.string) (d := ByteArray.empty) (h1 := fun _ => rfl) ⟨rfl, by decide, fun _ => ⟨_, rfl, fun j hj => by
    obtain rfl : j = 0 := by omega
    exact blk_cell (heap_alloc_new W (.cells #[.string s] 9)) 0⟩⟩
/-- A new error of one place, as it is laid. -/
theorem at_new (W : World) (s : ByteArray) (k : Bs) (hk : k.fine) : AtIs ((W.alloc (.cells #[.string s] 9)).alloc (.cells #[.slice (some ⟨W.heap.size, 0, none⟩) 1 1, k.v] 111)) (W.heap.size + 1) [s] k := by
  refine ⟨some ⟨W.heap.size, 0, none⟩, 1, ?_, Kd.C_below (str_lit W s) ((Below.refl _ _).alloc (Nat.le_refl _) _), hk⟩
  have h := heap_alloc_new (W.alloc (.cells #[.string s] 9)) (.cells #[.slice (some ⟨W.heap.size, 0, none⟩) 1 1, k.v] 111)
  rwa [show (W.alloc (.cells #[.string s] 9)).heap.size = W.heap.size + 1 from by simp] at h
theorem below2 (w : World) (o1 o2 : Obj) : Below w.heap.size w ((w.alloc o1).alloc o2) := ((Below.refl _ _).alloc (Nat.le_refl _) o1).alloc (by simp) o2
set_option maxHeartbeats 1000000 in
theorem new_any (s : ByteArray) (n : Int) (w : World) (hn : n ≠ 0) : Calls Tryd.prog 61 #[.string s, .int .i64 n] w fun e w' => ∃ b, e = .returned (.iface 108 (.pointer (some ⟨b, 0, none⟩))) ∧ AtIs w' b [s] (.num n) ∧ Below w.heap.size w w' := by
  have h0 : (n == 0) = false := by simp [hn]
  have HA := Lib.hid (at_new w s (.num n) hn)
  go_enter Tryd.func61, Tryd.ntmps61
  go_wp2
  go_ret
  exact ⟨_, rfl, HA.out, below2 w _ _⟩
set_option maxHeartbeats 1000000 in
theorem new_zero (s : ByteArray) (w : World) : Calls Tryd.prog 61 #[.string s, .int .i64 0] w fun e w' => e = .returned .nilIface ∧ w = w' := by
  go_enter Tryd.func61, Tryd.ntmps61
  go_wp2
  go_ret
  exact ⟨rfl, rfl⟩
/-- A guard: the operation is an append. -/
theorem isAppend {P : Program} {ops : Array Oper} {o : Oper} {a : Act} {W : World} {Kc : Act → World → Prop} {Q : Exit → Act → World → Prop} (s x : Operand) (t : TypeId) (ho : o.op = .call { callee := .builtin .append, args := #[s, x], argTypes := #[t, t] })
    (h : if Region.wanted o (yielded ops a.tmps) = true then Oper.wp P o a W Kc Q else Kc (a.put o.dst undef) W) : if Region.wanted o (yielded ops a.tmps) = true then Oper.wp P o a W Kc Q else Kc (a.put o.dst undef) W := h
theorem lit_row (W : World) (s : ByteArray) : Kd.string.R 9 (W.alloc (.cells #[.string s] 9)) W.heap.size (fun k => W.heap.size ≤ k) (.slice (some ⟨W.heap.size, 0, none⟩) 1 1) [s] :=
  Kd.R_of_own ⟨rfl, .inr ⟨W.heap.size, 1, #[.string s], rfl, Nat.le_refl _, heap_alloc_new W _, Nat.le_refl _, by decide, rfl, rfl⟩⟩ (fun k hk => by
    have : W.heap.size = k := by simpa [Value.ownBlock] using hk
    show W.heap.size ≤ k
    omega)
theorem at_made {w2 : World} {base : Nat} {ok : Nat → Prop} {A2 : Option Addr} {c2 : Nat} {s : ByteArray} {ps : List ByteArray} {k : Bs} {T : TypeId} {u : Value} (hR : Kd.string.R 9 w2 base ok (.slice A2 ([s] ++ ps).length c2) ([s] ++ ps)) (hk : k.v = .iface T u) (hf : k.fine) :
    AtIs (w2.alloc (.cells #[.slice A2 (ps.length + 1) c2, .iface T u] 111)) w2.heap.size (s :: ps) k := by
  refine ⟨A2, c2, ?_, Kd.C_below (Kd.R_reads' hR).2.2 ((Below.refl _ _).alloc (Nat.le_refl _) _), hf⟩
  rw [hk]
  exact heap_alloc_new w2 _
end Go.Proofs.YtkdlghbfplhkpaaDoor
