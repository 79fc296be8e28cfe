/- fault's functions by their contracts. -/
import Derived.Test.YtfnnjgbldojigaaDoorIsW
import Derived.Lib.SliceRun
import Derived.Deep.RegionLaw
set_option linter.unusedVariables false
set_option linter.unusedSimpArgs false
namespace Go.Proofs.YtfnnjgbldojigaaDoor
open Go.RowKit Go.Proofs.Mine Go.Proofs.YtfnnjgbldojigaaDoorW.PrintWords

/-- What an error was, at bottom: a number, or one of errors.New's make. -/
inductive Bs where
  | num (n : Int)
def Bs.v : Bs → Value | .num n => .iface 25 (.int .i64 n)
def Bs.kind : Bs → Int | .num n => n
def Bs.fine : Bs → Prop | .num n => n ≠ 0
/-- An error with its places, at block b. -/
def AtIs (w : World) (b : Nat) (ps : List ByteArray) (k : Bs) : Prop := ∃ A c, w.heap[b]? = some (.cells #[.slice A ps.length c, k.v] 104 (0, 0)) ∧ Kd.string.C w A ps.length ps ∧ k.fine
theorem AtIs.lt {w : World} {b : Nat} {ps : List ByteArray} {k : Bs} (h : AtIs w b ps k) : b < w.heap.size := by
  obtain ⟨A, c, h, _⟩ := h
  exact blk_lt h
theorem AtIs.below {w w1 : World} {b : Nat} {ps : List ByteArray} {k : Bs} (h : AtIs w b ps k) (hB : Below w.heap.size w w1) : AtIs w1 b ps k := by
  obtain ⟨A, c, h1, h2, h3⟩ := h
  exact ⟨A, c, blk_below h1 hB, Kd.C_below h2 hB, h3⟩
theorem AtIs.alloc {w : World} {b : Nat} {ps : List ByteArray} {k : Bs} (h : AtIs w b ps k) (o : Obj) : AtIs (w.alloc o) b ps k := h.below ((Below.refl _ _).alloc (Nat.le_refl _) o)
theorem AtIs.err {w : World} {b : Nat} {ps : List ByteArray} {k : Bs} (h : AtIs w b ps k) : w.cell? ⟨b, 1, none⟩ = some k.v := by
  obtain ⟨A, c, h1, _⟩ := h
  exact blk_cell h1 1
/-- An error that is none of these two is not looked at: a base, or one with places. -/
inductive Er where
  | base (k : Bs)
  | at (b : Nat) (ps : List ByteArray) (k : Bs)
def Er.v : Er → Value | .base k => k.v | .at b _ _ => .iface 99 (.pointer (some ⟨b, 0, none⟩))
def Er.ps : Er → List ByteArray | .base _ => [] | .at _ ps _ => ps
def Er.k : Er → Bs | .base k => k | .at _ _ k => k
def Er.ok (w : World) : Er → Prop | .base k => k.fine | .at b ps k => AtIs w b ps k
theorem Er.ok_below {w w1 : World} {e : Er} (h : e.ok w) (hB : Below w.heap.size w w1) : e.ok w1 := by
  cases e with
  | base k => exact h
  | «at» b ps k => exact AtIs.below h hB
def wrapP (s : ByteArray) (ps : List ByteArray) : List ByteArray := if ps.length < 16 then s :: ps else ps
theorem str_lit (W : World) (s : ByteArray) : Kd.string.C (W.alloc (.cells #[.string s] 9)) (some ⟨W.heap.size, 0, none⟩) 1 [s] :=
  Kd.C_of_reads (enc := Value.string) (d := ByteArray.empty) (h1 := fun _ => rfl) ⟨rfl, by decide, fun _ => ⟨_, rfl, fun j hj => by
    obtain rfl : j = 0 := by omega
    exact blk_cell (heap_alloc_new W (.cells #[.string s] 9)) 0⟩⟩
/-- A new error of one place, as it is laid. -/
theorem at_new (W : World) (s : ByteArray) (k : Bs) (hk : k.fine) : AtIs ((W.alloc (.cells #[.string s] 9)).alloc (.cells #[.slice (some ⟨W.heap.size, 0, none⟩) 1 1, k.v] 104)) (W.heap.size + 1) [s] k := by
  refine ⟨some ⟨W.heap.size, 0, none⟩, 1, ?_, Kd.C_below (str_lit W s) ((Below.refl _ _).alloc (Nat.le_refl _) _), hk⟩
  have h := heap_alloc_new (W.alloc (.cells #[.string s] 9)) (.cells #[.slice (some ⟨W.heap.size, 0, none⟩) 1 1, k.v] 104)
  rwa [show (W.alloc (.cells #[.string s] 9)).heap.size = W.heap.size + 1 from by simp] at h
theorem below2 (w : World) (o1 o2 : Obj) : Below w.heap.size w ((w.alloc o1).alloc o2) := ((Below.refl _ _).alloc (Nat.le_refl _) o1).alloc (by simp) o2
set_option maxHeartbeats 1000000 in
theorem new_any (s : ByteArray) (n : Int) (w : World) (hn : n ≠ 0) : Calls Tryd.prog 61 #[.string s, .int .i64 n] w fun e w' => ∃ b, e = .returned (.iface 99 (.pointer (some ⟨b, 0, none⟩))) ∧ AtIs w' b [s] (.num n) ∧ Below w.heap.size w w' := by
  have h0 : (n == 0) = false := by simp [hn]
  have HA := Lib.hid (at_new w s (.num n) hn)
  go_enter Tryd.func61, Tryd.ntmps61
  go_wp2
  go_ret
  exact ⟨_, rfl, HA.out, below2 w _ _⟩
set_option maxHeartbeats 1000000 in
theorem new_zero (s : ByteArray) (w : World) : Calls Tryd.prog 61 #[.string s, .int .i64 0] w fun e w' => e = .returned .nilIface ∧ w = w' := by
  go_enter Tryd.func61, Tryd.ntmps61
  go_wp2
  go_ret
  exact ⟨rfl, rfl⟩
set_option maxHeartbeats 1000000 in
theorem wrap_nil (s : ByteArray) (w : World) : Calls Tryd.prog 41 #[.string s, .nilIface] w fun e w' => e = .returned .nilIface ∧ w = w' := by
  go_enter Tryd.func41, Tryd.ntmps41
  go_wp2
  go_ret
  exact ⟨rfl, rfl⟩
set_option maxHeartbeats 1000000 in
theorem wrap_num (s : ByteArray) (n : Int) (w : World) (hg0 : Laid w) (hk : (Bs.num n : Bs).fine) : Calls Tryd.prog 41 #[.string s, .iface 25 (.int .i64 n)] w fun e w' => ∃ b, e = .returned (.iface 99 (.pointer (some ⟨b, 0, none⟩))) ∧ AtIs w' b [s] (Bs.num n) ∧ Below w.heap.size w w' := by
  have hg := Lib.hid hg0
  have HA := Lib.hid (fun W => at_new W s (Bs.num n) hk)
  clear hg0 hk
  go_enter Tryd.func41, Tryd.ntmps41
  go_wp2_with (go_at_call 56
               refine (as_at_num n w.heap.size (.pointer none) (w.alloc (.cells #[.pointer none] 99)) (hg.out.alloc _) (by simp) (by simp)).mono ?_
               rintro e w1 ⟨rfl, hB⟩
               have HB1 := Lib.hid (((Below.refl _ _).alloc (Nat.le_refl _) (.cells #[.pointer none] 99)).trans (hB.mono (by simp)))
               clear hB)
  go_ret
  exact ⟨_, rfl, HA.out w1, HB1.out.trans ((below2 w1 _ _).mono HB1.out.size)⟩
set_option maxHeartbeats 1000000 in
theorem wrap_full (s : ByteArray) (b : Nat) (ps : List ByteArray) (k : Bs) (w : World) (hg0 : Laid w) (ha : AtIs w b ps k) (hl : 16 ≤ ps.length) : Calls Tryd.prog 41 #[.string s, .iface 99 (.pointer (some ⟨b, 0, none⟩))] w fun e w' => e = .returned (.iface 99 (.pointer (some ⟨b, 0, none⟩))) ∧ Below w.heap.size w w' := by
  have hg := Lib.hid hg0
  have HA := Lib.hid ha
  clear hg0 ha
  go_enter Tryd.func41, Tryd.ntmps41
  go_wp2_with (go_at_call 56
               refine (as_at_at b w.heap.size (.pointer none) (w.alloc (.cells #[.pointer none] 99)) (hg.out.alloc _) (by simp) (by simp)).mono ?_
               rintro e w1 ⟨rfl, hK, ht, hf⟩
               have hK0 : Keep (fun _ => False) w w1 := ⟨hK.os, hK.tape, hK.output, by have := hK.size; simp at this; omega, fun k hk _ => (hK.block k (by simp; omega) (by show k ≠ w.heap.size; omega)).trans (Below.heap_alloc w _ k hk)⟩
               have HB1 := Lib.hid (hK0.to_below (Nat.le_refl _) (fun _ h => h.elim))
               have HA1 := Lib.hid (HA.out.below HB1.out)
               obtain ⟨Ap, cp, hb, hC, hfine⟩ := HA1.out
               obtain ⟨T, u, hkv⟩ : ∃ T u, k.v = .iface T u := by cases k <;> exact ⟨_, _, rfl⟩
               rw [hkv] at hb
               have HKV := Lib.hid hkv
               clear hkv
               have HC1 := Lib.hid hC
               have hb0 : w1.cell? ⟨b, 0, none⟩ = _ := blk_cell hb 0
               have hb1 : w1.cell? ⟨b, 1, none⟩ = _ := blk_cell hb 1
               have HBK := Lib.hid hb
               clear hK hK0 hC hb)
  go_ret
  exact ⟨rfl, HB1.out⟩
/-- A guard: the operation is an append. -/
theorem isAppend {P : Program} {ops : Array Oper} {o : Oper} {a : Act} {W : World} {Kc : Act → World → Prop} {Q : Exit → Act → World → Prop} (s x : Operand) (t : TypeId) (ho : o.op = .call { callee := .builtin .append, args := #[s, x], argTypes := #[t, t] })
    (h : if Region.wanted o (yielded ops a.tmps) = true then Oper.wp P o a W Kc Q else Kc (a.put o.dst undef) W) : if Region.wanted o (yielded ops a.tmps) = true then Oper.wp P o a W Kc Q else Kc (a.put o.dst undef) W := h
theorem lit_row (W : World) (s : ByteArray) : Kd.string.R 9 (W.alloc (.cells #[.string s] 9)) W.heap.size (fun k => W.heap.size ≤ k) (.slice (some ⟨W.heap.size, 0, none⟩) 1 1) [s] :=
  Kd.R_of_own ⟨rfl, .inr ⟨W.heap.size, 1, #[.string s], rfl, Nat.le_refl _, heap_alloc_new W _, Nat.le_refl _, by decide, rfl, rfl⟩⟩ (fun k hk => by
    have : W.heap.size = k := by simpa [Value.ownBlock] using hk
    show W.heap.size ≤ k
    omega)
theorem at_made {w2 : World} {base : Nat} {ok : Nat → Prop} {A2 : Option Addr} {c2 : Nat} {s : ByteArray} {ps : List ByteArray} {k : Bs} {T : TypeId} {u : Value} (hR : Kd.string.R 9 w2 base ok (.slice A2 ([s] ++ ps).length c2) ([s] ++ ps)) (hk : k.v = .iface T u) (hf : k.fine) :
    AtIs (w2.alloc (.cells #[.slice A2 (ps.length + 1) c2, .iface T u] 104)) w2.heap.size (s :: ps) k := by
  refine ⟨A2, c2, ?_, Kd.C_below (Kd.R_reads' hR).2.2 ((Below.refl _ _).alloc (Nat.le_refl _) _), hf⟩
  rw [hk]
  exact heap_alloc_new w2 _
set_option maxHeartbeats 4000000 in
theorem wrap_more (s : ByteArray) (b : Nat) (ps : List ByteArray) (k : Bs) (w : World) (hg0 : Laid w) (ha : AtIs w b ps k) (hl : ps.length < 16) : Calls Tryd.prog 41 #[.string s, .iface 99 (.pointer (some ⟨b, 0, none⟩))] w fun e w' => ∃ b', e = .returned (.iface 99 (.pointer (some ⟨b', 0, none⟩))) ∧ AtIs w' b' (s :: ps) k ∧ Below w.heap.size w w' := by
  have hg := Lib.hid hg0
  have HA := Lib.hid ha
  clear hg0 ha
  go_enter Tryd.func41, Tryd.ntmps41
  go_wp2_with (go_at_call 56
               refine (as_at_at b w.heap.size (.pointer none) (w.alloc (.cells #[.pointer none] 99)) (hg.out.alloc _) (by simp) (by simp)).mono ?_
               rintro e w1 ⟨rfl, hK, ht, hf⟩
               have hK0 : Keep (fun _ => False) w w1 := ⟨hK.os, hK.tape, hK.output, by have := hK.size; simp at this; omega, fun k hk _ => (hK.block k (by simp; omega) (by show k ≠ w.heap.size; omega)).trans (Below.heap_alloc w _ k hk)⟩
               have HB1 := Lib.hid (hK0.to_below (Nat.le_refl _) (fun _ h => h.elim))
               have HA1 := Lib.hid (HA.out.below HB1.out)
               obtain ⟨Ap, cp, hb, hC, hfine⟩ := HA1.out
               obtain ⟨T, u, hkv⟩ : ∃ T u, k.v = .iface T u := by cases k <;> exact ⟨_, _, rfl⟩
               rw [hkv] at hb
               have HKV := Lib.hid hkv
               clear hkv
               have HC1 := Lib.hid hC
               have hb0 : w1.cell? ⟨b, 0, none⟩ = _ := blk_cell hb 0
               have hb1 : w1.cell? ⟨b, 1, none⟩ = _ := blk_cell hb 1
               have HBK := Lib.hid hb
               clear hK hK0 hC hb)
  have hle : w.heap.size ≤ w1.heap.size := HB1.out.size
  have hbl := blk_lt HBK.out
  have hlit : RowKit.Hid (Kd.string.R 9 (w1.alloc (.cells #[.string s] 9)).drew w1.heap.size (fun k => w1.heap.size ≤ k) (.slice (some ⟨w1.heap.size, 0, none⟩) 1 1) [s]) := lit_row w1 s
  have t0 : w1.drew.cell? ⟨w.heap.size, 0, none⟩ = some (.pointer (some ⟨b, 0, none⟩)) := ht
  have t1 : ∀ o, (w1.alloc o).cell? ⟨w.heap.size, 0, none⟩ = some (.pointer (some ⟨b, 0, none⟩)) := fun o => pw_cell_below (w := w1) ((Below.refl _ _).alloc (Nat.le_refl _) o) ht
  have p0 : w1.drew.cell? ⟨b, 0, none⟩ = _ := hb0
  have p1 : ∀ o, (w1.alloc o).cell? ⟨b, 0, none⟩ = _ := fun o => blk_cell (blk_alloc HBK.out o) 0
  have e0 : w1.drew.cell? ⟨b, 1, none⟩ = _ := hb1
  have e1 : ∀ o, (w1.alloc o).cell? ⟨b, 1, none⟩ = _ := fun o => blk_cell (blk_alloc HBK.out o) 1
  have HCL : RowKit.Hid (Kd.string.C (w1.alloc (.cells #[.string s] 9)).drew Ap ps.length ps) := Kd.C_below HC1.out ((Below.refl w1.heap.size w1).alloc (Nat.le_refl _) (.cells #[.string s] 9)).drew
  have ht1 := ht
  clear ht hb0 hb1
  go_region_law (refine isAppend _ _ 102 (by rfl) ?_
                 refine Kd.R_append_rows_step Kd.string (Rr := Kd.string.K (w1.alloc (.cells #[.string s] 9)).drew) (w0 := w1.drew.alloc (.cells #[.string s] 9)) w1.heap.size (by rfl) _ _ 102 9 (.string ByteArray.empty) 16 (by rfl) Tryd.underlying102 F.info9 (by rfl) (by decide) (by decide) (.slice (some ⟨w1.heap.size, 0, none⟩) 1 1) [s] ps Ap ps.length cp (fun k => w1.heap.size ≤ k) (fun _ => False) (by rfl) (by rfl) hlit.out HCL.out (fun _ _ h => h) (fun _ h => h.elim) (fun k hk => by simp at hk; omega) (Below.refl _ _) (by simp) (by simp; omega) ?_
                 intro v1 w2 hR1 hB2 hg1 hat1
                 obtain ⟨A2, c2, rfl⟩ := Kd.R_slice hR1
                 have hBB : Below w1.heap.size w1 w2 := ⟨hB2.os, hB2.tape, hB2.output, by have := hB2.size; simp at this; omega, fun k hk => (hB2.block k hk).trans (Below.heap_alloc w1 _ k hk)⟩
                 have HB2 := Lib.hid hBB
                 have HR2 := Lib.hid hR1
                 have x0 : w2.cell? ⟨w.heap.size, 0, none⟩ = some (.pointer (some ⟨b, 0, none⟩)) := pw_cell_below hBB ht1
                 have x1 : w2.cell? ⟨b, 1, none⟩ = _ := blk_cell (blk_below HBK.out hBB) 1
                 clear hR1 hB2 hg1 hat1 hBB)
  all_goals
    have HF := Lib.hid (at_made HR2.out HKV.out hfine)
    have HBF := Lib.hid (HB1.out.trans ((HB2.out.alloc HB2.out.size (.cells #[.slice A2 (ps.length + 1) c2, .iface T u] 104)).mono hle))
    clear x0 x1 HR2 HB2 t0 t1 p0 p1 e0 e1 ht1 hlit HCL HBK HC1
    go_wp2
    go_ret
    exact ⟨_, rfl, HF.out, HBF.out⟩
end Go.Proofs.YtfnnjgbldojigaaDoor
