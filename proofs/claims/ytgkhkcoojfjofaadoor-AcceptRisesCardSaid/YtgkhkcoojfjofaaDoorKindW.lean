/- Where, Kind, Is, Clone; number, within, known. -/
import Derived.Test.YtgkhkcoojfjofaaDoorFaultW
set_option linter.unusedVariables false
set_option linter.unusedSimpArgs false
namespace Go.Proofs.YtgkhkcoojfjofaaDoor
open Go.RowKit Go.Proofs.Mine Go.Proofs.YtgkhkcoojfjofaaDoorW.PrintWords

theorem str_lit0 (w : World) : Kd.string.R 9 (w.alloc (.cells #[] 9)) w.heap.size (fun k => w.heap.size ≤ k) (.slice (some ⟨w.heap.size, 0, none⟩) 0 0) [] :=
  Kd.R_of_own ⟨rfl, .inr ⟨w.heap.size, 0, #[], rfl, Nat.le_refl _, heap_alloc_new w _, Nat.le_refl _, by decide, rfl, rfl⟩⟩ (fun k hk => by
    have : w.heap.size = k := by simpa [Value.ownBlock] using hk
    show w.heap.size ≤ k
    omega)
theorem c_some {w : World} {A : Option Addr} {n : Nat} {xs : List ByteArray} (h : Kd.string.C w A n xs) (h0 : 0 < n) : ∃ ad, A = some ad := by
  obtain ⟨ad, _, hA, _⟩ := Kd.C_get h ByteArray.empty 0 (by omega) (by omega)
  exact ⟨ad, hA⟩
set_option maxHeartbeats 1000000 in
theorem kind_nil (w : World) : Calls Tryd.prog 34 #[.nilIface] w fun e w' => e = .returned (.int .i64 0) ∧ w = w' := by
  go_enter Tryd.func34, Tryd.ntmps34
  go_wp2
  go_ret
  exact ⟨rfl, rfl⟩
set_option maxHeartbeats 1000000 in
theorem kind_num (n : Int) (w : World) (hg0 : Laid w) (hn : n ≠ 0) : Calls Tryd.prog 34 #[.iface 33 (.int .i64 n)] w fun e w' => e = .returned (.int .i64 n) ∧ Below w.heap.size w w' := by
  have hg := Lib.hid hg0
  have hn0 : (n == 0) = false := by simp [hn]
  clear hg0
  go_enter Tryd.func34, Tryd.ntmps34
  go_wp2_with (first
    | (go_at_call 42
       refine (as_no_num n w.heap.size (.int .i64 0) (w.alloc (.cells #[.int .i64 0] 33)) (hg.out.alloc _) (by simp) (by simp)).mono ?_
       rintro e w1 ⟨rfl, hK, ht, hf⟩
       have hK0 : Keep (fun _ => False) w w1 := ⟨hK.os, hK.tape, hK.output, by have := hK.size; simp at this; omega, fun k hk _ => (hK.block k (by simp; omega) (by show k ≠ w.heap.size; omega)).trans (Below.heap_alloc w _ k hk)⟩
       have HB1 := Lib.hid (hK0.to_below (Nat.le_refl _) (fun _ h => h.elim))
       clear hK hK0)
    | (go_at_call 33
       refine (is_num n 0 w1).mono ?_
       rintro e w2 ⟨rfl, rfl⟩
       rw [hn0]))
  go_ret
  exact ⟨rfl, HB1.out⟩
set_option maxHeartbeats 1000000 in
theorem kind_at_num (b : Nat) (n : Int) (w : World) (hg0 : Laid w) (hb : w.cell? ⟨b, 1, none⟩ = some (.iface 33 (.int .i64 n))) (hn : n ≠ 0) : Calls Tryd.prog 34 #[.iface 84 (.pointer (some ⟨b, 0, none⟩))] w fun e w' => e = .returned (.int .i64 n) ∧ Below w.heap.size w w' := by
  have hg := Lib.hid hg0
  have hn0 : (n == 0) = false := by simp [hn]
  clear hg0
  go_enter Tryd.func34, Tryd.ntmps34
  go_wp2_with (first
    | (go_at_call 42
       refine (as_no_at_num b n w.heap.size (.int .i64 0) (w.alloc (.cells #[.int .i64 0] 33)) (hg.out.alloc _) (by simp) (by simp) (pw_cell_below ((Below.refl _ _).alloc (Nat.le_refl _) (.cells #[.int .i64 0] 33)) hb)).mono ?_
       rintro e w1 ⟨rfl, hK, ht, hf⟩
       have hK0 : Keep (fun _ => False) w w1 := ⟨hK.os, hK.tape, hK.output, by have := hK.size; simp at this; omega, fun k hk _ => (hK.block k (by simp; omega) (by show k ≠ w.heap.size; omega)).trans (Below.heap_alloc w _ k hk)⟩
       have HB1 := Lib.hid (hK0.to_below (Nat.le_refl _) (fun _ h => h.elim))
       clear hK hK0)
    | (go_at_call 33
       refine (is_at_num b n 0 w1 (pw_cell_below HB1.out hb)).mono ?_
       rintro e w2 ⟨rfl, rfl⟩
       rw [hn0]))
  go_ret
  exact ⟨rfl, HB1.out⟩
end Go.Proofs.YtgkhkcoojfjofaaDoor
