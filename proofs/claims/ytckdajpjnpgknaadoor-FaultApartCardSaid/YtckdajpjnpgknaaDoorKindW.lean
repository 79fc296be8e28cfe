/- Where, Kind, Is, Clone; number, within, known. -/
import Derived.Test.YtckdajpjnpgknaaDoorFaultW
set_option linter.unusedVariables false
set_option linter.unusedSimpArgs false
namespace Go.Proofs.YtckdajpjnpgknaaDoor
open Go.RowKit Go.Proofs.Mine Go.Proofs.YtckdajpjnpgknaaDoorW.PrintWords

theorem str_lit0 (w : World) : Kd.string.R 9 (w.alloc (.cells #[] 9)) w.heap.size (fun k => w.heap.size ≤ k) (.slice (some ⟨w.heap.size, 0, none⟩) 0 0) [] :=
  Kd.R_of_own ⟨rfl, .inr ⟨w.heap.size, 0, #[], rfl, Nat.le_refl _, heap_alloc_new w _, Nat.le_refl _, by decide, rfl, rfl⟩⟩ (fun k hk => by
    have : w.heap.size = k := by simpa [Value.ownBlock] using hk
    show w.heap.size ≤ k
    omega)
set_option maxHeartbeats 1000000 in
theorem clone_some (w : World) (ad : Addr) (n cap : Nat) (xs : List ByteArray) (hr : Kd.string.C w (some ad) n xs) (hn : n ≤ 1000000) :
    Calls Tryd.prog 20 #[.slice (some ad) n cap] w fun e w' => ∃ v, e = .returned v ∧ Kd.string.R 9 w' w.heap.size (fun k => w.heap.size ≤ k) v xs ∧ Below w.heap.size w w' := by
  have hnil := fun w => Lib.run_eql_slice_nil (P := Tryd.prog) w 22 9 (some ad) n cap 0 0 Tryd.underlying22
  have HR := Lib.hid hr
  clear hr
  have hlit := Lib.hid (str_lit0 w)
  have hn1 : xs.length = n := HR.out.1
  go_enter Tryd.func20, Tryd.ntmps20
  go_wp2_with (at_builtin
               refine Kd.R_append_row Value.string ByteArray.empty (h1 := fun _ => rfl) (w0 := w) w.heap.size rfl _ _ 22 9 (.string ByteArray.empty) 16 rfl Tryd.underlying22 F.info9 rfl (by decide) (.slice (some ⟨w.heap.size, 0, none⟩) 0 0) [] xs (some ad) n cap (fun k => w.heap.size ≤ k) rfl rfl (fun k hk => by simp at hk; omega) hlit.out (Kd.C_below HR.out ((Below.refl _ _).alloc (Nat.le_refl _) _)) ((Below.refl _ _).alloc (Nat.le_refl _) _) (by simp) (by simp; omega) ?_
               intro v1 w1 hR1 hB1 hg1 hat1
               have HR1 := Lib.hid hR1
               have HB1 := Lib.hid hB1
               clear hR1 hB1 hg1 hat1)
  go_ret
  exact ⟨_, rfl, HR1.out, HB1.out⟩
theorem c_some {w : World} {A : Option Addr} {n : Nat} {xs : List ByteArray} (h : Kd.string.C w A n xs) (h0 : 0 < n) : ∃ ad, A = some ad := by
  obtain ⟨ad, _, hA, _⟩ := Kd.C_get h ByteArray.empty 0 (by omega) (by omega)
  exact ⟨ad, hA⟩
set_option maxHeartbeats 1000000 in
theorem where_at (b : Nat) (ps : List ByteArray) (k : Bs) (w : World) (hg0 : Laid w) (ha : AtIs w b ps k) (h0 : 0 < ps.length) (h16 : ps.length ≤ 16) :
    Calls Tryd.prog 13 #[.iface 44 (.pointer (some ⟨b, 0, none⟩))] w fun e w' => ∃ v, e = .returned v ∧ Kd.string.R 9 w' w.heap.size (fun k => w.heap.size ≤ k) v ps ∧ Below w.heap.size w w' := by
  have hg := Lib.hid hg0
  have HA := Lib.hid ha
  clear hg0 ha
  go_enter Tryd.func13, Tryd.ntmps13
  go_wp2_with (first
    | (go_at_call 16
       refine (as_at_at b w.heap.size (.pointer none) (w.alloc (.cells #[.pointer none] 44)) (hg.out.alloc _) (by simp) (by simp)).mono ?_
       rintro e w1 ⟨rfl, hK, ht, hf⟩
       have hK0 : Keep (fun _ => False) w w1 := ⟨hK.os, hK.tape, hK.output, by have := hK.size; simp at this; omega, fun k hk _ => (hK.block k (by simp; omega) (by show k ≠ w.heap.size; omega)).trans (Below.heap_alloc w _ k hk)⟩
       have HB1 := Lib.hid (hK0.to_below (Nat.le_refl _) (fun _ h => h.elim))
       have HA1 := Lib.hid (HA.out.below HB1.out)
       obtain ⟨Ap, cp, hb, hC, hfine⟩ := HA1.out
       obtain ⟨ad, rfl⟩ := c_some hC h0
       have HC1 := Lib.hid hC
       have hb0 : w1.cell? ⟨b, 0, none⟩ = _ := blk_cell hb 0
       clear hK hK0 hC hb)
    | (go_at_call 20
       refine (clone_some _ ad ps.length cp ps HC1.out (by omega)).mono ?_
       rintro e w2 ⟨v, rfl, hR, hB⟩
       have HR2 := Lib.hid (Kd.R_mono (Kd.R_lower hR HB1.out.size) (ok' := fun k => w.heap.size ≤ k) (fun k hk => Nat.le_trans HB1.out.size hk))
       have HB2 := Lib.hid (HB1.out.trans (hB.mono HB1.out.size))
       clear hR hB))
  go_ret
  exact ⟨_, rfl, HR2.out, HB2.out⟩
set_option maxHeartbeats 1000000 in
theorem where_num (n : Int) (w : World) (hg0 : Laid w) : Calls Tryd.prog 13 #[.iface 27 (.int .i64 n)] w fun e w' => e = .returned (.slice none 0 0) ∧ Below w.heap.size w w' := by
  have hg := Lib.hid hg0
  clear hg0
  go_enter Tryd.func13, Tryd.ntmps13
  go_wp2_with (go_at_call 16
               refine (as_at_num n w.heap.size (.pointer none) (w.alloc (.cells #[.pointer none] 44)) (hg.out.alloc _) (by simp) (by simp)).mono ?_
               rintro e w1 ⟨rfl, hB⟩
               have HB1 := Lib.hid (((Below.refl _ _).alloc (Nat.le_refl _) (.cells #[.pointer none] 44)).trans (hB.mono (by simp)))
               clear hB)
  go_ret
  exact ⟨rfl, HB1.out⟩
set_option maxHeartbeats 1000000 in
theorem where_nil (w : World) : Calls Tryd.prog 13 #[.nilIface] w fun e w' => e = .returned (.slice none 0 0) ∧ Below w.heap.size w w' := by
  have HB := Lib.hid ((Below.refl w.heap.size w).alloc (Nat.le_refl _) (.cells #[.pointer none] 44))
  go_enter Tryd.func13, Tryd.ntmps13
  go_wp2_with (go_at_call 16
               refine (as_nil _ _).mono ?_
               rintro e w1 ⟨rfl, rfl⟩)
  go_ret
  exact ⟨rfl, HB.out⟩
set_option maxHeartbeats 1000000 in
theorem kind_nil (w : World) : Calls Tryd.prog 14 #[.nilIface] w fun e w' => e = .returned (.int .i64 0) ∧ w = w' := by
  go_enter Tryd.func14, Tryd.ntmps14
  go_wp2
  go_ret
  exact ⟨rfl, rfl⟩
set_option maxHeartbeats 1000000 in
theorem kind_num (n : Int) (w : World) (hg0 : Laid w) (hn : n ≠ 0) : Calls Tryd.prog 14 #[.iface 27 (.int .i64 n)] w fun e w' => e = .returned (.int .i64 n) ∧ Below w.heap.size w w' := by
  have hg := Lib.hid hg0
  have hn0 : (n == 0) = false := by simp [hn]
  clear hg0
  go_enter Tryd.func14, Tryd.ntmps14
  go_wp2_with (first
    | (go_at_call 16
       refine (as_no_num n w.heap.size (.int .i64 0) (w.alloc (.cells #[.int .i64 0] 27)) (hg.out.alloc _) (by simp) (by simp)).mono ?_
       rintro e w1 ⟨rfl, hK, ht, hf⟩
       have hK0 : Keep (fun _ => False) w w1 := ⟨hK.os, hK.tape, hK.output, by have := hK.size; simp at this; omega, fun k hk _ => (hK.block k (by simp; omega) (by show k ≠ w.heap.size; omega)).trans (Below.heap_alloc w _ k hk)⟩
       have HB1 := Lib.hid (hK0.to_below (Nat.le_refl _) (fun _ h => h.elim))
       clear hK hK0)
    | (go_at_call 17
       refine (is_num n 0 w1).mono ?_
       rintro e w2 ⟨rfl, rfl⟩
       rw [hn0]))
  go_ret
  exact ⟨rfl, HB1.out⟩
set_option maxHeartbeats 1000000 in
theorem kind_at_num (b : Nat) (n : Int) (w : World) (hg0 : Laid w) (hb : w.cell? ⟨b, 1, none⟩ = some (.iface 27 (.int .i64 n))) (hn : n ≠ 0) : Calls Tryd.prog 14 #[.iface 44 (.pointer (some ⟨b, 0, none⟩))] w fun e w' => e = .returned (.int .i64 n) ∧ Below w.heap.size w w' := by
  have hg := Lib.hid hg0
  have hn0 : (n == 0) = false := by simp [hn]
  clear hg0
  go_enter Tryd.func14, Tryd.ntmps14
  go_wp2_with (first
    | (go_at_call 16
       refine (as_no_at_num b n w.heap.size (.int .i64 0) (w.alloc (.cells #[.int .i64 0] 27)) (hg.out.alloc _) (by simp) (by simp) (pw_cell_below ((Below.refl _ _).alloc (Nat.le_refl _) (.cells #[.int .i64 0] 27)) hb)).mono ?_
       rintro e w1 ⟨rfl, hK, ht, hf⟩
       have hK0 : Keep (fun _ => False) w w1 := ⟨hK.os, hK.tape, hK.output, by have := hK.size; simp at this; omega, fun k hk _ => (hK.block k (by simp; omega) (by show k ≠ w.heap.size; omega)).trans (Below.heap_alloc w _ k hk)⟩
       have HB1 := Lib.hid (hK0.to_below (Nat.le_refl _) (fun _ h => h.elim))
       clear hK hK0)
    | (go_at_call 17
       refine (is_at_num b n 0 w1 (pw_cell_below HB1.out hb)).mono ?_
       rintro e w2 ⟨rfl, rfl⟩
       rw [hn0]))
  go_ret
  exact ⟨rfl, HB1.out⟩
set_option maxHeartbeats 1000000 in
theorem kind_es (a : Addr) (w : World) (hg0 : Laid w) : Calls Tryd.prog 14 #[.iface 63 (.pointer (some a))] w fun e w' => e = .returned (.int .i64 12) ∧ Below w.heap.size w w' := by
  have hg := Lib.hid hg0
  clear hg0
  go_enter Tryd.func14, Tryd.ntmps14
  go_wp2_with (go_at_call 16
               refine (as_no_es a w.heap.size (.int .i64 0) (w.alloc (.cells #[.int .i64 0] 27)) (hg.out.alloc _) (by simp) (by simp)).mono ?_
               rintro e w1 ⟨rfl, hB⟩
               have HB1 := Lib.hid (((Below.refl _ _).alloc (Nat.le_refl _) (.cells #[.int .i64 0] 27)).trans (hB.mono (by simp)))
               clear hB)
  go_ret
  exact ⟨rfl, HB1.out⟩
set_option maxHeartbeats 1000000 in
theorem kind_at_es (b : Nat) (a : Addr) (w : World) (hg0 : Laid w) (hb : w.cell? ⟨b, 1, none⟩ = some (.iface 63 (.pointer (some a)))) : Calls Tryd.prog 14 #[.iface 44 (.pointer (some ⟨b, 0, none⟩))] w fun e w' => e = .returned (.int .i64 12) ∧ Below w.heap.size w w' := by
  have hg := Lib.hid hg0
  clear hg0
  go_enter Tryd.func14, Tryd.ntmps14
  go_wp2_with (go_at_call 16
               refine (as_no_at_es b a w.heap.size (.int .i64 0) (w.alloc (.cells #[.int .i64 0] 27)) (hg.out.alloc _) (by simp) (by simp) (pw_cell_below ((Below.refl _ _).alloc (Nat.le_refl _) (.cells #[.int .i64 0] 27)) hb)).mono ?_
               rintro e w1 ⟨rfl, hB⟩
               have HB1 := Lib.hid (((Below.refl _ _).alloc (Nat.le_refl _) (.cells #[.int .i64 0] 27)).trans (hB.mono (by simp)))
               clear hB)
  go_ret
  exact ⟨rfl, HB1.out⟩
theorem kind_er (e : Er) (w : World) (hg : Laid w) (he : e.ok w) : Calls Tryd.prog 14 #[e.v] w fun r w' => r = .returned (.int .i64 e.k.kind) ∧ Below w.heap.size w w' := by
  cases e with
  | base k =>
    cases k with
    | num n => exact kind_num n w hg he
    | es a => exact kind_es a w hg
  | «at» b ps k =>
    have hb := AtIs.err he
    cases k with
    | num n =>
      obtain ⟨_, _, _, _, hf⟩ := he
      exact kind_at_num b n w hg hb hf
    | es a => exact kind_at_es b a w hg hb
set_option maxHeartbeats 1000000 in
theorem isf_er (e : Er) (m : Int) (w : World) (hg : Laid w) (he : e.ok w) : Calls Tryd.prog 18 #[e.v, .int .i64 m] w fun r w' => r = .returned (.bool (e.k.kind == m)) ∧ Below w.heap.size w w' := by
  have hk := kind_er e w hg he
  generalize e.v = v at *
  have HKC := Lib.hid hk
  clear hk he
  go_enter Tryd.func18, Tryd.ntmps18
  go_wp2_with (go_at_call 14
               refine HKC.out.mono ?_
               rintro r w1 ⟨rfl, hB⟩
               have HB := Lib.hid hB
               clear hB)
  go_ret
  exact ⟨rfl, HB.out⟩
end Go.Proofs.YtckdajpjnpgknaaDoor
