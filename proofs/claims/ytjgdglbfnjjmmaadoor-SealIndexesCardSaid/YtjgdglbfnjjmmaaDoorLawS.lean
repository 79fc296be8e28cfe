/- What the laws of seals share: within, known. -/
import Derived.Test.YtjgdglbfnjjmmaaDoorAllW
set_option linter.unusedVariables false
set_option linter.unusedSimpArgs false
namespace Go.Proofs.YtjgdglbfnjjmmaaDoor
open Go.RowKit Go.Proofs.YtjgdglbfnjjmmaaDoorW.PrintWords Go.Proofs.Mine

theorem tmod_fix (a n : Int) (hn : 0 < n) : (if a.tmod n < 0 then a.tmod n + n else a.tmod n) = a % n := by
  have h1 := Int.tmod_add_mul_tdiv a n
  have h2 := Int.emod_add_mul_ediv a n
  rw [Int.tmod_eq_emod]
  have h3 := Int.emod_nonneg a (show n ≠ 0 by omega)
  have h4 := Int.emod_lt_of_pos a hn
  split <;> split <;> omega
set_option maxRecDepth 100000 in
set_option maxHeartbeats 400000 in
theorem within_any (a n : Int) (w : World) (hn : 0 < n) (hn2 : n ≤ 4611686018427387904) :
    Calls Tryd.prog 11 #[.int .i64 a, .int .i64 n] w fun e w' => e = .returned (.int .i64 (a % n)) ∧ w = w' := by
  have H := Lib.hid (tmod_fix a n hn)
  have h1 : -n < a.tmod n := by
    have := Int.tmod_eq_emod (a := a) (b := n)
    have h3 := Int.emod_nonneg a (show n ≠ 0 by omega)
    have h4 := Int.emod_lt_of_pos a hn
    split at this <;> omega
  have h0 : (n == 0) = false := by simp; omega
  by_cases hs : a.tmod n < 0
  · have hf : a.tmod n + n = a % n := by have := H.out; rwa [if_pos hs] at this
    have HF := Lib.hid hf
    clear hf H
    go_enter Tryd.func11, Tryd.ntmps11
    go_wp2
    go_ret
    exact ⟨by rw [HF.out]; rfl, rfl⟩
  · have hf : a.tmod n = a % n := by have := H.out; rwa [if_neg hs] at this
    have HF := Lib.hid hf
    clear hf H
    go_enter Tryd.func11, Tryd.ntmps11
    go_wp2
    go_ret
    exact ⟨by rw [HF.out]; rfl, rfl⟩

theorem lit_one (W : World) (x : Int) : (Kd.int .i64).C (W.alloc (.cells #[.int .i64 x] 3)) (some ⟨W.heap.size, 0, none⟩) 1 [x] :=
  C_of_ri ⟨rfl, by decide, fun _ => ⟨_, rfl, fun j hj => by
    obtain rfl : j = 0 := by omega
    rw [add_at]
    exact blk_cell (heap_alloc_new W (.cells #[.int .i64 x] 3)) 0⟩⟩
theorem Tryd.field33_0 (x0 x1 x2 x3 x4 : Value) (w : World) : (Instr.field 32 (.agg #[x0, x1, x2, x3, x4]) 0).run Tryd.prog w = .ok x0 w := by kernel_rfl
theorem Tryd.field33_3 (x0 x1 x2 x3 x4 : Value) (w : World) : (Instr.field 32 (.agg #[x0, x1, x2, x3, x4]) 3).run Tryd.prog w = .ok (.agg #[x3, x4]) w := by kernel_rfl
set_option maxRecDepth 100000 in
set_option maxHeartbeats 1000000 in
theorem known_any (w : World) : Calls Tryd.prog 6 #[] w fun e w' => e = .returned (.bool true) ∧ Below w.heap.size w w' := by
  have HB0 := Lib.hid (((Below.refl w.heap.size w).alloc (Nat.le_refl _) (.cells #[.int .i64 0] 3)).alloc (by simp) (.cells #[.slice none 0 0, .slice (some ⟨w.heap.size, 0, none⟩) 1 1] 29))
  have HC0 := Lib.hid (Kd.C_below (lit_one w 0) ((Below.refl _ _).alloc (Nat.le_refl _) (.cells #[.slice none 0 0, .slice (some ⟨w.heap.size, 0, none⟩) 1 1] 29)))
  have HCB := Lib.hid (heap_alloc_new (w.alloc (.cells #[.int .i64 0] 3)) (.cells #[.slice none 0 0, .slice (some ⟨w.heap.size, 0, none⟩) 1 1] 29))
  have hsz : (w.alloc (.cells #[.int .i64 0] 3)).heap.size = w.heap.size + 1 := by simp
  rw [hsz] at HCB
  clear hsz
  have hf0 := Tryd.field33_0
  go_enter Tryd.func6, Tryd.ntmps6
  go_wp2_with (go_at_call 7
               refine (new_any _ 1 1 0 [0] ⟨w.heap.size, 0, none⟩ 1 (by decide) rfl (by decide) (by decide) HC0.out (by decide) (by decide)).mono ?_
               rintro e w1 ⟨bk, A1, c1, rfl, hG, hB⟩
               have HG1 := Lib.hid hG
               have HB1 := Lib.hid hB
               have cc0 : w1.cell? ⟨w.heap.size + 1, 0, none⟩ = _ := blk_cell (blk_below HCB.out HB1.out) 0
               have cc1 : w1.cell? ⟨w.heap.size + 1, 1, none⟩ = _ := blk_cell (blk_below HCB.out HB1.out) 1
               clear hG hB)
  go_wp2_with (go_at_call 9
               refine (seal_ok w1 _ _ bk _ ⟨⟨1, 1, 0, [0]⟩, A1, c1⟩ HG1.out rfl 5 2 ⟨w.heap.size, 0, none⟩ [0] 1 (Kd.C_below HC0.out HB1.out) (show ¬ (5 : Int) ≤ 0 by decide) rfl (by decide) (show 1 < 60 by decide) (show (0 : Int) ≤ 1 by decide) (show (1 : Int) < 1000000 by decide) (by decide) (by decide)).mono ?_
               rintro e w2 ⟨rfl, F2, A2, c2, hG, hF, hK⟩
               have HG2 := Lib.hid hG
               have HK2 := Lib.hid hK
               clear hG hF hK)
  go_wp2_with (first
    | (go_at_call 13
       have h3 := HB3.out
       refine (at_any w3 _ _ bk _ 6 ⟨⟨2, 2, 5, [0]⟩, A2, c2⟩ HG3.out (show 0 < 2 by decide) (show 2 ≤ 60 by decide) rfl).mono ?_
       rintro e w4 ⟨A4, c4, rfl, hR, hB⟩
       have HB4 := Lib.hid hB
       clear hR hB h3)
    | (go_at_call 13
       refine (at_any w2 _ _ bk _ 5 ⟨⟨1, 1, 0, [0]⟩, A1, c1⟩ HG2.out (show 0 < 2 by decide) (show 2 ≤ 60 by decide) rfl).mono ?_
       rintro e w3 ⟨A3, c3, rfl, hR, hB⟩
       have HG3 := Lib.hid (HG2.out.below hB)
       have HB3 := Lib.hid hB
       clear hR hB))
  have hK := Lib.hid ((Keep.of_below HB1.out (fun _ => False)).trans HK2.out (fun k hk => .inr hk.1))
  have hK4 := ((hK.out.trans (Keep.of_below HB3.out (fun _ => False)) (fun _ h => h.elim)).trans (Keep.of_below HB4.out (fun _ => False)) (fun _ h => h.elim)).to_below (B := w.heap.size) HB0.out.size (fun _ h => h.elim)
  have hFin := Lib.hid (HB0.out.trans hK4)
  clear hK hK4
  go_ret
  exact ⟨rfl, hFin.out⟩
end Go.Proofs.YtjgdglbfnjjmmaaDoor
