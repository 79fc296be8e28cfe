/- The walk of the laws' Plain; what its lists are. -/
import Derived.Test.YtjgdglbfnjjmmaaDoorListW
set_option linter.unusedVariables false
set_option linter.unusedSimpArgs false
namespace Go.Proofs.YtjgdglbfnjjmmaaDoor
open Go.RowKit Go.Proofs.YtjgdglbfnjjmmaaDoorW.PrintWords Go.Proofs.Mine

theorem asc_snoc (l : List Int) (last x : Int) (h : asc last l = true) (hl : ∀ y ∈ l, y < x) (h0 : last < x) (hx : x < 9) : asc last (l ++ [x]) = true := by
  induction l generalizing last with
  | nil => simp [asc, h0, hx]
  | cons a l ih =>
    simp only [asc, Bool.and_eq_true, decide_eq_true_eq] at h
    show asc last (a :: (l ++ [x])) = true
    simp only [asc, Bool.and_eq_true, decide_eq_true_eq]
    exact ⟨h.1, ih a h.2 (fun y hy => hl y (List.mem_cons_of_mem _ hy)) (hl a List.mem_cons_self)⟩
theorem lst_asc (bits : Int) (k : Nat) (hk : k ≤ 9) : asc (-1) (lst bits k) = true ∧ (∀ y ∈ lst bits k, y < (k : Int)) ∧ (lst bits k).length ≤ 7 := by
  induction k with
  | zero => exact ⟨rfl, by simp [lst], by simp [lst]⟩
  | succ k ih =>
    obtain ⟨h1, h2, h3⟩ := ih (by omega)
    have e : lst bits (k + 1) = if (lst bits k).length < 7 ∧ bitAt bits k = true then lst bits k ++ [(k : Int)] else lst bits k := rfl
    rw [e]
    split
    · rename_i h
      refine ⟨asc_snoc _ _ _ h1 h2 (by omega) (by omega), fun y hy => ?_, by rw [List.length_append, List.length_singleton]; omega⟩
      rcases List.mem_append.1 hy with hy | hy
      · have := h2 y hy; omega
      · rw [List.mem_singleton.1 hy]; omega
    · exact ⟨h1, fun y hy => by have := h2 y hy; omega, h3⟩
def plainL (bits : Int) : List Int := if (lst bits 9).length = 0 then [0] else lst bits 9
theorem plainL_fine (bits : Int) : listE (plainL bits) = 0 ∧ 0 < (plainL bits).length ∧ (plainL bits).length ≤ 7 := by
  obtain ⟨h1, _, h3⟩ := lst_asc bits 9 (by omega)
  unfold plainL
  split
  · exact ⟨by decide, by simp, by simp⟩
  · rename_i h
    refine ⟨?_, by omega, h3⟩
    unfold listE
    rw [if_neg (by omega), if_pos h1, if_neg h]
set_option maxHeartbeats 1000000 in
theorem plain_any (w : World) (bits : Int) :
    Calls Tryd.prog 8 #[.int .i64 bits] w fun e w' => ∃ v, e = .returned (.agg #[.slice none 0 0, v]) ∧ (Kd.int .i64).R 3 w' w.heap.size (fun k => w.heap.size ≤ k) v (plainL bits) ∧ Below w.heap.size w w' := by
  obtain ⟨L9, h9⟩ : ∃ L, L = lst bits 9 := ⟨_, rfl⟩
  have hp : plainL bits = if L9.length = 0 then [0] else L9 := by rw [h9]; rfl
  obtain ⟨PL, hPL⟩ : ∃ L, L = plainL bits := ⟨_, rfl⟩
  rw [← hPL]
  rw [← hPL] at hp
  have hl := Lib.hid (fun W => list8_any W bits)
  have HP := Lib.hid hp
  rw [← h9] at hl
  have hlen : L9.length = 0 ∨ 0 < L9.length := by omega
  clear h9 hp hPL
  go_enter Tryd.func8, Tryd.ntmps8
  go_wp2_with (go_at_call 28; refine (hl.out _).mono ?_; rintro e w1 ⟨v, rfl, hR, hB⟩
               have HB1 := Lib.hid (((Below.refl w.heap.size w).alloc (Nat.le_refl _) _).trans (hB.mono (by simp)))
               obtain ⟨A0, c0, rfl⟩ := Kd.R_slice hR
               have HR1 := Lib.hid (Kd.R_mono (Kd.R_lower hR (base' := w.heap.size) (by simp)) (ok' := fun k => w.heap.size ≤ k) (fun k hk => by simp at hk; omega))
               have hb1 : w1.heap[w.heap.size]? = some (.cells #[.slice none 0 0, .slice none 0 0] 29 (0, 0)) := blk_below (heap_alloc_new w _) hB
               have c0' := blk_cell hb1 0
               have c1' := blk_cell hb1 1
               have f0' := blk_frozen hb1
               have c0a : ∀ o, (w1.alloc o).cell? ⟨w.heap.size, 0, none⟩ = some (.slice none 0 0) := fun o => blk_cell (blk_alloc hb1 o) 0
               have c1a : ∀ o, (w1.alloc o).cell? ⟨w.heap.size, 1, none⟩ = some (.slice none 0 0) := fun o => blk_cell (blk_alloc hb1 o) 1
               have f0a : ∀ o j, (w1.alloc o).frozen? ⟨w.heap.size, j, none⟩ = false := fun o j => blk_frozen (blk_alloc hb1 o) j
               have HBK := Lib.hid hb1
               clear hR hB hb1)
  · have hz : L9.length = 0 := by
      have h := ‹((L9.length : Int) == 0) = true›
      simpa using h
    have hpl : PL = [0] := by rw [HP.out, if_pos hz]
    rw [hpl]
    refine bodyPost_ret (v := .agg #[.slice none 0 0, .slice (some ⟨w1.heap.size, 0, none⟩) 1 1]) (by simp [results, Tryd.results8, go_sem, c0a, c1a]) rfl ⟨_, rfl, ?_, ?_⟩
    · have hsz := HB1.out.size
      have hR0 : (Kd.int .i64).R 3 (w1.alloc (.cells #[.int .i64 0] 3)) w.heap.size (fun k => w.heap.size ≤ k) (.slice (some ⟨w1.heap.size, 0, none⟩) 1 1) [0] :=
        Kd.R_of_own ⟨rfl, .inr ⟨w1.heap.size, 1, #[.int .i64 0], rfl, hsz, heap_alloc_new w1 _, Nat.le_refl _, by decide, rfl, rfl⟩⟩ (fun k hk => by
          have : w1.heap.size = k := by simpa [Value.ownBlock] using hk
          show w.heap.size ≤ k
          omega)
      have hba := blk_alloc HBK.out (.cells #[.int .i64 0] 3)
      exact Kd.R_set (Kd.R_set hR0 hba (by simp [Kd.int, Kd.scalar]) 0 _) (blk_set hba 0 _) (by simp [Kd.int, Kd.scalar]) 1 _
    · exact ((HB1.out.alloc HB1.out.size _).setCell (Nat.le_refl _) _).setCell (Nat.le_refl _) _
  · have hne : ¬ L9.length = 0 := by
      have h := ‹((L9.length : Int) == 0) = false›
      simp at h
      simpa using h
    have hpl : PL = L9 := by rw [HP.out, if_neg hne]
    rw [hpl]
    refine bodyPost_ret (v := .agg #[.slice none 0 0, .slice A0 L9.length c0]) (by simp [results, Tryd.results8, go_sem, c0', c1']) rfl ⟨_, rfl, ?_, ?_⟩
    · exact Kd.R_set (Kd.R_set HR1.out HBK.out (by simp [Kd.int, Kd.scalar]) 0 _) (blk_set HBK.out 0 _) (by simp [Kd.int, Kd.scalar]) 1 _
    · exact (HB1.out.setCell (Nat.le_refl _) _).setCell (Nat.le_refl _) _
end Go.Proofs.YtjgdglbfnjjmmaaDoor
