/- Rows laid into frames one behind the other, cut off anywhere: what a split tells. Plain lists. -/
import Derived.Test.YtfnnjgbldojigaaDoorPlain
set_option linter.unusedVariables false
set_option linter.unusedSimpArgs false
namespace Go.Proofs.YtfnnjgbldojigaaDoor
open Go.RowKit Go.Proofs.YtfnnjgbldojigaaDoorW.PrintWords
open Go.Proofs.Mine.Crc

noncomputable def framesOf (rs : List (List UInt8)) : List UInt8 := rs.flatMap frameOf
/-- How many bytes the first k rows take. -/
def endOf (rs : List (List UInt8)) (k : Nat) : Nat := ((rs.take k).map fun r => r.length + 8).sum
/-- How many rows stand whole in the first c bytes. -/
def wholeOf : List (List UInt8) → Nat → Nat
  | [], _ => 0
  | r :: rs, c => if r.length + 8 ≤ c then 1 + wholeOf rs (c - (r.length + 8)) else 0
theorem endOf_zero (rs : List (List UInt8)) : endOf rs 0 = 0 := rfl
theorem endOf_cons (r : List UInt8) (rs : List (List UInt8)) (k : Nat) : endOf (r :: rs) (k + 1) = (r.length + 8) + endOf rs k := by simp [endOf]
theorem endOf_all (rs : List (List UInt8)) : (framesOf rs).length = endOf rs rs.length := by
  unfold framesOf endOf
  rw [List.take_length, List.length_flatMap]
  congr 1

theorem wholeOf_le (rs : List (List UInt8)) : ∀ c, wholeOf rs c ≤ rs.length := by
  induction rs with
  | nil => intro c; simp [wholeOf]
  | cons r rs ih =>
    intro c
    unfold wholeOf
    have := ih (c - (r.length + 8))
    split <;> simp <;> omega
theorem wholeOf_end (rs : List (List UInt8)) : ∀ c, endOf rs (wholeOf rs c) ≤ c := by
  induction rs with
  | nil => intro c; simp [wholeOf, endOf]
  | cons r rs ih =>
    intro c
    unfold wholeOf
    split
    · rw [Nat.add_comm, endOf_cons]
      have := ih (c - (r.length + 8))
      omega
    · rw [endOf_zero]; omega
theorem endOf_mono (rs : List (List UInt8)) : ∀ j k, j ≤ k → endOf rs j ≤ endOf rs k := by
  induction rs with
  | nil => intro j k _; simp [endOf]
  | cons r rs ih =>
    intro j k h
    cases j with
    | zero => rw [endOf_zero]; omega
    | succ j =>
      obtain ⟨k, rfl⟩ : ∃ m, k = m + 1 := ⟨k - 1, by omega⟩
      rw [endOf_cons, endOf_cons]
      have := ih j k (by omega)
      omega
theorem wholeOf_next (rs : List (List UInt8)) : ∀ c, wholeOf rs c < rs.length → c < endOf rs (wholeOf rs c + 1) := by
  induction rs with
  | nil => intro c h; simp at h
  | cons r rs ih =>
    intro c h
    unfold wholeOf at h ⊢
    split
    · rename_i hc
      rw [if_pos hc] at h
      rw [show 1 + wholeOf rs (c - (r.length + 8)) + 1 = (wholeOf rs (c - (r.length + 8)) + 1) + 1 from by omega, endOf_cons]
      have := ih (c - (r.length + 8)) (by simp at h; omega)
      omega
    · rw [endOf_cons, endOf_zero]; omega
theorem splitOf_nil (f : Nat) : splitOf (f + 1) [] = ([], 0, 1) := splitOf_short f [] (begins_short4 (by simp))
theorem wholeOf_bytes (rs : List (List UInt8)) : ∀ c, wholeOf rs c ≤ c := by
  induction rs with
  | nil => intro c; simp [wholeOf]
  | cons r rs ih =>
    intro c
    unfold wholeOf
    have := ih (c - (r.length + 8))
    split <;> omega
theorem split_frames (rs : List (List UInt8)) : ∀ (c f : Nat), (∀ r ∈ rs, r.length ≤ 65536) → wholeOf rs c < f → splitOf f ((framesOf rs).take c) = (rs.take (wholeOf rs c), endOf rs (wholeOf rs c), 1) := by
  induction rs with
  | nil =>
    intro c f _ hf
    obtain ⟨f, rfl⟩ : ∃ m, f = m + 1 := ⟨f - 1, by omega⟩
    simp [framesOf, splitOf_nil, wholeOf, endOf]
  | cons r rs ih =>
    intro c f hr hf
    obtain ⟨f, rfl⟩ : ∃ m, f = m + 1 := ⟨f - 1, by omega⟩
    have hrl := hr r (List.mem_cons_self ..)
    have hfr : framesOf (r :: rs) = frameOf r ++ framesOf rs := by simp [framesOf]
    rw [hfr]
    unfold wholeOf at hf ⊢
    by_cases hc : r.length + 8 ≤ c
    · have ht : (frameOf r ++ framesOf rs).take c = frameOf r ++ (framesOf rs).take (c - (r.length + 8)) := by
        rw [List.take_append, List.take_of_length_le (by rw [frameOf_length]; exact hc), frameOf_length]
      rw [if_pos hc] at hf
      rw [if_pos hc, ht, split_frame r _ hrl f, ih (c - (r.length + 8)) f (fun x hx => hr x (List.mem_cons_of_mem _ hx)) (by omega)]
      rw [Nat.add_comm 1, endOf_cons, List.take_succ_cons]
    · rw [if_neg hc, splitOf_short f _ (begins_cut r (framesOf rs) hrl c (by omega)), endOf_zero]
      rfl
end Go.Proofs.YtfnnjgbldojigaaDoor
