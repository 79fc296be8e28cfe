/- What frames come to when they are split: plain lists, no program. -/
import Derived.Test.YtfnnjgbldojigaaDoorSplitW
set_option linter.unusedVariables false
set_option linter.unusedSimpArgs false
namespace Go.Proofs.YtfnnjgbldojigaaDoor
open Go.RowKit Go.Proofs.YtfnnjgbldojigaaDoorW.PrintWords
open Go.Proofs.Mine.Crc

theorem fourOf_length (n : Nat) : (fourOf n).length = 4 := rfl
theorem frameOf_length (l : List UInt8) : (frameOf l).length = l.length + 8 := by simp [frameOf, fourOf_length]; omega
theorem word_four (n : Nat) (r : List UInt8) (hn : n < 4294967296) : wordOf (fourOf n ++ r) = n := by
  rw [wordOf_eq]
  simp only [fourOf, List.cons_append, List.nil_append, List.getD_cons_zero, List.getD_cons_succ, UInt8.toNat_ofNat']
  omega
/-- The bytes begin with the length and the sum s of a row of n bytes. -/
theorem begins_front (n s : Nat) (r : List UInt8) (hn : n ≤ 65536) (hs : s < 4294967296) (hr : n ≤ r.length) :
    beginsK (fourOf n ++ fourOf s ++ r) = if (crc (r.take n)).toNat = s then 0 else 3 := by
  have h1 : wordOf (fourOf n ++ fourOf s ++ r) = n := by rw [List.append_assoc]; exact word_four n _ (by omega)
  have h2 : wordOf ((fourOf n ++ fourOf s ++ r).drop 4) = s := by
    rw [List.append_assoc, List.drop_left' (fourOf_length n)]; exact word_four s _ hs
  have h3 : ((fourOf n ++ fourOf s ++ r).take (8 + n)).drop 8 = r.take n := by
    rw [show 8 + n = (fourOf n ++ fourOf s).length + n from by simp [fourOf_length], List.take_length_add_append, List.drop_left' (by simp [fourOf_length])]
  unfold beginsK
  rw [h1, h2, h3]
  rw [if_neg (by simp only [List.length_append, fourOf_length]; omega), if_neg (by omega), if_neg (by simp only [List.length_append, fourOf_length]; omega)]
theorem split_front (n s f : Nat) (r : List UInt8) (hn : n ≤ 65536) (hs : s < 4294967296) (hr : n ≤ r.length) :
    splitOf (f + 1) (fourOf n ++ fourOf s ++ r) = if (crc (r.take n)).toNat = s then (r.take n :: (splitOf f (r.drop n)).1, 8 + n + (splitOf f (r.drop n)).2.1, (splitOf f (r.drop n)).2.2) else ([], 0, 3) := by
  have h1 : wordOf (fourOf n ++ fourOf s ++ r) = n := by rw [List.append_assoc]; exact word_four n _ (by omega)
  have h3 : ((fourOf n ++ fourOf s ++ r).take (8 + n)).drop 8 = r.take n := by
    rw [show 8 + n = (fourOf n ++ fourOf s).length + n from by simp [fourOf_length], List.take_length_add_append, List.drop_left' (by simp [fourOf_length])]
  have h4 : (fourOf n ++ fourOf s ++ r).drop (8 + n) = r.drop n := by
    rw [show 8 + n = (fourOf n ++ fourOf s).length + n from by simp [fourOf_length], List.drop_length_add_append]
  rw [splitOf, begins_front n s r hn hs hr]
  by_cases he : (crc (r.take n)).toNat = s
  · rw [if_pos he, if_pos rfl, if_pos he, h1, h3, h4]
  · rw [if_neg he, if_neg (by decide), if_neg he]
theorem splitOf_short (f : Nat) (l : List UInt8) (h : beginsK l = 1) : splitOf (f + 1) l = ([], 0, 1) := by
  rw [splitOf, h]; rfl
theorem begins_short4 {l : List UInt8} (h : l.length < 4) : beginsK l = 1 := by unfold beginsK; rw [if_pos h]
/-- A front of a frame that is not whole. -/
theorem begins_cut (l r : List UInt8) (hl : l.length ≤ 65536) (c : Nat) (hc : c < l.length + 8) : beginsK ((frameOf l ++ r).take c) = 1 := by
  by_cases h4 : c < 4
  · exact begins_short4 (by rw [List.length_take]; omega)
  · have hw : wordOf ((frameOf l ++ r).take c) = l.length := by
      have : (frameOf l ++ r).take c = fourOf l.length ++ (fourOf (crc l).toNat ++ l ++ r).take (c - 4) := by
        rw [frameOf, List.append_assoc, List.append_assoc, List.take_append, List.take_of_length_le (by rw [fourOf_length]; omega), fourOf_length, List.append_assoc]
      rw [this]; exact word_four _ _ (by omega)
    have hlen : ((frameOf l ++ r).take c).length = c := by rw [List.length_take, List.length_append, frameOf_length]; omega
    unfold beginsK
    rw [hw, hlen, if_neg (by omega), if_neg (by omega), if_pos (by omega)]
/-- A row that stands whole at the beginning. -/
theorem split_frame (l r : List UInt8) (hl : l.length ≤ 65536) (f : Nat) : splitOf (f + 1) (frameOf l ++ r) = (l :: (splitOf f r).1, l.length + 8 + (splitOf f r).2.1, (splitOf f r).2.2) := by
  have h := split_front l.length (crc l).toNat f (l ++ r) hl (crc l).isLt (by simp)
  rw [List.take_left, List.drop_left, if_pos rfl] at h
  rw [show frameOf l ++ r = fourOf l.length ++ fourOf (crc l).toNat ++ (l ++ r) from by simp [frameOf], h]
  simp [Nat.add_comm, Nat.add_left_comm]
/-- A frame of which one byte of what it holds was turned. -/
theorem split_turned (l : List UInt8) (hl : l.length ≤ 65536) (j : Nat) (hj : j < l.length) (x : UInt8) (hx : x ≠ l.getD j 0) (f : Nat) :
    splitOf (f + 1) ((frameOf l).set (8 + j) x) = ([], 0, 3) := by
  have hs : (frameOf l).set (8 + j) x = fourOf l.length ++ fourOf (crc l).toNat ++ l.set j x := by
    have h8 : (fourOf l.length ++ fourOf (crc l).toNat).length = 8 := rfl
    rw [frameOf, List.set_append, h8, if_neg (by omega), show 8 + j - 8 = j from by omega]
  rw [hs, split_front l.length (crc l).toNat f (l.set j x) hl (crc l).isLt (by simp), if_neg]
  rw [List.take_of_length_le (by simp)]
  intro he
  have hne : crc (l.set j x) = crc l := BitVec.eq_of_toNat_eq he
  have h1 : l.set j x = l.take j ++ x :: l.drop (j + 1) := List.set_eq_take_append_cons_drop ▸ by rw [if_pos hj]
  have h2 : l = l.take j ++ l.getD j 0 :: l.drop (j + 1) := by
    have : l.getD j 0 = l[j] := by simp [List.getD_eq_getElem?_getD, hj]
    rw [this, ← List.drop_eq_getElem_cons hj, List.take_append_drop]
  refine crc_turned (l.take j) (l.drop (j + 1)) x (l.getD j 0) hx ?_
  rw [← h2, ← h1]
  exact hne
end Go.Proofs.YtfnnjgbldojigaaDoor
