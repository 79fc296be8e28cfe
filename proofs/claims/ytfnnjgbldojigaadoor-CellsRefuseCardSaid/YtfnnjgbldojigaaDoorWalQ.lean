/- What tapes and logs come to, plainly: calm calls, openings, crashes. -/
import Derived.Test.YtfnnjgbldojigaaDoorHdP
set_option linter.unusedVariables false
set_option linter.unusedSimpArgs false
namespace Go.Proofs.YtfnnjgbldojigaaDoor
open Go.RowKit Go.Proofs.YtfnnjgbldojigaaDoorW.PrintWords Go.Proofs.Mine Go.Proofs.Mine.Crc

theorem mayE_ok {s : TS} {n : Int} (h : s.dead = false) (hr : n ≤ s.room) : mayE s n = 0 := by
  unfold mayE; rw [if_neg (by simp [h]), if_neg (by omega)]
theorem append_calm {s : TS} {x : List Int} (h : s.dead = false) (h0 : s.left = 0) (hr : (s.l.length : Int) + (x.length : Int) ≤ s.room) : appendE s x = 0 ∧ appendS s x = { s with l := s.l ++ x, ops := s.ops + 1 } := by
  have hm := mayE_ok h hr
  have e1 : spendE s = 0 := by unfold spendE; rw [if_neg (by omega), if_neg (by simp [h])]
  have e2 : spendS s = { s with ops := s.ops + 1 } := by unfold spendS; rw [if_neg (by omega), if_neg (by simp [h])]
  refine ⟨by unfold appendE; rw [if_pos hm, e1], ?_⟩
  unfold appendS; rw [if_pos hm, e2]
theorem sync_calm {s : TS} (h : s.dead = false) (h0 : s.left = 0) (hr : 0 ≤ s.room) : syncE s = 0 ∧ syncS s = { s with synced := s.l.length, ops := s.ops + 1 } := by
  have hm := mayE_ok (n := 0) h hr
  have e1 : spendE s = 0 := by unfold spendE; rw [if_neg (by omega), if_neg (by simp [h])]
  have e2 : spendS s = { s with ops := s.ops + 1 } := by unfold spendS; rw [if_neg (by omega), if_neg (by simp [h])]
  refine ⟨by unfold syncE; rw [if_pos hm, e1], ?_⟩
  unfold syncS; rw [if_pos hm, if_pos e1, e2]
theorem replace_calm {s : TS} {x : List Int} (h : s.dead = false) (h0 : s.left = 0) (hr : (x.length : Int) ≤ s.room) : replaceE s x = 0 ∧ replaceS s x = { s with l := x, synced := x.length, ops := s.ops + 1 } := by
  have hm := mayE_ok h hr
  have e1 : spendE s = 0 := by unfold spendE; rw [if_neg (by omega), if_neg (by simp [h])]
  have e2 : spendS s = { s with ops := s.ops + 1 } := by unfold spendS; rw [if_neg (by omega), if_neg (by simp [h])]
  refine ⟨by unfold replaceE; rw [if_pos hm, e1], ?_⟩
  unfold replaceS; rw [if_pos hm, if_pos e1, e2]
/-- What opening does to a tape of whose bytes b the first n are whole frames. -/
def openE (s : TS) (b : List UInt8) (n : Nat) : Int := if n < b.length then replaceE s (n8 (b.take n)) else 0
def openS (s : TS) (b : List UInt8) (n : Nat) : TS := if n < b.length then replaceS s (n8 (b.take n)) else s
theorem framesOf_len_all (rs : List (List UInt8)) : (framesOf rs).length = endOf rs rs.length := endOf_all rs
theorem endOf_wholes (rs : List (List UInt8)) (k : Nat) : framesOf (rs.take k) = (framesOf rs).take (endOf rs k) := by
  induction rs generalizing k with
  | nil => simp [framesOf]
  | cons r rs ih =>
    cases k with
    | zero => simp [endOf_zero, framesOf]
    | succ k =>
      rw [endOf_cons, List.take_succ_cons]
      have e : ∀ l, framesOf (r :: l) = frameOf r ++ framesOf l := fun l => by simp [framesOf]
      have e2 : (frameOf r ++ framesOf rs).take (r.length + 8 + endOf rs k) = frameOf r ++ (framesOf rs).take (endOf rs k) := by rw [← frameOf_length r, List.take_length_add_append]
      rw [e, e, ih k, e2]
/-- A front of frames: what is whole in it. -/
theorem split_front_of (rs : List (List UInt8)) (c : Nat) (h : ∀ r ∈ rs, r.length ≤ 65536) (hc : c ≤ (framesOf rs).length) (f : Nat) (hf : c < f) :
    splitOf f ((framesOf rs).take c) = (rs.take (wholeOf rs c), endOf rs (wholeOf rs c), 1) := split_frames rs c f h (Nat.lt_of_le_of_lt (wholeOf_bytes rs c) hf)
end Go.Proofs.YtfnnjgbldojigaaDoor
