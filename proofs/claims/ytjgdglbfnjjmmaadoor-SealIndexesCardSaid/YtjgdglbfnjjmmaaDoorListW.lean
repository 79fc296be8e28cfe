/- The walk of the laws' List. -/
import Derived.Test.YtjgdglbfnjjmmaaDoorConfW
set_option linter.unusedVariables false
set_option linter.unusedSimpArgs false
namespace Go.Proofs.YtjgdglbfnjjmmaaDoor
open Go.RowKit Go.Proofs.YtjgdglbfnjjmmaaDoorW.PrintWords Go.Proofs.Mine

def bitAt (bits : Int) (k : Nat) : Bool := Go.bits BinOp.and IntKind.i64 (bits / 2 ^ k) 1 == 1
def lst (bits : Int) : Nat → List Int
  | 0 => []
  | k + 1 => if (lst bits k).length < 7 ∧ bitAt bits k = true then lst bits k ++ [(k : Int)] else lst bits k
theorem lst_full (bits : Int) (k j : Nat) (h : 7 ≤ (lst bits k).length) : lst bits (k + j) = lst bits k := by
  induction j with
  | zero => rfl
  | succ j ih =>
    show (if (lst bits (k + j)).length < 7 ∧ _ then _ else lst bits (k + j)) = _
    rw [if_neg (by rw [ih]; omega), ih]
set_option maxHeartbeats 1000000 in
theorem list8_any (w : World) (bits : Int) :
    Calls Tryd.prog 28 #[.int .i64 bits] w fun e w' => ∃ v, e = .returned v ∧ (Kd.int .i64).R 3 w' w.heap.size (fun k => w.heap.size ≤ k) v (lst bits 9) ∧ Below w.heap.size w w' := by
  obtain ⟨L9, h9⟩ : ∃ L, L = lst bits 9 := ⟨_, rfl⟩
  rw [← h9]
  have H9 := Lib.hid h9
  clear h9
  go_enter Tryd.func28, Tryd.ntmps28
  go_wp2
  go_loopw [3, 4] (fun lv iv wr => ∃ (k : Nat) (l : List Int), k ≤ 9 ∧ iv = .int .i64 k ∧ l = lst bits k ∧ l.length ≤ 7 ∧ (Kd.int .i64).R 3 wr w.heap.size (fun k => w.heap.size ≤ k) lv l ∧ Below w.heap.size w wr) (fun _ iv _ => 9 - (intOf iv).toNat)
  case atStart => exact ⟨0, [], by omega, rfl, rfl, by simp, Kd.R_nil _ _ _ _ _, Below.refl _ _⟩
  case round =>
    obtain ⟨k, l, hk, rfl, hlk, hl7, hR, hB⟩ := hrel
    obtain ⟨A0, c0, rfl⟩ := Kd.R_slice hR
    have HR := Lib.hid hR
    have HB := Lib.hid hB
    have HL := Lib.hid hlk
    have hsz := hB.size
    clear hR hB hlk
    by_cases hlt : k < 9
    · by_cases hl : l.length < 7
      · have hs : RowKit.Hid (lst bits (k + 1) = if bitAt bits k = true then l ++ [(k : Int)] else l) := by
          show (if (lst bits k).length < 7 ∧ bitAt bits k = true then lst bits k ++ [(k : Int)] else lst bits k) = _
          rw [← HL.out]
          by_cases h : bitAt bits k = true
          · rw [if_pos ⟨hl, h⟩, if_pos h]
          · rw [if_neg (fun hh => h hh.2), if_neg h]
        cases hb : bitAt bits k
        · have hb' := hb
          unfold bitAt at hb'
          have hs2 : lst bits (k + 1) = l := by rw [hs.out, if_neg (by rw [hb]; decide)]
          have HS := Lib.hid hs2
          clear hs hs2 hb
          go_wp2
          exact ⟨⟨k + 1, l, by omega, by simp, HS.out.symm, hl7, HR.out, HB.out⟩, by simp [intOf]; omega⟩
        · have hb' := hb
          unfold bitAt at hb'
          have hs2 : lst bits (k + 1) = l ++ [(k : Int)] := by rw [hs.out, if_pos hb]
          have HS := Lib.hid hs2
          clear hs hs2 hb
          go_wp2_with (at_builtin; refine Kd.R_append (Kd.int .i64) (w0 := w) w.heap.size rfl _ _ 22 3 (.int .i64 0) 8 rfl Tryd.underlying22 Tryd.info3 rfl (by decide) (by decide) (.slice A0 l.length c0) l (k : Int) [.int .i64 (k : Int)] (fun k => w.heap.size ≤ k) (fun _ => False) rfl rfl rfl (fun _ h => h.elim) (fun j hj => Nat.le_trans hsz hj) HR.out HB.out hsz (by omega) ?_
                       intro v1 w4 hR4 hB4 hg4 hat4
                       have HR4 := Lib.hid hR4
                       have HB4 := Lib.hid hB4
                       clear hR4 hB4 hg4 hat4)
          exact ⟨⟨k + 1, _, by omega, by simp, HS.out.symm, by rw [List.length_append, List.length_singleton]; omega, HR4.out, HB4.out⟩, by simp [intOf]; omega⟩
      · have hfin : L9 = l := by
          rw [H9.out]
          have := lst_full bits k (9 - k) (by rw [← HL.out]; omega)
          rw [show k + (9 - k) = 9 from by omega] at this
          rw [this, HL.out]
        have HF := Lib.hid hfin
        clear hfin
        go_wp2
        go_ret
        rw [HF.out]
        exact ⟨_, rfl, HR.out, HB.out⟩
    · obtain rfl : k = 9 := by omega
      go_wp2
      go_ret
      rw [H9.out, ← HL.out]
      exact ⟨_, rfl, HR.out, HB.out⟩
end Go.Proofs.YtjgdglbfnjjmmaaDoor
