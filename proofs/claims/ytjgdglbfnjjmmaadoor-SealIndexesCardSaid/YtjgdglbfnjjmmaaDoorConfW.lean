/- The walks of conf.list, Joint, kind. -/
import Derived.Test.YtjgdglbfnjjmmaaDoorBase
set_option linter.unusedVariables false
set_option linter.unusedSimpArgs false
namespace Go.Proofs.YtjgdglbfnjjmmaaDoor
open Go.RowKit Go.Proofs.YtjgdglbfnjjmmaaDoorW.PrintWords Go.Proofs.Mine

/-- Numbers from above one on, below nine, each above the one before. -/
def asc : Int → List Int → Bool
  | _, [] => true
  | last, x :: r => decide (last < x) && decide (x < 9) && asc x r
def listE (l : List Int) : Int := if 7 < l.length then 1 else if asc (-1) l = true then (if l.length = 0 then 3 else 0) else 2
set_option maxHeartbeats 400000 in
theorem list_any (w : World) (A : Option Addr) (cap : Nat) (l : List Int) (hr : ReadsInt w .i64 A l.length l) :
    Calls Tryd.prog 62 #[.slice A l.length cap] w fun e w' => e = .returned (.int .i64 (listE l)) ∧ w = w' := by
  have HR := Lib.hid hr
  have hmx := hr.2.1
  clear hr
  by_cases hlong : 7 < l.length
  · have he : listE l = 1 := by unfold listE; rw [if_pos hlong]
    rw [he]
    go_enter Tryd.func62, Tryd.ntmps62
    go_wp2
    go_ret
    exact ⟨rfl, rfl⟩
  · have hE := Lib.hid (show listE l = if asc (-1) l = true then (if l.length = 0 then 3 else 0) else 2 from by unfold listE; rw [if_neg hlong])
    go_enter Tryd.func62, Tryd.ntmps62
    go_wp2
    go_loopw [3, 11] (fun lv iv wr => ∃ (k : Nat) (last : Int), k ≤ l.length ∧ iv = .int .i64 k ∧ lv = .int .i64 last ∧ asc (-1) l = asc last (l.drop k) ∧ wr = w) (fun _ iv _ => l.length - (intOf iv).toNat)
    case atStart => exact ⟨0, -1, by omega, rfl, rfl, rfl, rfl⟩
    case round =>
      obtain ⟨k, last, hk, rfl, rfl, hasc, rfl⟩ := hrel
      by_cases hlt : k < l.length
      · obtain ⟨ad, rfl, hcell⟩ := HR.out.at_ k (by omega) (by omega)
        rw [Int.toNat_natCast] at hcell
        have hx : rd l k = l[k] := by simp [rd, hlt]
        have hd : l.drop k = rd l k :: l.drop (k + 1) := by rw [List.drop_eq_getElem_cons hlt, hx]
        generalize rd l k = x at *
        rw [hd] at hasc
        have hasc2 : asc (-1) l = (decide (last < x) && decide (x < 9) && asc x (l.drop (k + 1))) := hasc
        have HA := Lib.hid hasc2
        clear hx hd hasc hasc2
        by_cases h1 : last < x
        · by_cases h2 : x < 9
          · go_wp2
            refine ⟨⟨k + 1, x, by omega, by simp, rfl, ?_, trivial⟩, by simp [intOf]; omega⟩
            rw [HA.out]; simp [h1, h2]
          · have hf := Lib.hid (show asc (-1) l = false from by rw [HA.out, decide_eq_false h2]; simp)
            go_wp2
            go_ret
            refine ⟨?_, rfl⟩
            rw [hE.out, hf.out]; rfl
        · have hf := Lib.hid (show asc (-1) l = false from by rw [HA.out, decide_eq_false h1]; simp)
          go_wp2
          go_ret
          refine ⟨?_, rfl⟩
          rw [hE.out, hf.out]; rfl
      · obtain rfl : k = l.length := by omega
        rw [List.drop_length] at hasc
        have ha : asc (-1) l = true := hasc
        have HA := Lib.hid ha
        clear hasc ha
        by_cases h0 : l.length = 0
        all_goals
          have hb : (l.length == 0) = decide (l.length = 0) := rfl
          go_wp2
          go_ret
          refine ⟨?_, rfl⟩
          rw [hE.out, HA.out]; simp [h0]
set_option maxHeartbeats 400000 in
theorem joint_any (w : World) (A B : Option Addr) (n c m d : Nat) :
    Calls Tryd.prog 48 #[.agg #[.slice A n c, .slice B m d]] w fun e w' => e = .returned (.bool (decide (0 < n))) ∧ Below w.heap.size w w' := by
  have HB := Lib.hid ((Below.refl w.heap.size w).alloc (Nat.le_refl _) (.cells #[.slice A n c, .slice B m d] 29))
  by_cases h : 0 < n
  all_goals
    go_enter Tryd.func48, Tryd.ntmps48
    go_wp2
    go_ret
    exact ⟨by simp [h], HB.out⟩
def kindB (n : Int) : Bool := n == 1 || n == 2
set_option maxHeartbeats 400000 in
theorem kind_any (w : World) (n : Int) : Calls Tryd.prog 25 #[.int .i64 n] w fun e w' => e = .returned (.bool (kindB n)) ∧ w = w' := by
  have hk := Lib.hid (show kindB n = (n == 1 || n == 2) from rfl)
  by_cases h1 : n = 1
  · subst h1
    go_enter Tryd.func25, Tryd.ntmps25
    go_wp2
    go_ret
    exact ⟨rfl, rfl⟩
  · by_cases h2 : n = 2
    · subst h2
      go_enter Tryd.func25, Tryd.ntmps25
      go_wp2
      go_ret
      exact ⟨rfl, rfl⟩
    · have e1 : (n == 1) = false := by simp [h1]
      have e2 : (n == 2) = false := by simp [h2]
      go_enter Tryd.func25, Tryd.ntmps25
      go_wp2
      go_ret
      exact ⟨by rw [hk.out, e1, e2]; rfl, rfl⟩
end Go.Proofs.YtjgdglbfnjjmmaaDoor
