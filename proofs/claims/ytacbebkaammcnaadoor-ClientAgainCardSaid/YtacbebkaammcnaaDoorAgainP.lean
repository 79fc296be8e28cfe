/- What ClientAgain reckons, in plain Lean. -/
import Derived.Test.YtacbebkaammcnaaDoorSameW
import Derived.Test.YtacbebkaammcnaaDoorAsksL
set_option linter.unusedVariables false
set_option linter.unusedSimpArgs false
namespace Go.Proofs.YtacbebkaammcnaaDoor
open Go.RowKit Go.Proofs.YtacbebkaammcnaaDoorW.PrintWords Go.Proofs.Mine

theorem okPut_no (s : TSt) (x : Ent) : okPut s x = false ↔ ((x.kd == 1 || x.kd == 2 || x.kd == 3) && decide (1 ≤ x.c) && decide (1 ≤ x.q)) = false ∨ x.q ≤ grN s x.c := by
  unfold okPut
  cases ((x.kd == 1 || x.kd == 2 || x.kd == 3) && decide (1 ≤ x.c) && decide (1 ≤ x.q)) <;> simp
theorem grN_rise (s : TSt) (y : Ent) (c : Int) : grN s c ≤ grN (putS s y) c := by
  unfold putS
  cases hok : okPut s y
  · simp
  · obtain ⟨_, _, _, hg⟩ := okPut_true hok
    simp only [if_true]
    rw [grN_put]
    split
    · rename_i e; subst e; omega
    · omega
/-- What does not go in, never goes in. -/
theorem okPut_stays {s : TSt} {x : Ent} (y : Ent) (h : okPut s x = false) : okPut (putS s y) x = false := by
  rw [okPut_no] at h ⊢
  rcases h with h | h
  · exact .inl h
  · exact .inr (Int.le_trans h (grN_rise s y x.c))
/-- What has gone in, does not go in again. -/
theorem okPut_self (s : TSt) (x : Ent) : okPut (putS s x) x = false := by
  cases hok : okPut s x
  · exact okPut_stays x hok
  · rw [okPut_no]
    right
    unfold putS
    rw [hok]
    simp only [if_true]
    rw [grN_put, if_pos rfl]
    exact Int.le_refl _
theorem putS_no {s : TSt} {x : Ent} (h : okPut s x = false) : putS s x = s ∧ putN s x = 0 := by
  unfold putS putN
  rw [h]
  exact ⟨rfl, rfl⟩
/-- A table that the first k entries of a list went through. -/
structure Again (l : List Ent) (s : TSt) (k : Nat) : Prop where
  no : ∀ i x, i < k → l[i]? = some x → okPut s x = false
  mem : ∀ x ∈ s.l, x.mem.length ≤ 1000000
  few : s.l.length ≤ k
theorem again0 (l : List Ent) : Again l tab0 0 := ⟨fun i x h => absurd h (Nat.not_lt_zero i), (fun _ h => nomatch h), Nat.le_refl 0⟩
theorem Again.put {l : List Ent} {s : TSt} {k : Nat} {x : Ent} (h : Again l s k) (hx : l[k]? = some x) (hm : x.mem.length ≤ 1000000) : Again l (putS s x) (k + 1) := by
  refine ⟨fun i y hi hy => ?_, fun y hy => ?_, ?_⟩
  · by_cases e : i = k
    · subst e
      obtain rfl : x = y := Option.some.inj (hx.symm.trans hy)
      exact okPut_self s x
    · exact okPut_stays x (h.no i y (by omega) hy)
  · unfold putS at hy
    cases hok : okPut s x <;> rw [hok] at hy
    · exact h.mem y hy
    · rcases List.mem_append.1 (show y ∈ s.l ++ [x] from hy) with hy | hy
      · exact h.mem y hy
      · rw [List.mem_singleton.1 hy]; exact hm
  · have := h.few
    unfold putS
    cases okPut s x
    · simp; omega
    · simp [putT]; omega
end Go.Proofs.YtacbebkaammcnaaDoor
