/- What LinkFar reckons, in plain Lean. -/
import Derived.Test.YtgkinjfinijnnaaDoorLawL
set_option linter.unusedVariables false
set_option linter.unusedSimpArgs false
namespace Go.Proofs.YtgkinjfinijnnaaDoor
open Go.RowKit Go.Proofs.YtgkinjfinijnnaaDoorW.PrintWords Go.Proofs.Mine

def pF (t : Int) : Pr := takeP pr0 3 t
theorem pF_eq {t : Int} (ht : 1 ≤ t) : pF t = ⟨0, 3, updI (fun _ => none) t true, t⟩ := by
  unfold pF takeP takeBase
  rw [if_pos (by decide)]
  simp [pr0]
  omega
theorem may_new {life n : Int} (h1 : 1 ≤ life) (h2 : 1 ≤ n) : mayE pr0 life n = 0 := by
  unfold mayE
  rw [if_neg (by omega), if_neg (by show ¬ life < 0; omega), if_neg (by rintro ⟨h, _⟩; have : life = 0 := h; omega)]
theorem may_far {t n : Int} (ht : 1 ≤ t) (hn : n ≤ t) : mayE (pF t) 3 n = if n < 1 then 1 else if n = t ∨ n ≤ t - 256 then 7 else 0 := by
  rw [pF_eq ht]
  unfold mayE tk updI
  by_cases h1 : n < 1
  · rw [if_pos (.inr h1), if_pos h1]
  · rw [if_neg (by omega), if_neg h1, if_neg (by show ¬ (3 : Int) < 3; decide)]
    by_cases h2 : n = t
    · simp [h2]
    · by_cases h3 : n ≤ t - 256
      · simp [h2, h3]
      · simp [h2, h3]
theorem may_again (p : Pr) {life n : Int} (hl : 1 ≤ life) (hn : 1 ≤ n) (h : p.life ≤ life) : mayE (takeP p life n) life n = 7 := by
  have h1 : (takeP p life n).life = life := by
    unfold takeP takeBase
    by_cases h2 : p.life < life
    · rw [if_pos h2]
    · rw [if_neg h2]; show p.life = life; omega
  have h3 : tk (takeP p life n) n = true := by unfold tk takeP updI; simp
  unfold mayE
  rw [if_neg (by omega), h1, if_neg (by omega), if_pos ⟨rfl, .inl h3⟩]
def far2 (t : Int) : LSt := ⟨0, 1, updP (fun _ => pr0) 5 (pF t), 0⟩
def far3 (t n : Int) : LSt := ⟨0, 1, updP (updP (fun _ => pr0) 5 (pF t)) 5 (takeP (pF t) 3 n), 0⟩
theorem far_take1 {t : Int} (ht : 1 ≤ t) : mayE ((link0 0 1).peers 5) 3 t = 0 ∧ takeL (link0 0 1) 5 3 t = far2 t := by
  have h : mayE ((link0 0 1).peers 5) 3 t = 0 := may_new (by decide) ht
  refine ⟨h, ?_⟩
  unfold takeL
  rw [if_pos h]
  rfl
theorem far_peer2 (t : Int) : (far2 t).peers 5 = pF t := updP_at (fun _ => pr0) 5 (pF t)
theorem far_peer3 (t n : Int) : (far3 t n).peers 5 = takeP (pF t) 3 n := updP_at (updP (fun _ => pr0) 5 (pF t)) 5 (takeP (pF t) 3 n)
theorem far_peer6 (t n : Int) : (far3 t n).peers 6 = pr0 := by
  show updP (updP (fun _ => pr0) 5 (pF t)) 5 (takeP (pF t) 3 n) 6 = pr0
  rw [updP_other _ _ (by decide), updP_other _ _ (by decide)]
theorem far_take2 {t n : Int} (h : mayE ((far2 t).peers 5) 3 n = 0) : takeL (far2 t) 5 3 n = far3 t n := by
  unfold takeL
  rw [if_pos h]
  show LSt.mk 0 1 (updP _ 5 (takeP ((far2 t).peers 5) 3 n)) 0 = _
  rw [far_peer2]
  rfl
theorem far_take3 {t n : Int} (ht : 1 ≤ t) (h1 : 1 ≤ n) : mayE ((far3 t n).peers 5) 3 n = 7 := by
  rw [far_peer3]
  exact may_again _ (by decide) h1 (by rw [pF_eq ht]; show (3 : Int) ≤ 3; decide)
theorem far_most {t n : Int} (ht : 1 ≤ t) (hn : n ≤ t) : (takeP (pF t) 3 n).most = t := by
  rw [pF_eq ht]
  unfold takeP takeBase
  rw [if_neg (show ¬ (3 : Int) < 3 by decide)]
  show (if n ≤ t then t else n) = t
  rw [if_pos hn]
theorem far_keys {t n : Int} (ht : 1 ≤ t) (hn : n ≤ t) : ∀ x v, (pF t).taken x = some v → n - 256 < x := by
  intro x v hx
  rw [pF_eq ht] at hx
  by_cases e : x = t
  · omega
  · simp [updI, e] at hx
theorem far_keys2 {t n : Int} (ht : 1 ≤ t) (hn : n ≤ t) (h3 : t < n + 256) : ∀ x v, ((far3 t n).peers 5).taken x = some v → n - 256 < x := by
  intro x v hx
  rw [far_peer3, pF_eq ht] at hx
  unfold takeP takeBase at hx
  rw [if_neg (show ¬ (3 : Int) < 3 by decide)] at hx
  by_cases e : x = n
  · omega
  · by_cases e' : x = t
    · omega
    · simp [updI, e, e'] at hx
end Go.Proofs.YtgkinjfinijnnaaDoor
