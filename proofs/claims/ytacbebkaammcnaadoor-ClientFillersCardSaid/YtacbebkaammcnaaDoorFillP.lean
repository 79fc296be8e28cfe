/- What ClientFillers reckons, in plain Lean. -/
import Derived.Test.YtacbebkaammcnaaDoorAllW
import Derived.Test.YtacbebkaammcnaaDoorAsksL
set_option linter.unusedVariables false
set_option linter.unusedSimpArgs false
namespace Go.Proofs.YtacbebkaammcnaaDoor
open Go.RowKit Go.Proofs.YtacbebkaammcnaaDoorW.PrintWords Go.Proofs.Mine

/-- The greatest number of a client's entries. -/
def lastN (l : List Ent) (c : Int) : Int := l.foldl (fun m x => if x.c = c then max m x.q else m) 0
theorem lastN_snoc (l : List Ent) (x : Ent) (c : Int) : lastN (l ++ [x]) c = if x.c = c then max (lastN l c) x.q else lastN l c := by
  unfold lastN
  rw [List.foldl_append]
  rfl
theorem lastN_take {l : List Ent} {k : Nat} {x : Ent} (h : l[k]? = some x) (c : Int) : lastN (l.take (k + 1)) c = if x.c = c then max (lastN (l.take k) c) x.q else lastN (l.take k) c := by
  rw [take_get h, lastN_snoc]
/-- A table that was filled by Put of small entries. -/
structure Filled (s : TSt) (k : Nat) : Prop where
  last : ∀ c, lastN s.l c = grN s c
  mem : ∀ x ∈ s.l, x.mem.length ≤ 1000000
  few : s.l.length ≤ k
theorem filled0 : Filled tab0 0 := ⟨fun _ => rfl, (fun _ h => nomatch h), by decide⟩
theorem lastN_nn (l : List Ent) (c : Int) : 0 ≤ lastN l c := by
  have : ∀ (l : List Ent) (m : Int), 0 ≤ m → 0 ≤ l.foldl (fun m x => if x.c = c then max m x.q else m) m := by
    intro l
    induction l with
    | nil => exact fun m h => h
    | cons x l ih =>
      intro m hm
      rw [List.foldl_cons]
      refine ih _ ?_
      split <;> omega
  exact this l 0 (by decide)
theorem Filled.put {s : TSt} {k : Nat} (h : Filled s k) (kd c q : Int) : Filled (putS s (e0 kd c q)) (k + 1) ∧ ((putS s (e0 kd c q)).l.length : Int) = if okPut s (e0 kd c q) = true then (s.l.length : Int) + 1 else s.l.length := by
  unfold putS
  cases hok : okPut s (e0 kd c q)
  · exact ⟨⟨h.last, h.mem, by have := h.few; simp; omega⟩, rfl⟩
  · obtain ⟨_, _, _, hg⟩ := okPut_true hok
    have hg' : grN s c < q := hg
    refine ⟨⟨fun c' => ?_, fun x hx => ?_, by have := h.few; simp [putT]; omega⟩, by simp [putT]⟩
    · show lastN (s.l ++ [e0 kd c q]) c' = _
      rw [lastN_snoc, h.last]
      show (if c = c' then max (grN s c') q else grN s c') = grN (putT s (e0 kd c q)) c'
      rw [grN_put]
      show _ = if c' = c then q else grN s c'
      by_cases e : c = c'
      · subst e; rw [if_pos rfl, if_pos rfl]; omega
      · rw [if_neg e, if_neg (fun h => e h.symm)]
    · rcases List.mem_append.1 hx with hx | hx
      · exact h.mem x hx
      · rw [List.mem_singleton.1 hx]; show (0 : Nat) ≤ 1000000; decide
theorem ok_want {s : TSt} {k : Nat} (hf : Filled s k) (kd c q : Int) : okPut s (e0 kd c q) = (((decide (1 ≤ kd) && decide (kd ≤ 3)) && decide (1 ≤ c)) && decide (grN s c < q)) := by
  have hk : (kd == 1 || kd == 2 || kd == 3) = (decide (1 ≤ kd) && decide (kd ≤ 3)) := by
    by_cases a : 1 ≤ kd ∧ kd ≤ 3
    · have : kd = 1 ∨ kd = 2 ∨ kd = 3 := by omega
      rcases this with rfl | rfl | rfl <;> rfl
    · have h1 : (kd == 1) = false := by simp; omega
      have h2 : (kd == 2) = false := by simp; omega
      have h3 : (kd == 3) = false := by simp; omega
      have h4 : (decide (1 ≤ kd) && decide (kd ≤ 3)) = false := by simp; omega
      rw [h1, h2, h3, h4]; rfl
  have hb : okPut s (e0 kd c q) = ((((kd == 1 || kd == 2 || kd == 3) && decide (1 ≤ c)) && decide (1 ≤ q)) && decide (grN s c < q)) := rfl
  rw [hb, hk]
  have hn := lastN_nn s.l c
  rw [hf.last] at hn
  by_cases hg : grN s c < q
  · rw [decide_eq_true hg, decide_eq_true (show 1 ≤ q by omega), Bool.and_true]
  · rw [decide_eq_false hg, Bool.and_false, Bool.and_false]
end Go.Proofs.YtacbebkaammcnaaDoor
