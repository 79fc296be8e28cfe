/- What LinkPeers reckons, in plain Lean. -/
import Derived.Test.YtgkinjfinijnnaaDoorLawL
set_option linter.unusedVariables false
set_option linter.unusedSimpArgs false
namespace Go.Proofs.YtgkinjfinijnnaaDoor
open Go.RowKit Go.Proofs.YtgkinjfinijnnaaDoorW.PrintWords Go.Proofs.Mine

/-- The cells of an array of marks. -/
def arrB (l : List Bool) : Array Value := (l.map Value.bool).toArray
theorem arrB_set (l : List Bool) (n : Nat) (v : Bool) : (arrB l).setIfInBounds n (.bool v) = arrB (l.set n v) := by
  unfold arrB
  rw [List.map_set, List.setIfInBounds_toArray]
theorem arrB_get (l : List Bool) (n : Nat) (h : n < l.length) : (arrB l)[n]? = some (.bool (l.getD n false)) := by
  simp [arrB, h]
/-- A peer of the law's: never heard, or in life 7 with small numbers. -/
def SmallP (p : Pr) : Prop := p = pr0 ∨ p.life = 7 ∧ 0 ≤ p.most ∧ p.most ≤ 40 ∧ ∀ x v, p.taken x = some v → 1 ≤ x ∧ x ≤ 40
theorem SmallP.most {p : Pr} (h : SmallP p) : 0 ≤ p.most ∧ p.most ≤ 40 := by
  rcases h with rfl | h
  · exact ⟨Int.le_refl 0, by decide⟩
  · exact ⟨h.2.1, h.2.2.1⟩
theorem SmallP.keys {p : Pr} (h : SmallP p) {n : Int} (hn : n ≤ 40) : ∀ x v, p.taken x = some v → n - 256 < x := by
  intro x v hx
  rcases h with rfl | h
  · cases hx
  · have := h.2.2.2 x v hx; omega
theorem SmallP.may {p : Pr} (h : SmallP p) {n : Int} (h1 : 1 ≤ n) (hn : n ≤ 40) : mayE p 7 n = if tk p n = true then 7 else 0 := by
  unfold mayE
  rw [if_neg (by omega)]
  rcases h with rfl | ⟨hl, h0, h2, h3⟩
  · rw [if_neg (by decide), if_neg (by rintro ⟨h, _⟩; cases h)]
    rfl
  · rw [hl, if_neg (by decide)]
    by_cases ht : tk p n = true
    · rw [if_pos ⟨rfl, .inl ht⟩, if_pos ht]
    · rw [if_neg (by rintro ⟨_, h | h⟩; exact ht h; omega), if_neg ht]
theorem SmallP.take {p : Pr} (h : SmallP p) {n : Int} (h1 : 1 ≤ n) (hn : n ≤ 40) : SmallP (takeP p 7 n) ∧ (takeP p 7 n).life = 7 ∧ ∀ x, tk (takeP p 7 n) x = if x = n then true else tk p x := by
  rcases h with rfl | ⟨hl, h0, h2, h3⟩
  · have e : takeP pr0 7 n = ⟨0, 7, updI (fun _ => none) n true, if n ≤ 0 then 0 else n⟩ := by
      unfold takeP takeBase
      rw [if_pos (by decide)]
      rfl
    rw [e]
    refine ⟨.inr ⟨rfl, ?_, ?_, fun x v hx => ?_⟩, rfl, fun x => ?_⟩
    · show (0 : Int) ≤ if n ≤ 0 then 0 else n; split <;> omega
    · show (if n ≤ 0 then 0 else n) ≤ (40 : Int); split <;> omega
    · by_cases c : x = n
      · omega
      · simp [updI, c] at hx
    · unfold tk updI
      by_cases c : x = n
      · simp [c]
      · simp [c, pr0]
  · have e : takeP p 7 n = ⟨p.sent, 7, updI p.taken n true, if n ≤ p.most then p.most else n⟩ := by
      unfold takeP takeBase
      rw [if_neg (by omega)]
      cases p
      simp_all
    rw [e]
    refine ⟨.inr ⟨rfl, ?_, ?_, fun x v hx => ?_⟩, rfl, fun x => ?_⟩
    · show (0 : Int) ≤ if n ≤ p.most then p.most else n; split <;> omega
    · show (if n ≤ p.most then p.most else n) ≤ (40 : Int); split <;> omega
    · by_cases c : x = n
      · omega
      · exact h3 x v (by simpa [updI, c] using hx)
    · unfold tk updI
      by_cases c : x = n
      · simp [c]
      · simp [c]
theorem SmallP.life {p : Pr} (h : SmallP p) {n : Int} (ht : tk p n = true) : p.life = 7 := by
  rcases h with rfl | h
  · cases ht
  · exact h.1
/-- The law's own array, of three peers and thirty numbers. -/
structure PeersR (s : LSt) (k : Nat) (has : List Bool) (rv : Int) : Prop where
  len : has.length = 90
  at_ : ∀ p n : Nat, p < 3 → 1 ≤ n → n < 30 → has.getD (p * 30 + n) false = tk (s.peers p) n
  small : ∀ p : Nat, p < 3 → SmallP (s.peers p)
  far : s.peers 5 = pr0
  ref : s.refused = rv
  ref0 : 0 ≤ rv
  refk : rv ≤ k
theorem peersR0 : PeersR (link0 0 1) 0 (List.replicate 90 false) 0 := by
  refine ⟨by simp, fun p n hp h1 h2 => ?_, fun _ _ => .inl rfl, rfl, rfl, by decide, by decide⟩
  rw [List.getD_eq_getElem?_getD, List.getElem?_replicate, if_pos (by omega)]; rfl
theorem bget (l : List Bool) (i j : Nat) (v : Bool) (h : i < l.length) : (l.set i v).getD j false = if j = i then v else l.getD j false := by
  by_cases e : j = i
  · subst e
    simp [List.getD_eq_getElem?_getD, h]
  · simp [List.getD_eq_getElem?_getD, List.getElem?_set, e, Ne.symm e]
theorem PeersR.new {s : LSt} {k p n : Nat} {has : List Bool} {rv : Int} (h : PeersR s k has rv) (hp : p < 3) (h1 : 1 ≤ n) (hn : n < 30) (hh : has.getD (p * 30 + n) false = false) :
    mayE (s.peers p) 7 n = 0 ∧ PeersR (takeL s p 7 n) (k + 1) (has.set (p * 30 + n) true) rv ∧ ((takeL s p 7 n).peers p).life = 7 := by
  have hs := h.small p hp
  have he : mayE (s.peers p) 7 n = 0 := by
    rw [hs.may (by omega) (by omega), ← h.at_ p n hp h1 hn, hh]; rfl
  have hs2 := hs.take (n := n) (by omega) (by omega)
  have ht : takeL s p 7 n = tookL s p 7 n := by unfold takeL; rw [if_pos he]
  have hl : p * 30 + n < has.length := by rw [h.len]; omega
  rw [ht]
  refine ⟨he, ⟨by rw [List.length_set]; exact h.len, fun p' n' hp' h1' hn' => ?_, fun p' hp' => ?_, ?_, h.ref, h.ref0, by have := h.refk; omega⟩, ?_⟩
  · rw [bget _ _ _ _ hl]
    show _ = tk (updP s.peers p (takeP (s.peers p) 7 n) p') n'
    by_cases e : p' = p
    · subst e
      rw [updP_at, hs2.2.2]
      by_cases e2 : n' = n
      · subst e2; rw [if_pos rfl, if_pos rfl]
      · rw [if_neg (by omega), if_neg (by omega)]; exact h.at_ p' n' hp' h1' hn'
    · rw [updP_other _ _ (by omega), if_neg (by omega)]; exact h.at_ p' n' hp' h1' hn'
  · show SmallP (updP s.peers p (takeP (s.peers p) 7 n) p')
    by_cases e : p' = p
    · subst e; rw [updP_at]; exact hs2.1
    · rw [updP_other _ _ (by omega)]; exact h.small p' hp'
  · show updP s.peers p (takeP (s.peers p) 7 n) 5 = pr0
    rw [updP_other _ _ (by omega)]; exact h.far
  · show (updP s.peers p (takeP (s.peers p) 7 n) p).life = 7
    rw [updP_at]; exact hs2.2.1
theorem PeersR.old {s : LSt} {k p n : Nat} {has : List Bool} {rv : Int} (h : PeersR s k has rv) (hp : p < 3) (h1 : 1 ≤ n) (hn : n < 30) (hh : has.getD (p * 30 + n) false = true) :
    mayE (s.peers p) 7 n = 7 ∧ PeersR (takeL s p 7 n) (k + 1) (has.set (p * 30 + n) true) (rv + 1) ∧ ((takeL s p 7 n).peers p).life = 7 := by
  have hs := h.small p hp
  have htk : tk (s.peers p) n = true := by rw [← h.at_ p n hp h1 hn, hh]
  have he : mayE (s.peers p) 7 n = 7 := by
    rw [hs.may (by omega) (by omega), htk]; rfl
  have ht : takeL s p 7 n = refuseL s := by unfold takeL; rw [if_neg (by rw [he]; decide)]
  have hl : p * 30 + n < has.length := by rw [h.len]; omega
  rw [ht]
  refine ⟨he, ⟨by rw [List.length_set]; exact h.len, fun p' n' hp' h1' hn' => ?_, h.small, h.far, by show s.refused + 1 = rv + 1; rw [h.ref], by have := h.ref0; omega, by have := h.refk; omega⟩, hs.life htk⟩
  rw [bget _ _ _ _ hl]
  show _ = tk (s.peers p') n'
  rw [← h.at_ p' n' hp' h1' hn']
  split
  · rename_i e; rw [e, hh]
  · rfl
end Go.Proofs.YtgkinjfinijnnaaDoor
