/- What LinkOnce reckons, in plain Lean. -/
import Derived.Test.YtgkinjfinijnnaaDoorPeersP
set_option linter.unusedVariables false
set_option linter.unusedSimpArgs false
namespace Go.Proofs.YtgkinjfinijnnaaDoor
open Go.RowKit Go.Proofs.YtgkinjfinijnnaaDoorW.PrintWords Go.Proofs.Mine

/-- A peer of the law's: never heard, or in life 4 with small numbers. -/
def SmallO (p : Pr) : Prop := p = pr0 ∨ p.life = 4 ∧ 0 ≤ p.most ∧ p.most ≤ 40 ∧ ∀ x v, p.taken x = some v → 1 ≤ x ∧ x ≤ 40
theorem SmallO.most {p : Pr} (h : SmallO p) : 0 ≤ p.most ∧ p.most ≤ 40 := by
  rcases h with rfl | h
  · exact ⟨Int.le_refl 0, by decide⟩
  · exact ⟨h.2.1, h.2.2.1⟩
theorem SmallO.keys {p : Pr} (h : SmallO p) {n : Int} (hn : n ≤ 40) : ∀ x v, p.taken x = some v → n - 256 < x := by
  intro x v hx
  rcases h with rfl | h
  · cases hx
  · have := h.2.2.2 x v hx; omega
theorem SmallO.may {p : Pr} (h : SmallO p) {n : Int} (h1 : 1 ≤ n) (hn : n ≤ 40) : mayE p 4 n = if tk p n = true then 7 else 0 := by
  unfold mayE
  rw [if_neg (by omega)]
  rcases h with rfl | ⟨hl, h0, h2, h3⟩
  · rw [if_neg (by decide), if_neg (by rintro ⟨h, _⟩; cases h)]
    rfl
  · rw [hl, if_neg (by decide)]
    by_cases ht : tk p n = true
    · rw [if_pos ⟨rfl, .inl ht⟩, if_pos ht]
    · rw [if_neg (by rintro ⟨_, h | h⟩; exact ht h; omega), if_neg ht]
theorem SmallO.take {p : Pr} (h : SmallO p) {n : Int} (h1 : 1 ≤ n) (hn : n ≤ 40) : SmallO (takeP p 4 n) ∧ (takeP p 4 n).life = 4 ∧ ∀ x, tk (takeP p 4 n) x = if x = n then true else tk p x := by
  rcases h with rfl | ⟨hl, h0, h2, h3⟩
  · have e : takeP pr0 4 n = ⟨0, 4, updI (fun _ => none) n true, if n ≤ 0 then 0 else n⟩ := by
      unfold takeP takeBase
      rw [if_pos (by decide)]
      rfl
    rw [e]
    refine ⟨.inr ⟨rfl, ?_, ?_, fun x v hx => ?_⟩, rfl, fun x => ?_⟩
    · show (0 : Int) ≤ if n ≤ 0 then 0 else n; split <;> omega
    · show (if n ≤ 0 then 0 else n) ≤ (40 : Int); split <;> omega
    · by_cases c : x = n
      · omega
      · simp [updI, c] at hx
    · unfold tk updI
      by_cases c : x = n
      · simp [c]
      · simp [c, pr0]
  · have e : takeP p 4 n = ⟨p.sent, 4, updI p.taken n true, if n ≤ p.most then p.most else n⟩ := by
      unfold takeP takeBase
      rw [if_neg (by omega)]
      cases p
      simp_all
    rw [e]
    refine ⟨.inr ⟨rfl, ?_, ?_, fun x v hx => ?_⟩, rfl, fun x => ?_⟩
    · show (0 : Int) ≤ if n ≤ p.most then p.most else n; split <;> omega
    · show (if n ≤ p.most then p.most else n) ≤ (40 : Int); split <;> omega
    · by_cases c : x = n
      · omega
      · exact h3 x v (by simpa [updI, c] using hx)
    · unfold tk updI
      by_cases c : x = n
      · simp [c]
      · simp [c]
theorem SmallO.life {p : Pr} (h : SmallO p) {n : Int} (ht : tk p n = true) : p.life = 4 := by
  rcases h with rfl | h
  · cases ht
  · exact h.1
/-- The law's own array of what was taken. -/
structure OnceR (s : LSt) (k : Nat) (has : List Bool) : Prop where
  len : has.length = 41
  at_ : ∀ n : Nat, 1 ≤ n → n < 41 → has.getD n false = tk (s.peers 1) n
  small : SmallO (s.peers 1)
  ref0 : 0 ≤ s.refused
  refk : s.refused ≤ k
theorem onceR0 : OnceR (link0 2 9) 0 (List.replicate 41 false) := by
  refine ⟨by simp, fun n h1 h2 => ?_, .inl rfl, by decide, by decide⟩
  rw [List.getD_eq_getElem?_getD, List.getElem?_replicate, if_pos (by omega)]; rfl
theorem OnceR.new {s : LSt} {k n : Nat} {has : List Bool} (h : OnceR s k has) (h1 : 1 ≤ n) (hn : n < 41) (hh : has.getD n false = false) :
    mayE (s.peers 1) 4 n = 0 ∧ OnceR (takeL s 1 4 n) (k + 1) (has.set n true) := by
  have he : mayE (s.peers 1) 4 n = 0 := by
    rw [h.small.may (by omega) (by omega), ← h.at_ n h1 hn, hh]; rfl
  have hs2 := h.small.take (n := n) (by omega) (by omega)
  have ht : takeL s 1 4 n = tookL s 1 4 n := by unfold takeL; rw [if_pos he]
  have hl : n < has.length := by rw [h.len]; omega
  have hp : (tookL s 1 4 n).peers 1 = takeP (s.peers 1) 4 n := updP_at s.peers 1 _
  rw [ht]
  refine ⟨he, by rw [List.length_set]; exact h.len, fun n' h1' hn' => ?_, by rw [hp]; exact hs2.1, h.ref0, by have := h.refk; show s.refused ≤ _; omega⟩
  rw [bget _ _ _ _ hl, hp, hs2.2.2]
  by_cases e2 : n' = n
  · subst e2; rw [if_pos rfl, if_pos rfl]
  · rw [if_neg (by omega), if_neg (by omega)]; exact h.at_ n' h1' hn'
theorem OnceR.old {s : LSt} {k n : Nat} {has : List Bool} (h : OnceR s k has) (h1 : 1 ≤ n) (hn : n < 41) (hh : has.getD n false = true) :
    mayE (s.peers 1) 4 n = 7 ∧ OnceR (takeL s 1 4 n) (k + 1) (has.set n true) := by
  have htk : tk (s.peers 1) n = true := by rw [← h.at_ n h1 hn, hh]
  have he : mayE (s.peers 1) 4 n = 7 := by
    rw [h.small.may (by omega) (by omega), htk]; rfl
  have ht : takeL s 1 4 n = refuseL s := by unfold takeL; rw [if_neg (by rw [he]; decide)]
  have hl : n < has.length := by rw [h.len]; omega
  rw [ht]
  refine ⟨he, by rw [List.length_set]; exact h.len, fun n' h1' hn' => ?_, h.small, by have := h.ref0; show 0 ≤ s.refused + 1; omega, by have := h.refk; show s.refused + 1 ≤ _; omega⟩
  rw [bget _ _ _ _ hl]
  show _ = tk (s.peers 1) n'
  rw [← h.at_ n' h1' hn']
  split
  · rename_i e; rw [e, hh]
  · rfl
/-- The new life: it takes 1. -/
theorem SmallO.five {p : Pr} (h : SmallO p) : mayE p 5 1 = 0 ∧ (takeP p 5 1).life = 5 ∧ (takeP p 5 1).most = 1 ∧ tk (takeP p 5 1) 1 = true := by
  have hl : p.life < 5 := by
    rcases h with rfl | h
    · decide
    · omega
  have e : takeP p 5 1 = ⟨p.sent, 5, updI (fun _ => none) 1 true, 1⟩ := by
    unfold takeP takeBase
    rw [if_pos hl]
    rfl
  rw [e]
  refine ⟨?_, rfl, rfl, by simp [tk, updI]⟩
  unfold mayE
  rw [if_neg (by omega), if_neg (by omega), if_neg (by rintro ⟨h, _⟩; omega)]
/-- Behind the new life: none of the elder one; and 1 not twice. -/
structure Fifth (s : LSt) (k : Nat) : Prop where
  life_ : (s.peers 1).life = 5
  most : (s.peers 1).most = 1
  tk_ : tk (s.peers 1) 1 = true
  ref0 : 0 ≤ s.refused
  refk : s.refused ≤ 80 + k
theorem Fifth.of {s : LSt} {k : Nat} {has : List Bool} (h : OnceR s k has) (hk : k ≤ 80) : mayE (s.peers 1) 5 1 = 0 ∧ Fifth (takeL s 1 5 1) 0 := by
  obtain ⟨h1, h2, h3, h4⟩ := h.small.five
  have ht : takeL s 1 5 1 = tookL s 1 5 1 := by unfold takeL; rw [if_pos h1]
  have hp : (tookL s 1 5 1).peers 1 = takeP (s.peers 1) 5 1 := updP_at s.peers 1 _
  rw [ht]
  refine ⟨h1, by rw [hp]; exact h2, by rw [hp]; exact h3, by rw [hp]; exact h4, h.ref0, by have := h.refk; show s.refused ≤ _; omega⟩
theorem Fifth.stale {s : LSt} {k : Nat} (h : Fifth s k) {n : Int} (hn : 1 ≤ n) : mayE (s.peers 1) 4 n = 19 ∧ Fifth (takeL s 1 4 n) (k + 1) := by
  have he : mayE (s.peers 1) 4 n = 19 := by
    unfold mayE
    rw [if_neg (by omega), if_pos (by rw [h.life_]; decide)]
  have ht : takeL s 1 4 n = refuseL s := by unfold takeL; rw [if_neg (by rw [he]; decide)]
  rw [ht]
  exact ⟨he, h.life_, h.most, h.tk_, by have := h.ref0; show 0 ≤ s.refused + 1; omega, by have := h.refk; show s.refused + 1 ≤ _; omega⟩
theorem Fifth.again {s : LSt} {k : Nat} (h : Fifth s k) : mayE (s.peers 1) 5 1 = 7 := by
  unfold mayE
  rw [if_neg (by omega), h.life_, if_neg (by decide), if_pos ⟨rfl, .inl h.tk_⟩]
/-- What the stamps gave. -/
def upto (k : Nat) : List Int := (List.range k).map fun (i : Nat) => (i : Int) + 1
theorem upto_length (k : Nat) : (upto k).length = k := by simp [upto]
theorem upto_succ (k : Nat) : upto (k + 1) = upto k ++ [(k : Int) + 1] := by simp [upto, List.range_succ]
theorem upto_rd {k i : Nat} (h : i < k) : rd (upto k) (i : Int) = (i : Int) + 1 := by
  unfold rd upto
  rw [Int.toNat_natCast, List.getD_eq_getElem?_getD, List.getElem?_map, List.getElem?_range h]
  rfl
/-- The stamps' state: two links and a row of the law's own, apart. -/
def OnceA (w : World) (ba bb k : Nat) (v : Value) (wr : World) : Prop := ∃ (Fa Fb : Nat → Prop) (sa : LSt), LinkIn w ba sa wr Fa ∧ (sa.peers 2).sent = k ∧ sa.life = 4 ∧ LinkIn w bb (link0 2 9) wr Fb ∧ (∀ j, Fa j → ¬ Fb j) ∧ wr.ownsRow w.heap.size 3 1 v k (nums .i64 (upto k)) ∧ (∀ j, v.ownBlock = some j → ¬ Fa j ∧ ¬ Fb j)
theorem OnceA.app {w w5 w6 : World} {ba bb k : Nat} {v v1 : Value} {Fa Fb : Nat → Prop} {sa : LSt} (hTa : LinkIn w ba sa w5 Fa) (hs : (sa.peers 2).sent = (k : Int) + 1) (hl : sa.life = 4) (hTb : LinkIn w bb (link0 2 9) w5 Fb) (hd : ∀ j, Fa j → ¬ Fb j) (hrow : w5.ownsRow w.heap.size 3 1 v k (nums .i64 (upto k))) (hsep : ∀ j, v.ownBlock = some j → ¬ Fa j ∧ ¬ Fb j)
    (hown : w6.ownsRow w.heap.size 3 1 v1 (upto k ++ [(k : Int) + 1]).length (nums .i64 (upto k ++ [(k : Int) + 1]))) (hg : w5.grownBy w6 v.ownBlock) (hat : v1.ownBlock = v.ownBlock ∨ ∃ b, v1.ownBlock = some b ∧ w5.heap.size ≤ b) : OnceA w ba bb (k + 1) v1 w6 := by
  have hK := Keep.of_grown (F := fun j => v.ownBlock = some j) hg (fun _ h => h)
  rw [← upto_succ, upto_length] at hown
  refine ⟨Fa, Fb, sa, hTa.keep hK (fun j hj => ⟨own_base hrow j hj, (hsep j hj).1⟩), by rw [hs]; simp, hl, hTb.keep hK (fun j hj => ⟨own_base hrow j hj, (hsep j hj).2⟩), hd, hown, fun j hj => ?_⟩
  rcases hat with hat | ⟨b, hat, hb⟩
  · exact hsep j (hat ▸ hj)
  · rw [hat] at hj
    obtain rfl := Option.some.inj hj
    refine ⟨fun h => ?_, fun h => ?_⟩
    · have := (hTa.1.all _ h).2; omega
    · have := (hTb.1.all _ h).2; omega
theorem OnceA.stamped {w wr w5 : World} {ba bb k : Nat} {v : Value} {Fa Fb F5 : Nat → Prop} {sa : LSt} (hTa : LinkIn w ba sa wr Fa) (hTb : LinkIn w bb (link0 2 9) wr Fb) (hd : ∀ j, Fa j → ¬ Fb j) (hrow : wr.ownsRow w.heap.size 3 1 v k (nums .i64 (upto k))) (hsep : ∀ j, v.ownBlock = some j → ¬ Fa j ∧ ¬ Fb j)
    (hF : ∀ j, F5 j → Fa j ∨ wr.heap.size ≤ j) (hK : Keep Fa wr w5) : LinkIn w bb (link0 2 9) w5 Fb ∧ (∀ j, F5 j → ¬ Fb j) ∧ w5.ownsRow w.heap.size 3 1 v k (nums .i64 (upto k)) ∧ (∀ j, v.ownBlock = some j → ¬ F5 j ∧ ¬ Fb j) := by
  refine ⟨hTb.keep hK (fun j hj => ⟨(hTa.1.all j hj).1, hd j hj⟩), fun j hj hb => ?_, hK.own hrow (fun j hj => (hsep j hj).1), fun j hj => ⟨fun h => ?_, (hsep j hj).2⟩⟩
  · rcases hF j hj with h | h
    · exact hd j h hb
    · have := (hTb.1.all j hb).2; omega
  · rcases hF j h with h | h
    · exact (hsep j hj).1 h
    · have := own_lt hrow j hj; omega
/-- The taking link, the row of stamps, the array, apart. -/
def OnceB (w : World) (bb n : Nat) (v : Value) (s : LSt) (has : List Bool) (F : Nat → Prop) (wr : World) : Prop := LinkIn w bb s wr F ∧ wr.ownsRow w.heap.size 3 1 v 40 (nums .i64 (upto 40)) ∧ (∀ j, v.ownBlock = some j → ¬ F j) ∧ ¬ F n ∧ wr.heap[n]? = some (.cells (arrB has) 32 (0, 0)) ∧ w.heap.size ≤ n
theorem OnceB.took {w wr w5 : World} {bb n : Nat} {v : Value} {s s5 : LSt} {has : List Bool} {F F5 : Nat → Prop} (h : OnceB w bb n v s has F wr) (hT : LinkIn w bb s5 w5 F5) (hF : ∀ j, F5 j → F j ∨ wr.heap.size ≤ j) (hK : Keep F wr w5) : OnceB w bb n v s5 has F5 w5 := by
  obtain ⟨h1, h2, h3, h4, h5, h6⟩ := h
  refine ⟨hT, hK.own h2 h3, fun j hj hb => ?_, fun hb => ?_, hK.blk h5 h4, h6⟩
  · rcases hF j hb with h | h
    · exact h3 j hj h
    · have := own_lt h2 j hj; omega
  · rcases hF n hb with h | h
    · exact h4 h
    · have := blk_lt h5; omega
theorem OnceB.other {w wr w5 : World} {bb n : Nat} {v : Value} {s : LSt} {has : List Bool} {F : Nat → Prop} (h : OnceB w bb n v s has F wr) (hK : Keep (fun _ => False) wr w5) : OnceB w bb n v s has F w5 :=
  ⟨h.1.other hK, hK.own h.2.1 (fun _ _ h => h), h.2.2.1, h.2.2.2.1, hK.blk h.2.2.2.2.1 (fun h => h), h.2.2.2.2.2⟩
theorem OnceB.set {w wr : World} {bb n : Nat} {v : Value} {s : LSt} {has : List Bool} {F : Nat → Prop} (h : OnceB w bb n v s has F wr) (q : Nat) : OnceB w bb n v s (has.set q true) F (wr.setCell ⟨n, q, none⟩ (.bool true)) := by
  obtain ⟨h1, h2, h3, h4, h5, h6⟩ := h
  have hs := blk_set h5 q (.bool true)
  rw [arrB_set] at hs
  refine ⟨h1.keep (G := fun k => k = n) ((Keep.refl _ wr).setCell ⟨n, q, none⟩ (.bool true) (.inl rfl)) (fun k hk => by subst hk; exact ⟨h6, h4⟩), own_setCell h2 (own_ne h2 h5 (by decide)) _, h3, h4, hs, h6⟩
theorem OnceB.start {w wr : World} {bb : Nat} {v : Value} {Fb : Nat → Prop} (hTb : LinkIn w bb (link0 2 9) wr Fb) (hrow : wr.ownsRow w.heap.size 3 1 v 40 (nums .i64 (upto 40))) (hsep : ∀ j, v.ownBlock = some j → ¬ Fb j) : OnceB w bb wr.heap.size v (link0 2 9) (List.replicate 41 false) Fb (wr.alloc (.cells (arrB (List.replicate 41 false)) 32)) :=
  ⟨hTb.alloc _, ((Keep.refl (fun _ => False) wr).alloc _).own hrow (fun _ _ h => h), hsep, fun h => by have := (hTb.1.all _ h).2; omega, heap_alloc_new wr _, hTb.2.size⟩
theorem OnceB.cell {w wr : World} {bb n : Nat} {A1 : Option Addr} {c1 : Nat} {s : LSt} {has : List Bool} {F : Nat → Prop} (h : OnceB w bb n (.slice A1 40 c1) s has F wr) (i : Nat) (hi : i < 40) : ∃ ad, A1 = some ad ∧ wr.cell? (ad.add i) = some (.int .i64 ((i : Int) + 1)) := by
  obtain ⟨A2, c2, he, hR⟩ := own_reads h.2.1
  cases he
  obtain ⟨ad, h1, h2⟩ := hR.at_ (i : Int) (by omega) (by omega)
  rw [upto_rd hi, Int.toNat_natCast] at h2
  exact ⟨ad, h1, h2⟩
/-- A third link, beside them. -/
theorem OnceB.third {w wr w5 : World} {bb n : Nat} {v : Value} {s : LSt} {has : List Bool} {F Fc : Nat → Prop} {X Y : Obj} (h : OnceB w bb n v s has F wr) (hc : ∀ j, Fc j → wr.heap.size ≤ j) (hK : Keep Fc ((wr.alloc X).alloc Y) w5) : OnceB w bb n v s has F w5 :=
  h.other ((((Keep.refl (fun _ => False) wr).alloc X).alloc Y).trans hK (fun j hj => .inr (hc j hj)))
end Go.Proofs.YtgkinjfinijnnaaDoor
