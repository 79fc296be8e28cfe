/- Calls at a link of the law's own; within, known. -/
import Derived.Test.YtgkinjfinijnnaaDoorTakeL
set_option linter.unusedVariables false
set_option linter.unusedSimpArgs false
namespace Go.Proofs.YtgkinjfinijnnaaDoor
open Go.RowKit Go.Proofs.YtgkinjfinijnnaaDoorW.PrintWords Go.Proofs.Mine

/-- A link of the call's own (from w0's end on). -/
def LinkIn (w0 : World) (b : Nat) (s : LSt) (w : World) (F : Nat → Prop) : Prop := LinkAt w w0.heap.size F b s ∧ Below w0.heap.size w0 w
theorem LinkAt.all {w : World} {base b : Nat} {F : Nat → Prop} {s : LSt} (h : LinkAt w base F b s) : ∀ k, F k → base ≤ k ∧ k < w.heap.size := by
  obtain ⟨B, f, hO⟩ := h
  exact hO.all
theorem LinkIn.step {w0 w w' : World} {b : Nat} {F : Nat → Prop} {s s' : LSt} (h : LinkIn w0 b s w F) (hs : Link' w w0.heap.size F b s' w') :
    ∃ F', LinkIn w0 b s' w' F' ∧ (∀ k, F' k → F k ∨ w.heap.size ≤ k) ∧ Keep F w w' := by
  obtain ⟨F', h1, h2, h3⟩ := hs
  exact ⟨F', ⟨h1, h.2.trans (h3.to_below (by have := h.2.size; omega) (fun k hk => (h.1.all k hk).1))⟩, h2, h3⟩
theorem LinkIn.keep {w0 w w' : World} {b : Nat} {F G : Nat → Prop} {s : LSt} (h : LinkIn w0 b s w F) (hk : Keep G w w') (hg : ∀ k, G k → w0.heap.size ≤ k ∧ ¬ F k) : LinkIn w0 b s w' F :=
  ⟨h.1.keep hk (fun j hj hG => (hg j hG).2 hj), h.2.trans (hk.to_below (by have := h.2.size; omega) (fun k hk => (hg k hk).1))⟩
theorem LinkIn.other {w0 w w' : World} {b : Nat} {F : Nat → Prop} {s : LSt} (h : LinkIn w0 b s w F) (hk : Keep (fun _ => False) w w') : LinkIn w0 b s w' F := h.keep hk (fun _ h => h.elim)
theorem LinkIn.alloc {w0 w : World} {b : Nat} {F : Nat → Prop} {s : LSt} (h : LinkIn w0 b s w F) (o : Obj) : LinkIn w0 b s (w.alloc o) F := h.other ((Keep.refl _ w).alloc o)
def link0 (self life : Int) : LSt := ⟨self, life, fun _ => pr0, 0⟩
set_option maxHeartbeats 400000 in
theorem new_link (self life : Int) (w : World) :
    Calls Tryd.prog 9 #[.int .i64 self, .int .i64 life] w fun e w' => e = .returned (.pointer (some ⟨w.heap.size + 1, 0, none⟩)) ∧ w' = (w.alloc (.map #[] 0)).alloc (.cells #[.int .i64 self, .int .i64 life, .map (some w.heap.size), .int .i64 0] 43) := by
  have hmm := @run_makeMap Tryd.prog
  go_enter Tryd.func9, Tryd.ntmps9
  go_wp2
  go_ret
  exact ⟨rfl, rfl⟩
theorem link_new {w0 w : World} (self life : Int) (h : Below w0.heap.size w0 w) :
    LinkIn w0 (w.heap.size + 1) (link0 self life) ((w.alloc (.map #[] 0)).alloc (.cells #[.int .i64 self, .int .i64 life, .map (some w.heap.size), .int .i64 0] 43)) (fun k => k = w.heap.size ∨ k = w.heap.size + 1) := by
  have h1 : ∀ X Y : Obj, ((w.alloc X).alloc Y).heap[w.heap.size + 1]? = some Y := fun X Y => by have := heap_alloc_new (w.alloc X) Y; simpa using this
  refine ⟨⟨w.heap.size, fun _ => none, .inr rfl, fun k hk => ?_, h1 _ _, ?_, .inl rfl, (fun id g hf => by cases hf), fun _ _ => rfl, (fun id id' g g' hf => by cases hf)⟩, (h.alloc h.size _).alloc (by have := h.size; simp; omega) _⟩
  · have := h.size
    simp only [World.alloc, Array.size_push]
    omega
  · exact (MapI.new (α := Nat × Nat) (enc := ptrV) w).move (Below.heap_alloc _ _ _ (by simp))
theorem base_pos {w : World} (hg : Laid w) : 0 < w.heap.size := World.block_lt_of_cell? w ⟨0, 0, none⟩ hg
/-- Take, at a link whose numbers are small. -/
theorem take_in {w0 w : World} {b : Nat} {F : Nat → Prop} {s : LSt} (id life n : Int) (hg : Laid w0) (h : LinkIn w0 b s w F) (h0 : 0 ≤ (s.peers id).most) (h1 : (s.peers id).most ≤ 1000000) (hr0 : 0 ≤ s.refused) (hr1 : s.refused ≤ 1000000) (hn2 : n ≤ 1000000) (hkeys : mayE (s.peers id) life n = 0 → ∀ x v, (s.peers id).taken x = some v → n - 256 < x) :
    Calls Tryd.prog 10 #[.pointer (some ⟨b, 0, none⟩), .int .i64 id, .int .i64 life, .int .i64 n] w fun e w' => e = .returned (.int .i64 (mayE (s.peers id) life n)) ∧ ∃ F', LinkIn w0 b (takeL s id life n) w' F' ∧ (∀ k, F' k → F k ∨ w.heap.size ≤ k) ∧ Keep F w w' := by
  by_cases hE : mayE (s.peers id) life n = 0
  · refine (take_yes w w0.heap.size F b s id life n (hg.below h.2) (base_pos hg) h.1 h0 (by omega) (by omega) (hkeys hE) hE).mono ?_
    rintro e w' ⟨rfl, hL⟩
    refine ⟨by rw [hE], ?_⟩
    unfold takeL
    rw [if_pos hE]
    exact h.step hL
  · refine (take_no w w0.heap.size F b s id life n (hg.below h.2) (base_pos hg) h.1 h0 (by omega) hr0 hr1 hE).mono ?_
    rintro e w' ⟨rfl, hL⟩
    refine ⟨rfl, ?_⟩
    unfold takeL
    rw [if_neg hE]
    exact h.step hL
theorem stamp_in {w0 w : World} {b : Nat} {F : Nat → Prop} {s : LSt} (id : Int) (h : LinkIn w0 b s w F) (h0 : 0 ≤ (s.peers id).sent) (h1 : (s.peers id).sent ≤ 1000000) :
    Calls Tryd.prog 11 #[.pointer (some ⟨b, 0, none⟩), .int .i64 id] w fun e w' => e = .returned (.tuple #[.int .i64 s.life, .int .i64 ((s.peers id).sent + 1)]) ∧ ∃ F', LinkIn w0 b (stampL s id) w' F' ∧ (∀ k, F' k → F k ∨ w.heap.size ≤ k) ∧ Keep F w w' := by
  refine (stamp_any w w0.heap.size F b s id h.1 h0 h1).mono ?_
  rintro e w' ⟨rfl, hL⟩
  exact ⟨rfl, h.step hL⟩
theorem life_in {w0 w : World} {b : Nat} {F : Nat → Prop} {s : LSt} (id : Int) (h : LinkIn w0 b s w F) :
    Calls Tryd.prog 12 #[.pointer (some ⟨b, 0, none⟩), .int .i64 id] w fun e w' => e = .returned (.int .i64 (s.peers id).life) ∧ ∃ F', LinkIn w0 b s w' F' ∧ (∀ k, F' k → F k ∨ w.heap.size ≤ k) ∧ Keep F w w' := by
  refine (life_any w w0.heap.size F b s id h.1).mono ?_
  rintro e w' ⟨rfl, hL⟩
  exact ⟨rfl, h.step hL⟩
theorem tmod_fix (a n : Int) (hn : 0 < n) : (if a.tmod n < 0 then a.tmod n + n else a.tmod n) = a % n := by
  have h1 := Int.tmod_add_mul_tdiv a n
  have h2 := Int.emod_add_mul_ediv a n
  rw [Int.tmod_eq_emod]
  have h3 := Int.emod_nonneg a (show n ≠ 0 by omega)
  have h4 := Int.emod_lt_of_pos a hn
  split <;> split <;> omega
set_option maxHeartbeats 400000 in
theorem within_any (a n : Int) (w : World) (hn : 0 < n) (hn2 : n ≤ 4611686018427387904) :
    Calls Tryd.prog 8 #[.int .i64 a, .int .i64 n] w fun e w' => e = .returned (.int .i64 (a % n)) ∧ w = w' := by
  have H := Lib.hid (tmod_fix a n hn)
  have h1 : -n < a.tmod n := by
    have := Int.tmod_eq_emod (a := a) (b := n)
    have h3 := Int.emod_nonneg a (show n ≠ 0 by omega)
    have h4 := Int.emod_lt_of_pos a hn
    split at this <;> omega
  have h0 : (n == 0) = false := by simp; omega
  by_cases hs : a.tmod n < 0
  · have hf : a.tmod n + n = a % n := by have := H.out; rwa [if_pos hs] at this
    have HF := Lib.hid hf
    clear hf H
    go_enter Tryd.func8, Tryd.ntmps8
    go_wp2
    go_ret
    exact ⟨by rw [HF.out]; rfl, rfl⟩
  · have hf : a.tmod n = a % n := by have := H.out; rwa [if_neg hs] at this
    have HF := Lib.hid hf
    clear hf H
    go_enter Tryd.func8, Tryd.ntmps8
    go_wp2
    go_ret
    exact ⟨by rw [HF.out]; rfl, rfl⟩
theorem within_quiet (a n : Int) (w : World) (hn : 0 < n) (hn2 : n ≤ 4611686018427387904) : Calls Tryd.prog 8 #[.int .i64 a, .int .i64 n] w fun e w' => e = .returned (.int .i64 (a % n)) ∧ w' = w :=
  (within_any a n w hn hn2).mono fun _ _ h => ⟨h.1, h.2.symm⟩
set_option maxRecDepth 100000 in
set_option maxHeartbeats 1000000 in
theorem known_any (w : World) (hg : Laid w) : Calls Tryd.prog 7 #[] w fun e w' => e = .returned (.bool true) ∧ Below w.heap.size w w' := by
  have HG := Lib.hid hg
  clear hg
  go_enter Tryd.func7, Tryd.ntmps7
  go_wp2_with (first
    | (go_at_call 9; refine (new_link 1 5 _).mono ?_; rintro e w1 ⟨rfl, hw1⟩; have T1 := Lib.hid (link_new 1 5 (Below.refl w.heap.size w)); rw [← hw1] at T1; clear hw1)
    | (go_at_call 11; refine (stamp_in 2 T1.out (by decide) (by decide)).mono ?_; rintro e w2 ⟨rfl, F2, hT2, _, _⟩; have T2 := Lib.hid hT2; clear hT2
       rw [show (((link0 1 5).peers 2).sent + 1 : Int) = 1 from by decide, show (link0 1 5).life = 5 from rfl])
    | (have t3 := T3.out; go_at_call 10; refine (take_in 2 1 3 HG.out t3 (by decide) (by decide) (by decide) (by decide) (by decide) (fun h => absurd h (by decide))).mono ?_; rintro e w4 ⟨rfl, F4, hT4, _, _⟩; have T4 := Lib.hid hT4; clear hT4 t3
       rw [show mayE ((takeL (stampL (link0 1 5) 2) 2 1 3).peers 2) 1 3 = 7 from by decide])
    | (go_at_call 10; refine (take_in 2 1 3 HG.out T2.out (by decide) (by decide) (by decide) (by decide) (by decide) (fun _ x v h => by cases h)).mono ?_; rintro e w3 ⟨rfl, F3, hT3, _, _⟩; have T3 := Lib.hid hT3; clear hT3
       rw [show mayE ((stampL (link0 1 5) 2).peers 2) 1 3 = 0 from by decide]))
  go_ret
  exact ⟨rfl, T4.out.2⟩
end Go.Proofs.YtgkinjfinijnnaaDoor
