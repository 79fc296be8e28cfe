/- Put, Ask at a table of the law's own; within, known. -/
import Derived.Test.YtacbebkaammcnaaDoorPutY
import Derived.Test.YtacbebkaammcnaaDoorAskW
set_option linter.unusedVariables false
set_option linter.unusedSimpArgs false
namespace Go.Proofs.YtacbebkaammcnaaDoor
open Go.RowKit Go.Proofs.YtacbebkaammcnaaDoorW.PrintWords Go.Proofs.Mine

theorem put_any {w0 w : World} {b : Nat} {F : Nat → Prop} {s : TSt} (x : Ent) (A : Option Addr) (cap : Nat) (h : TabIn w0 b s w F) (hr : ReadsInt w .i64 A x.mem.length x.mem) (hn : x.mem.length ≤ 1000000) (hl : s.l.length ≤ 1000000) :
    Calls Tryd.prog 10 #[.pointer (some ⟨b, 0, none⟩), x.val (.slice A x.mem.length cap)] w fun e w' => e = .returned (.tuple #[.int .i64 (putN s x), .bool (okPut s x)]) ∧ ∃ F', TabIn w0 b (putS s x) w' F' ∧ (∀ k, F' k → F k ∨ w.heap.size ≤ k) ∧ Keep F w w' := by
  cases hok : okPut s x
  · refine (put_no w w0.heap.size F b s x _ h.1 hok).mono ?_
    rintro e w' ⟨rfl, hB⟩
    refine ⟨by unfold putN; rw [hok]; rfl, F, ?_, fun k hk => .inl hk, Keep.of_below hB _⟩
    unfold putS
    rw [hok]
    exact h.below hB
  · refine (put_ok w w0.heap.size F b s x A cap h.1 hok hr hn hl).mono ?_
    rintro e w' ⟨rfl, hT⟩
    refine ⟨by unfold putN; rw [hok]; rfl, ?_⟩
    unfold putS
    rw [hok]
    exact h.step hT
theorem TabIn.keep {w0 w w' : World} {b : Nat} {F G : Nat → Prop} {s : TSt} (h : TabIn w0 b s w F) (hk : Keep G w w') (hg : ∀ k, G k → w0.heap.size ≤ k ∧ ¬ F k) : TabIn w0 b s w' F :=
  ⟨h.1.keep hk (fun j hj hG => (hg j hG).2 hj), h.2.trans (hk.to_below (by have := h.2.size; omega) (fun k hk => (hg k hk).1))⟩
def e0 (kd c q : Int) : Ent := ⟨kd, c, q, ByteArray.empty, [], 0⟩
theorem put_lit {w0 w : World} {b : Nat} {F : Nat → Prop} {s : TSt} (kd c q : Int) (h : TabIn w0 b s w F) (hl : s.l.length ≤ 1000000) :
    Calls Tryd.prog 10 #[.pointer (some ⟨b, 0, none⟩), .agg #[.int .i64 kd, .int .i64 c, .int .i64 q, .string ByteArray.empty, .slice none 0 0, .int .i64 0]] w fun e w' => e = .returned (.tuple #[.int .i64 (putN s (e0 kd c q)), .bool (okPut s (e0 kd c q))]) ∧ ∃ F', TabIn w0 b (putS s (e0 kd c q)) w' F' ∧ (∀ k, F' k → F k ∨ w.heap.size ≤ k) ∧ Keep F w w' :=
  put_any (e0 kd c q) none 0 h (ReadsInt.nil _ _) (Nat.zero_le _) hl
theorem ask_in {w0 w : World} {b : Nat} {F : Nat → Prop} {s : TSt} (c q : Int) (hg : Laid w) (h : TabIn w0 b s w F) :
    Calls Tryd.prog 11 #[.pointer (some ⟨b, 0, none⟩), .int .i64 c, .int .i64 q] w fun e w' => e = .returned (.tuple #[.int .i64 (askN s c q), .int .i64 (askE s c q)]) ∧ TabIn w0 b s w' F ∧ Below w.heap.size w w' ∧ Laid w' := by
  refine (ask_any w w0.heap.size F b s c q hg h.1).mono ?_
  rintro e w' ⟨rfl, hB⟩
  exact ⟨rfl, h.below hB, hB, hg.below hB⟩
theorem TabIn.laid {w0 w : World} {b : Nat} {F : Nat → Prop} {s : TSt} (h : TabIn w0 b s w F) (hg : Laid w0) : Laid w := hg.below h.2
theorem tmod_fix (a n : Int) (hn : 0 < n) : (if a.tmod n < 0 then a.tmod n + n else a.tmod n) = a % n := by
  have h1 := Int.tmod_add_mul_tdiv a n
  have h2 := Int.emod_add_mul_ediv a n
  rw [Int.tmod_eq_emod]
  have h3 := Int.emod_nonneg a (show n ≠ 0 by omega)
  have h4 := Int.emod_lt_of_pos a hn
  split <;> split <;> omega
set_option maxHeartbeats 400000 in
theorem within_any (a n : Int) (w : World) (hn : 0 < n) (hn2 : n ≤ 4611686018427387904) :
    Calls Tryd.prog 9 #[.int .i64 a, .int .i64 n] w fun e w' => e = .returned (.int .i64 (a % n)) ∧ w = w' := by
  have H := Lib.hid (tmod_fix a n hn)
  have h1 : -n < a.tmod n := by
    have := Int.tmod_eq_emod (a := a) (b := n)
    have h3 := Int.emod_nonneg a (show n ≠ 0 by omega)
    have h4 := Int.emod_lt_of_pos a hn
    split at this <;> omega
  have h0 : (n == 0) = false := by simp; omega
  by_cases hs : a.tmod n < 0
  · have hf : a.tmod n + n = a % n := by have := H.out; rwa [if_pos hs] at this
    have HF := Lib.hid hf
    clear hf H
    go_enter Tryd.func9, Tryd.ntmps9
    go_wp2
    go_ret
    exact ⟨by rw [HF.out]; rfl, rfl⟩
  · have hf : a.tmod n = a % n := by have := H.out; rwa [if_neg hs] at this
    have HF := Lib.hid hf
    clear hf H
    go_enter Tryd.func9, Tryd.ntmps9
    go_wp2
    go_ret
    exact ⟨by rw [HF.out]; rfl, rfl⟩
set_option maxRecDepth 100000 in
set_option maxHeartbeats 1000000 in
theorem known_any (w : World) (hg : Laid w) : Calls Tryd.prog 7 #[] w fun e w' => e = .returned (.bool true) ∧ Below w.heap.size w w' := by
  have HG := Lib.hid hg
  clear hg
  go_enter Tryd.func7, Tryd.ntmps7
  go_wp2_with (first
    | (go_at_call 8; refine (new_tab _).mono ?_; rintro e w1 ⟨rfl, hw1⟩; have T1 := Lib.hid (tab_new (Below.refl w.heap.size w)); rw [← hw1] at T1; clear hw1)
    | (have t2 := T3.out; go_at_call 11; refine (ask_in 1 1 (t2.laid HG.out) t2).mono ?_; rintro e w4 ⟨rfl, hT4, _, _⟩; have T4 := Lib.hid hT4; clear hT4 t2
       rw [show askN (putS (putS tab0 (e0 1 1 2)) (e0 1 1 1)) 1 1 = 0 from by decide, show askE (putS (putS tab0 (e0 1 1 2)) (e0 1 1 1)) 1 1 = 19 from by decide])
    | (have t2 := T2.out; go_at_call 10; refine (put_lit 1 1 1 t2 (by decide)).mono ?_; rintro e w3 ⟨rfl, F3, hT3, _, _⟩; have T3 := Lib.hid hT3; clear hT3 t2
       rw [show putN (putS tab0 (e0 1 1 2)) (e0 1 1 1) = 0 from by decide, show okPut (putS tab0 (e0 1 1 2)) (e0 1 1 1) = false from by decide])
    | (go_at_call 10; refine (put_lit 1 1 2 T1.out (by decide)).mono ?_; rintro e w2 ⟨rfl, F2, hT2, _, _⟩; have T2 := Lib.hid hT2; clear hT2
       rw [show putN tab0 (e0 1 1 2) = 1 from by decide, show okPut tab0 (e0 1 1 2) = true from by decide]))
  go_ret
  exact ⟨rfl, T4.out.2⟩
end Go.Proofs.YtacbebkaammcnaaDoor
