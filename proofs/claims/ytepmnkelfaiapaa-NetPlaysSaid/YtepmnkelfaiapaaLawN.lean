/- What the laws of nets share: a net of the call's own; known, within. -/
import Derived.Test.YtepmnkelfaiapaaDropW
set_option linter.unusedVariables false
set_option linter.unusedSimpArgs false
namespace Go.Proofs.Ytepmnkelfaiapaa
open Go.RowKit Go.Proofs.YtepmnkelfaiapaaW.PrintWords Go.Proofs.Mine

theorem tmod_fix (a n : Int) (hn : 0 < n) : (if a.tmod n < 0 then a.tmod n + n else a.tmod n) = a % n := by
  have h1 := Int.tmod_add_mul_tdiv a n
  have h2 := Int.emod_add_mul_ediv a n
  rw [Int.tmod_eq_emod]
  have h3 := Int.emod_nonneg a (show n ≠ 0 by omega)
  have h4 := Int.emod_lt_of_pos a hn
  split <;> split <;> omega
set_option maxHeartbeats 400000 in
theorem within_any (a n : Int) (w : World) (hn : 0 < n) (hn2 : n ≤ 4611686018427387904) :
    Calls Try.prog 8 #[.int .i64 a, .int .i64 n] w fun e w' => e = .returned (.int .i64 (a % n)) ∧ w = w' := by
  have H := Lib.hid (tmod_fix a n hn)
  have h1 : -n < a.tmod n := by
    have := Int.tmod_eq_emod (a := a) (b := n)
    have h3 := Int.emod_nonneg a (show n ≠ 0 by omega)
    have h4 := Int.emod_lt_of_pos a hn
    split at this <;> omega
  have h0 : (n == 0) = false := by simp; omega
  by_cases hs : a.tmod n < 0
  · have hf : a.tmod n + n = a % n := by have := H.out; rwa [if_pos hs] at this
    have HF := Lib.hid hf
    clear hf H
    go_enter Try.func8, Try.ntmps8
    go_wp2
    go_ret
    exact ⟨by rw [HF.out]; rfl, rfl⟩
  · have hf : a.tmod n = a % n := by have := H.out; rwa [if_neg hs] at this
    have HF := Lib.hid hf
    clear hf H
    go_enter Try.func8, Try.ntmps8
    go_wp2
    go_ret
    exact ⟨by rw [HF.out]; rfl, rfl⟩

/-- A net of the call's own (from w0's end on). -/
def NetIn (w0 : World) (b : Nat) (s : NSt) (w : World) (F : Nat → Prop) : Prop := NetAt w w0.heap.size F b s ∧ Below w0.heap.size w0 w
theorem NetIn.step {w0 w w' : World} {b : Nat} {F : Nat → Prop} {s s' : NSt} (h : NetIn w0 b s w F) (hs : Net' w w0.heap.size F b s' w') :
    ∃ F', NetIn w0 b s' w' F' ∧ (∀ k, F' k → F k ∨ w.heap.size ≤ k) ∧ Keep F w w' := by
  obtain ⟨F', h1, h2, h3⟩ := hs
  exact ⟨F', ⟨h1, h.2.trans (h3.to_below (by have := h.2.size; omega) (fun k hk => (h.1.2.1 k hk).1))⟩, h2, h3⟩
theorem NetIn.keep {w0 w w' : World} {b : Nat} {F G : Nat → Prop} {s : NSt} (h : NetIn w0 b s w F) (hk : Keep G w w') (hg : ∀ k, G k → w0.heap.size ≤ k ∧ ¬ F k) : NetIn w0 b s w' F :=
  ⟨h.1.keep hk (fun j hj hG => (hg j hG).2 hj), h.2.trans (hk.to_below (by have := h.2.size; omega) (fun k hk => (hg k hk).1))⟩
theorem NetIn.other {w0 w w' : World} {b : Nat} {F : Nat → Prop} {s : NSt} (h : NetIn w0 b s w F) (hk : Keep (fun _ => False) w w') : NetIn w0 b s w' F := h.keep hk (fun _ h => h.elim)
theorem NetIn.alloc {w0 w : World} {b : Nat} {F : Nat → Prop} {s : NSt} (h : NetIn w0 b s w F) (o : Obj) : NetIn w0 b s (w.alloc o) F := h.other ((Keep.refl _ w).alloc o)
theorem NetIn.drewN {w0 w : World} {b : Nat} {F : Nat → Prop} {s : NSt} (h : NetIn w0 b s w F) (n : Nat) : NetIn w0 b s (w.drewN n) F := h.other ((Keep.refl _ w).drewN n)
theorem NetIn.drew {w0 w : World} {b : Nat} {F : Nat → Prop} {s : NSt} (h : NetIn w0 b s w F) : NetIn w0 b s w.drew F := h.other ((Keep.refl _ w).drew)
def net0 : NSt := ⟨[], none, 0⟩
theorem NetIn.new {w0 w : World} (h : Below w0.heap.size w0 w) : NetIn w0 w.heap.size net0 (w.alloc (.cells #[.slice none 0 0, .map none, .int .i64 0] 52)) (fun k => k = w.heap.size) := by
  refine ⟨⟨rfl, fun k hk => by subst hk; exact ⟨h.size, by simp⟩, _, _, heap_alloc_new w _, Kd.R_nil _ _ _ _ _, rfl, fun k hk => by simp [Value.mapBlock] at hk⟩, h.alloc h.size _⟩
/-- A row of messages that lies in a block of its own. -/
theorem lit_msgs (W : World) (ms : List Pm) (n : Nat) (hn : ms.length = n) (hl : n ≤ 9223372036854775807) (cs : Array Value) (hcs : cs = (ms.flatMap Pm.cells).toArray) : msgK.C (W.alloc (.cells cs 32)) (some ⟨W.heap.size, 0, none⟩) n ms := by
  refine ⟨hn, hl, fun _ => ⟨_, rfl, fun j p hp => ⟨p.cells, rfl, rfl, fun i u hu => ?_⟩⟩⟩
  have e : (⟨W.heap.size, 0, none⟩ : Addr).add (j * 13 + i) = ⟨W.heap.size, j * 13 + i, none⟩ := add_plain _ _
  show (W.alloc _).cell? ((⟨W.heap.size, 0, none⟩ : Addr).add (j * 13 + i)) = some u
  rw [e, cell_of_row (W.alloc (.cells cs 32)) W.heap.size (j * 13 + i) cs 32 (0, 0) (heap_alloc_new W _), hcs]
  have hg := flat_get (enc := Pm.cells) (n := 13) (fun _ => rfl) ms j p hp
  have hi : i < 13 := by have := (List.getElem?_eq_some_iff.1 hu).1; simpa [Pm.cells] using this
  have : (((ms.flatMap Pm.cells).drop (j * 13)).take 13)[i]? = some u := by rw [hg]; exact hu
  rw [List.getElem?_take_of_lt hi, List.getElem?_drop] at this
  simpa using this
set_option maxRecDepth 100000 in
set_option maxHeartbeats 1000000 in
theorem known_any (w : World) : Calls Try.prog 7 #[] w fun e w' => e = .returned (.bool true) ∧ Below w.heap.size w w' := by
  go_enter Try.func7, Try.ntmps7
  go_wp2_with (go_at_call 9; refine (new_any _).mono ?_; rintro e w1 ⟨rfl, hw1⟩; have N1 := Lib.hid (NetIn.new (Below.refl w.heap.size w)); rw [← hw1] at N1; have hz : w.heap.size < w1.heap.size := (by rw [hw1]; simp); clear hw1)
  go_wp2_with fail
  have hC := lit_msgs w1 [⟨0, 0, 1, 0⟩, ⟨0, 0, 2, 0⟩] 2 rfl (by omega) _ rfl
  refine (send_any _ w.heap.size _ w.heap.size net0 (some ⟨w1.heap.size, 0, none⟩) 2 [⟨0, 0, 1, 0⟩, ⟨0, 0, 2, 0⟩] (N1.out.alloc _).1 hC (fun ad h1 h2 => by cases h1; simp at h2; omega) (by decide) (by decide) (by decide)).mono ?_
  rintro e w2 ⟨rfl, hN2⟩
  obtain ⟨F2, hN2, _, _⟩ := (N1.out.alloc _).step hN2
  have N2 := Lib.hid hN2
  clear hN2 hC N1
  go_wp2_with fail
  refine (deliver_any _ w.heap.size F2 w.heap.size _ 1 N2.out.1 (by decide)).mono ?_
  rintro e w3 ⟨rfl, hN3⟩
  obtain ⟨F3, hN3, _, _⟩ := N2.out.step hN3
  have hgv : gotV (sendL net0 [⟨0, 0, 1, 0⟩, ⟨0, 0, 2, 0⟩]) 1 = .tuple #[.agg #[.int .i64 0, .int .i64 0, .int .i64 0, .int .i64 2, .int .i64 0, .int .i64 0, .int .i64 0, .int .i64 0, .bool false, .slice none 0 0, .slice none 0 0, .slice none 0 0, .slice none 0 0], .int .i64 0] := rfl
  rw [hgv]
  have N3 := Lib.hid hN3
  have hlen : (dels (sendL net0 [⟨0, 0, 1, 0⟩, ⟨0, 0, 2, 0⟩]) 1).l.length = 1 := rfl
  clear hN3 N2 hgv
  generalize dels (sendL net0 [⟨0, 0, 1, 0⟩, ⟨0, 0, 2, 0⟩]) 1 = s3 at *
  go_wp2_with (go_at_call 11; refine (len_any _ w.heap.size F3 w.heap.size s3 (N3.out.alloc _).1).mono ?_; rintro e w4 ⟨rfl, rfl⟩; rw [hlen])
  go_ret
  exact ⟨rfl, (N3.out.alloc _).2⟩
end Go.Proofs.Ytepmnkelfaiapaa
