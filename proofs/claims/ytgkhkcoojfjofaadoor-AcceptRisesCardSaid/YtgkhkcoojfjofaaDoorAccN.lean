/- Acceptors without votes: their calls; the example. -/
import Derived.Test.YtgkhkcoojfjofaaDoorAccK
set_option linter.unusedVariables false
set_option linter.unusedSimpArgs false
namespace Go.Proofs.YtgkhkcoojfjofaaDoor
open Go.RowKit Go.Shelf Go.Proofs.YtgkhkcoojfjofaaDoorW.PrintWords Go.Proofs.Mine

/-- The step of a loop over a map that the loop does not write. -/
theorem wpList_next_at {P : Program} {ops : Array Oper} {rest : List Oper} {o : Oper} {a : Act} {Q : Exit → Act → World → Prop} (hg : o.guard = none) (it : Operand) (hop : o.op = Op.next it false) (w : World) (r bm since c0 : Nat) (seen : Array Nat) (es : Array MapEntry) (clock : Nat)
    (hit : a.eval it = .pointer (some ⟨r, 0, none⟩)) (hr : w.heap[r]? = some (.mapIter (some bm) since seen c0)) (hb : w.heap[bm]? = some (.map es clock)) (hold : ∀ x ∈ es.toList, x.born < since) (hsc : since ≤ c0)
    (hDone : (leftOf es seen).size = 0 → wpList P ops Q rest (a.put o.dst (.tuple #[.bool false])) w)
    (hMore : ∀ e ∈ (leftOf es seen).toList, ∀ w1 : World, Keep (fun k => k = r) w w1 → w1.heap[r]? = some (.mapIter (some bm) since (seen.push e.born) clock) → w1.heap.size = w.heap.size → wpList P ops Q rest (a.put o.dst (.tuple #[.bool true, e.key, e.val])) w1) :
    wpList P ops Q (o :: rest) a w := by
  refine wpList_plain hg fun K' hK' => ?_
  unfold Oper.wp
  have hlt := blk_lt hr
  rcases run_next_at (P := P) w o.type r bm since c0 seen es clock hr hb hold hsc with ⟨h0, hrun⟩ | ⟨e, he, w1, hal, hrun⟩
  · simp [execOp, hop, hit, hrun, Result.andThen]
    exact hK' _ _ (hDone h0)
  · simp [execOp, hop, hit, hrun, Result.andThen]
    have h1 : w1.heap = w.heap := by rcases hal with rfl | rfl <;> rfl
    have hr1 : w1.heap[r]? = some (.mapIter (some bm) since seen c0) := by rw [h1]; exact hr
    have hk1 : Keep (fun k => k = r) w w1 := by
      rcases hal with rfl | rfl
      · exact Keep.refl _ _
      · exact (Keep.refl _ _).drew
    refine hK' _ _ (hMore e he _ (hk1.trans (set_keep (o' := .mapIter (some bm) since (seen.push e.born) clock) hr1) (fun k h => .inl h)) ?_ ?_)
    · exact (MapKept.heap_set hr1).1
    · show (w1.heap.setIfInBounds r _).size = _
      rw [Array.size_setIfInBounds, h1]
set_option maxRecDepth 100000 in
set_option maxHeartbeats 2000000 in
theorem votes_empty (b m : Nat) (p : Int) (w : World) (h : AccE w b m p) : Calls Tryd.prog 15 #[.pointer (some ⟨b, 0, none⟩)] w fun r w' => r = .returned (.slice none 0 0) ∧ Below w.heap.size w w' := by
  have q1 : w.cell? ⟨b, 1, none⟩ = some (.map (some m)) := blk_cell h.1 1
  have hrange : (Instr.range 64 (.map (some m))).run Tryd.prog w = .ok (.pointer (some ⟨w.heap.size, 0, none⟩)) (w.alloc (.mapIter (some m) 0 #[] 0)) := run_range_map w 64 3 41 m #[] 0 Tryd.underlying64 h.2
  have HIT := Lib.hid (heap_alloc_new w (.mapIter (some m) 0 #[] 0))
  have HB := Lib.hid ((Below.refl _ w).alloc (Nat.le_refl _) (.mapIter (some m) 0 #[] 0))
  have HM := Lib.hid h.2
  have hml : m < w.heap.size := (Array.getElem?_eq_some_iff.1 h.2).1
  clear h
  go_enter Tryd.func15, Tryd.ntmps15
  go_wp2_with fail
  generalize hr : w.heap.size = r at *
  go_loopw [3] (fun u wr => u = .slice none 0 0 ∧ wr = w.alloc (.mapIter (some m) 0 #[] 0)) (fun _ _ => 0)
  case atStart => exact ⟨rfl, rfl⟩
  case round =>
    obtain ⟨rfl, rfl⟩ := hrel
    go_wp2_with (at_next; refine wpList_next_at rfl _ rfl (w.alloc (.mapIter (some m) 0 #[] 0)) r m 0 0 #[] #[] 0 (by rfl) HIT.out ?_ (by simp) (Nat.le_refl _) ?_ ?_)
    · exact (Below.heap_alloc w _ m (by omega)).trans HM.out
    · intro hdone
      go_wp2_with (go_at_call 29; refine (sort_short 0 (by decide) none 0 _ _).mono ?_; rintro r' w' ⟨rfl, rfl⟩)
      go_ret
      exact ⟨rfl, by rw [hr]; exact HB.out⟩
    · intro e he
      exact absurd he (by simp [leftOf])
set_option maxRecDepth 100000 in
set_option maxHeartbeats 2000000 in
theorem idx_none (f : Value) (w : World) : Calls Tryd.prog 36 #[.slice none 0 0, f] w fun r w' => r = .returned (.int .i64 (-1)) ∧ w = w' := by
  go_enter Tryd.func36, Tryd.ntmps36
  go_wp2_with fail
  go_loopw [5, 8] (fun _ iv wr => iv = .int .i64 0 ∧ wr = w) (fun _ _ _ => 0)
  case atStart => exact ⟨rfl, rfl⟩
  case round =>
    obtain ⟨rfl, rfl⟩ := hrel
    go_wp2_with fail
    go_ret
    exact ⟨rfl, rfl⟩
set_option maxRecDepth 100000 in
set_option maxHeartbeats 2000000 in
theorem del_none (f : Value) (w : World) : Calls Tryd.prog 27 #[.slice none 0 0, f] w fun r w' => r = .returned (.slice none 0 0) ∧ w = w' := by
  go_enter Tryd.func27, Tryd.ntmps27
  go_wp2_with (go_at_call 36; refine (idx_none _ _).mono ?_; rintro r w' ⟨rfl, rfl⟩)
  go_ret
  exact ⟨rfl, rfl⟩
set_option maxRecDepth 100000 in
set_option maxHeartbeats 2000000 in
theorem prepare_empty (b m : Nat) (p n fr : Int) (w : World) (h : AccE w b m p) (hbm : m ≠ b) (h1 : 1 ≤ n) (h2 : p ≤ n) : Calls Tryd.prog 13 #[.pointer (some ⟨b, 0, none⟩), .int .i64 n, .int .i64 fr] w fun r w' => r = .returned (.tuple #[.slice none 0 0, .int .i64 0]) ∧ AccE w' b m n ∧ Keep (fun k => k = b) w w' := by
  have HE := Lib.hid h
  obtain ⟨w1, hw1⟩ : ∃ z, z = w.alloc (.cells #[.int .i64 fr] 3) := ⟨_, rfl⟩
  have hB1 : Below w.heap.size w w1 := by rw [hw1]; exact (Below.refl _ w).alloc (Nat.le_refl _) _
  have hE1 := h.below hB1
  have HE1 := Lib.hid hE1
  have HB1 := Lib.hid hB1
  obtain ⟨w2, hw2⟩ : ∃ z, z = w1.setCell ⟨b, 0, none⟩ (.int .i64 n) := ⟨_, rfl⟩
  have HE2 := Lib.hid (show AccE w2 b m n from by rw [hw2]; exact ⟨blk_set hE1.1 0 _, (Below.heap_setCell w1 ⟨b, 0, none⟩ _ m hbm).trans hE1.2⟩)
  have HK2 := Lib.hid (show Keep (fun k => k = b) w w2 from by rw [hw2]; exact (Keep.of_below hB1 (fun k => k = b)).setCell ⟨b, 0, none⟩ _ (.inl rfl))
  have HPR := Lib.hid (promise_ok b 0 n p (.map (some m)) w1 hE1.1 h1 h2)
  rw [hw1] at HPR
  have HW1 := Lib.hid hw1
  have HW2 := Lib.hid hw2
  clear h hE1 hB1 hw1 hw2
  go_enter Tryd.func13, Tryd.ntmps13
  go_wp2_with (first
    | (go_at_call 27; refine (del_none _ _).mono ?_; rintro r w4 ⟨rfl, rfl⟩)
    | (go_at_call 15; refine (votes_empty b m n w2 HE2.out).mono ?_; rintro r w3 ⟨rfl, hB3⟩; have HB3 := Lib.hid hB3; clear hB3)
    | (go_at_call 24; refine HPR.out.mono ?_; rintro r w2' ⟨rfl, hw⟩; rw [← HW1.out, ← HW2.out] at hw; have hw' := hw.symm; subst hw'))
  go_ret2
  exact ⟨rfl, HE2.out.below HB3.out, HK2.out.trans (Keep.of_below HB3.out (fun _ => False)) (fun _ h => h.elim)⟩
set_option maxRecDepth 100000 in
set_option maxHeartbeats 2000000 in
theorem accept_stale (b : Nat) (n q sl : Int) (e : Value) (a0 a1 a2 a5 : Int) (a3 : ByteArray) (a4 : Value) (w : World) (hb : w.cell? ⟨b, 0, none⟩ = some (.int .i64 q)) (h1 : 1 ≤ n) (h2 : n < q) (hs1 : 1 ≤ sl) (hs2 : sl ≤ 64) : Calls Tryd.prog 12 #[.pointer (some ⟨b, 0, none⟩), .int .i64 n, .int .i64 sl, .agg #[.int .i64 a0, .int .i64 a1, .int .i64 a2, .string a3, a4, .int .i64 a5]] w fun r w' => r = .returned (.int .i64 19) ∧ Below w.heap.size w w' := by
  have HQ := Lib.hid hb
  have hs3 : ¬ sl < 1 := by omega
  have hs4 : ¬ 64 < sl := by omega
  clear hb
  go_enter Tryd.func12, Tryd.ntmps12
  go_wp2_with (first
    | (go_at_call 25; refine (told_stale b1 w2 HC.out).mono ?_; rintro r w3 ⟨rfl, rfl⟩)
    | (go_at_call 24
       generalize hW : w.alloc _ = W
       have hB : Below w.heap.size w W := by rw [← hW]; exact (Below.refl _ w).alloc (Nat.le_refl _) _
       refine (promise_stale b n q W (pw_cell_below hB HQ.out) h1 h2).mono ?_
       rintro r w2 ⟨b1, rfl, hc, hB2⟩
       have HC := Lib.hid hc
       have HB2 := Lib.hid (hB.trans (hB2.mono hB.size))
       clear hc hB2 hB hW))
  go_ret
  exact ⟨rfl, HB2.out⟩
set_option maxRecDepth 100000 in
set_option maxHeartbeats 2000000 in
theorem new_acc (w : World) : Calls Tryd.prog 10 #[] w fun r w' => ∃ b m, r = .returned (.pointer (some ⟨b, 0, none⟩)) ∧ AccE w' b m 0 ∧ m ≠ b ∧ w.heap.size ≤ b ∧ Below w.heap.size w w' := by
  have hmm := @run_makeMap Tryd.prog
  go_enter Tryd.func10, Tryd.ntmps10
  go_wp2
  go_ret
  refine ⟨w.heap.size + 1, w.heap.size, rfl, ⟨?_, ?_⟩, by omega, by omega, ?_⟩
  · have := heap_alloc_new (w.alloc (.map #[] 0)) (.cells #[.int .i64 0, .map (some w.heap.size)] 66)
    simpa using this
  · rw [Below.heap_alloc _ _ _ (by simp)]
    exact heap_alloc_new w _
  · exact ((Below.refl _ w).alloc (Nat.le_refl _) _).alloc (by simp) _
set_option maxRecDepth 100000 in
set_option maxHeartbeats 2000000 in
theorem promised_any (b : Nat) (p : Int) (w : World) (hb : w.cell? ⟨b, 0, none⟩ = some (.int .i64 p)) : Calls Tryd.prog 14 #[.pointer (some ⟨b, 0, none⟩)] w fun r w' => r = .returned (.int .i64 p) ∧ w = w' := by
  go_enter Tryd.func14, Tryd.ntmps14
  go_wp2
  go_ret
  exact ⟨rfl, rfl⟩
set_option maxRecDepth 100000 in
set_option maxHeartbeats 2000000 in
theorem known_any (w : World) : Calls Tryd.prog 9 #[] w fun r w' => r = .returned (.bool true) ∧ Below w.heap.size w w' := by
  go_enter Tryd.func9, Tryd.ntmps9
  go_wp2_with (first
    | (go_at_call 14; refine (promised_any b 5 w3 (pw_cell_below HB3.out HC2.out)).mono ?_; rintro r w4 ⟨rfl, rfl⟩)
    | (go_at_call 12; refine (accept_stale b 4 5 1 .nilIface 0 0 0 0 ByteArray.empty (.slice none 0 0) w2 HC2.out (by decide) (by decide) (by decide) (by decide)).mono ?_; rintro r w3 ⟨rfl, hB3⟩; have HB3 := Lib.hid hB3; clear hB3)
    | (go_at_call 13; refine (prepare_empty b m 0 5 1 w1 HE1.out hmb (by decide) (by decide)).mono ?_; rintro r w2 ⟨rfl, hE2, hK2⟩
       have HC2 := Lib.hid (show w2.cell? ⟨b, 0, none⟩ = some (.int .i64 5) from blk_cell hE2.1 0)
       have HB2 := Lib.hid (HB1.out.trans (hK2.to_below HB1.out.size (fun k hk => hk ▸ hbw)))
       clear hE2 hK2)
    | (go_at_call 10; refine (new_acc w).mono ?_; rintro r w1 ⟨b, m, rfl, hE1, hmb, hbw, hB1⟩; have HE1 := Lib.hid hE1; have HB1 := Lib.hid hB1; clear hE1 hB1))
  go_ret
  exact ⟨rfl, HB2.out.trans (HB3.out.mono HB2.out.size)⟩
end Go.Proofs.YtgkhkcoojfjofaaDoor
