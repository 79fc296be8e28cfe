/- The walks of a tape's inner functions. -/
import Derived.Test.YtfnnjgbldojigaaDoorTapeP
set_option linter.unusedVariables false
set_option linter.unusedSimpArgs false
namespace Go.Proofs.YtfnnjgbldojigaaDoor
open Go.RowKit Go.Proofs.YtfnnjgbldojigaaDoorW.PrintWords Go.Proofs.Mine

theorem set1 (w : World) (b i : Nat) (u : Value) : Keep (fun k => k = b) w (w.setCell ⟨b, i, none⟩ u) := (Keep.refl _ _).setCell _ _ (.inl rfl)
theorem set2 (w : World) (b i j : Nat) (u v : Value) : Keep (fun k => k = b) w ((w.setCell ⟨b, i, none⟩ u).setCell ⟨b, j, none⟩ v) := (set1 w b i u).setCell _ _ (.inl rfl)
theorem set3 (w : World) (b i j k : Nat) (u v x : Value) : Keep (fun k => k = b) w (((w.setCell ⟨b, i, none⟩ u).setCell ⟨b, j, none⟩ v).setCell ⟨b, k, none⟩ x) := (set2 w b i j u v).setCell _ _ (.inl rfl)
def ErrT (w : World) (ev : Value) (e : Int) : Prop :=
  (e = 0 ∧ ev = .nilIface) ∨ (e ≠ 0 ∧ ∃ b u, ev = .iface 99 (.pointer (some ⟨b, 0, none⟩)) ∧ w.heap[b]? = some (.cells #[u, .iface 25 (.int .i64 e)] 104 (0, 0)))
theorem ErrT.below {w w1 : World} {ev : Value} {e : Int} (h : ErrT w ev e) (hB : Below w.heap.size w w1) : ErrT w1 ev e := by
  rcases h with h | ⟨h0, b, u, h1, h2⟩
  · exact .inl h
  · exact .inr ⟨h0, b, u, h1, blk_below h2 hB⟩
theorem ErrT.keep {w w1 : World} {F : Nat → Prop} {ev : Value} {e : Int} (h : ErrT w ev e) (k : Keep F w w1) (hn : ∀ j, F j → ∀ C, w.heap[j]? ≠ some (.cells C 104 (0, 0))) : ErrT w1 ev e := by
  rcases h with h | ⟨h0, b, u, h1, h2⟩
  · exact .inl h
  · exact .inr ⟨h0, b, u, h1, k.blk h2 (fun hf => hn b hf _ h2)⟩
theorem ErrV.t {w : World} {ev : Value} {e : Int} (h : ErrV w ev e) : ErrT w ev e := by
  rcases h with h | ⟨h0, b, ps, h1, ⟨A, c, h2, _, _⟩, h3⟩
  · exact .inl h
  · exact .inr ⟨h0, b, _, h1, h2⟩
set_option maxRecDepth 100000 in
set_option maxHeartbeats 1000000 in
theorem gone_any (s : ByteArray) (w : World) : Calls Tryd.prog 78 #[.string s] w fun r w' => ∃ ev, r = .returned ev ∧ ErrV w' ev 13 ∧ Below w.heap.size w w' := by
  go_enter Tryd.func78, Tryd.ntmps78
  go_wp2_with (go_at_call 61; refine (new_any s 13 w (by decide)).mono ?_; rintro r w1 ⟨b2, rfl, hA, hB⟩; have HA := Lib.hid hA; have HB := Lib.hid hB; clear hA hB)
  go_ret
  exact ⟨_, rfl, .inr ⟨by decide, _, _, rfl, HA.out, show 1 < 16 by decide⟩, HB.out⟩
theorem eqlNil (m : Int) (w : World) : (binOp .eql 82 .nilIface (.iface 25 (.int .i64 m))).run Tryd.prog w = .ok (.bool false) w := by
  have h : ∀ n, (Op.equalIn (n + 1) 82 .nilIface (.iface 25 (.int .i64 m))).run Tryd.prog w = .ok false w := by
    intro n
    simp [Op.equalIn, run_underlying Tryd.underlying82]
  simp only [binOp]
  simp [Op.equal, Op.maxDepth, h 9999]
set_option maxRecDepth 100000 in
set_option maxHeartbeats 1000000 in
theorem is_nil (m : Int) (w : World) : Calls Tryd.prog 58 #[.nilIface, .iface 25 (.int .i64 m)] w fun r w' => r = .returned (.bool false) ∧ w = w' := by
  have h1 := eqlNil m
  go_enter Tryd.func58, Tryd.ntmps58
  go_wp2
  go_ret
  exact ⟨rfl, rfl⟩
set_option maxRecDepth 100000 in
set_option maxHeartbeats 1000000 in
theorem told_any (ev : Value) (e : Int) (w : World) (hg0 : Laid w) (h : ErrT w ev e) : Calls Tryd.prog 63 #[ev] w fun r w' => r = .returned (.int .i64 e) ∧ Below w.heap.size w w' := by
  have HG := Lib.hid hg0
  clear hg0
  rcases h with ⟨rfl, rfl⟩ | ⟨h0, b, u, rfl, hbk⟩
  · go_enter Tryd.func63, Tryd.ntmps63
    go_wp2_with (first
      | (go_at_call 58; refine (is_nil 13 _).mono ?_; rintro r w1 ⟨rfl, rfl⟩)
      | (go_at_call 54; refine (kind_nil _).mono ?_; rintro r w2 ⟨rfl, rfl⟩))
    go_ret
    exact ⟨rfl, Below.refl _ _⟩
  · have HC := Lib.hid (show w.cell? ⟨b, 1, none⟩ = some (.iface 25 (.int .i64 e)) from blk_cell hbk 1)
    clear hbk
    by_cases h13 : e = 13
    · subst h13
      go_enter Tryd.func63, Tryd.ntmps63
      go_wp2_with (go_at_call 58; refine (is_at_num b 13 13 w HC.out).mono ?_; rintro r w1 ⟨rfl, rfl⟩; rw [show ((13 : Int) == 13) = true from rfl])
      go_ret
      exact ⟨rfl, Below.refl _ _⟩
    · have hne : (e == 13) = false := by simp [h13]
      go_enter Tryd.func63, Tryd.ntmps63
      go_wp2_with (first
        | (go_at_call 58; refine (is_at_num b e 13 w HC.out).mono ?_; rintro r w1 ⟨rfl, rfl⟩; rw [hne])
        | (go_at_call 54; refine (kind_at_num b e w HG.out HC.out h0).mono ?_; rintro r w2 ⟨rfl, hB⟩; have HB := Lib.hid hB; clear hB))
      go_ret
      exact ⟨rfl, HB.out⟩
theorem wrap_any (s : ByteArray) (ev : Value) (e : Int) (w : World) (hg : Laid w) (h : ErrV w ev e) : Calls Tryd.prog 41 #[.string s, ev] w fun r w' => ∃ ev', r = .returned ev' ∧ ErrT w' ev' e ∧ Below w.heap.size w w' := by
  rcases h with ⟨rfl, rfl⟩ | ⟨h0, b, ps, rfl, h2, h3⟩
  · refine (wrap_nil s w).mono ?_
    rintro r w' ⟨rfl, rfl⟩
    exact ⟨_, rfl, .inl ⟨rfl, rfl⟩, Below.refl _ _⟩
  · refine (wrap_more s b ps (.num e) w hg h2 h3).mono ?_
    rintro r w' ⟨b', rfl, ⟨A, c, hA, _, _⟩, hB⟩
    exact ⟨_, rfl, .inr ⟨h0, b', _, rfl, hA⟩, hB⟩
set_option maxRecDepth 100000 in
set_option maxHeartbeats 1000000 in
theorem may_any (n : Int) (w : World) (base b : Nat) (F : Nat → Prop) (s : TS) (h : TapeAt w base F b s) :
    Calls Tryd.prog 62 #[.pointer (some ⟨b, 0, none⟩), .int .i64 n] w fun r w' => ∃ ev, r = .returned ev ∧ ErrV w' ev (mayE s n) ∧ Below w.heap.size w w' := by
  obtain ⟨A, c, ho⟩ := h.open_
  have q0 : w.cell? ⟨b, 0, none⟩ = some (.int .i64 s.room) := blk_cell ho.blk 0
  have q4 : w.cell? ⟨b, 4, none⟩ = some (.bool s.dead) := blk_cell ho.blk 4
  clear h ho
  unfold mayE
  obtain ⟨room, l, synced, left, dead, ops⟩ := s
  dsimp only at q0 q4 ⊢
  cases dead
  · rw [if_neg (by decide)]
    cases hd : decide (room < n)
    · rw [if_neg (of_decide_eq_false hd)]
      go_enter Tryd.func62, Tryd.ntmps62
      go_wp2
      go_ret
      exact ⟨_, rfl, .inl ⟨rfl, rfl⟩, Below.refl _ _⟩
    · rw [if_pos (of_decide_eq_true hd)]
      go_enter Tryd.func62, Tryd.ntmps62
      go_wp2_with (go_at_call 61; refine (new_any _ 14 w (by decide)).mono ?_; rintro r w1 ⟨b2, rfl, hA, hB⟩; have HA := Lib.hid hA; have HB := Lib.hid hB; clear hA hB)
      go_ret
      exact ⟨_, rfl, .inr ⟨by decide, _, _, rfl, HA.out, by show 1 < 16; decide⟩, HB.out⟩
  · rw [if_pos rfl]
    go_enter Tryd.func62, Tryd.ntmps62
    go_wp2_with (go_at_call 78; refine (gone_any _ w).mono ?_; rintro r w1 ⟨ev, rfl, hE, hB⟩; have HE := Lib.hid hE; have HB := Lib.hid hB; clear hE hB)
    go_ret
    exact ⟨_, rfl, HE.out, HB.out⟩
set_option maxRecDepth 100000 in
set_option maxHeartbeats 2000000 in
theorem spend_any (w : World) (base b : Nat) (F : Nat → Prop) (s : TS) (hk : TOk s) (h : TapeAt w base F b s) :
    Calls Tryd.prog 64 #[.pointer (some ⟨b, 0, none⟩)] w fun r w' => ∃ ev, r = .returned ev ∧ ErrV w' ev (spendE s) ∧ Tape' w base F b (spendS s) w' := by
  obtain ⟨A, c, ho⟩ := h.open_
  have q3 : w.cell? ⟨b, 3, none⟩ = some (.int .i64 s.left) := blk_cell ho.blk 3
  have q4 : w.cell? ⟨b, 4, none⟩ = some (.bool s.dead) := blk_cell ho.blk 4
  have q5 : w.cell? ⟨b, 5, none⟩ = some (.int .i64 s.ops) := blk_cell ho.blk 5
  have f3 : w.frozen? ⟨b, 3, none⟩ = false := blk_frozen ho.blk 3
  have f4 : w.frozen? ⟨b, 4, none⟩ = false := blk_frozen ho.blk 4
  have f5 : w.frozen? ⟨b, 5, none⟩ = false := blk_frozen ho.blk 5
  have hl0 := hk.left0
  have hl1 := hk.left1
  have ho0 := hk.ops0
  have ho1 := hk.ops1
  have HO := Lib.hid ho
  have HH := Lib.hid h
  clear h ho hk
  obtain ⟨room, l, synced, left, dead, ops⟩ := s
  dsimp only at q3 q4 q5 hl0 hl1 ho0 ho1
  unfold spendS spendE
  dsimp only
  cases hd : decide (0 < left)
  · rw [if_neg (of_decide_eq_false hd), if_neg (of_decide_eq_false hd)]
    cases dead
    · rw [if_neg (by decide), if_neg (by decide)]
      go_enter Tryd.func64, Tryd.ntmps64
      go_wp2
      go_ret
      exact ⟨_, rfl, .inl ⟨rfl, rfl⟩, tape_set HO.out (set1 w b 5 _) rfl (blk_set HO.out.blk 5 _)⟩
    · rw [if_pos rfl, if_pos rfl]
      go_enter Tryd.func64, Tryd.ntmps64
      go_wp2_with (go_at_call 78; refine (gone_any _ w).mono ?_; rintro r w1 ⟨ev, rfl, hE, hB⟩; have HE := Lib.hid hE; have HB := Lib.hid hB; clear hE hB)
      go_ret
      exact ⟨_, rfl, HE.out, (Tape'.refl HH.out).below HB.out⟩
  · rw [if_pos (of_decide_eq_true hd), if_pos (of_decide_eq_true hd)]
    by_cases h1 : left = 1
    · subst h1
      rw [if_pos rfl, if_pos rfl]
      go_enter Tryd.func64, Tryd.ntmps64
      go_wp2_with (go_at_call 78; refine (gone_any _ _).mono ?_; rintro r w1 ⟨ev, rfl, hE, hB⟩; have HE := Lib.hid hE; have HB := Lib.hid hB; clear hE hB)
      go_ret
      exact ⟨_, rfl, HE.out, (tape_set (s1 := ⟨room, l, synced, 0, true, ops⟩) HO.out (set2 w b 3 4 _ _) rfl (blk_set (blk_set HO.out.blk 3 _) 4 _)).below HB.out⟩
    · rw [if_neg h1, if_neg h1]
      have h2 : (left - 1 == 0) = false := by simp; omega
      go_enter Tryd.func64, Tryd.ntmps64
      go_wp2
      go_ret
      exact ⟨_, rfl, .inl ⟨rfl, rfl⟩, tape_set (s1 := ⟨room, l, synced, left - 1, false, ops + 1⟩) HO.out (set3 w b 3 4 5 _ _ _) rfl (blk_set (blk_set (blk_set HO.out.blk 3 _) 4 _) 5 _)⟩
end Go.Proofs.YtfnnjgbldojigaaDoor
