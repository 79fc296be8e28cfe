/- The reference's tape: what it is in memory; its functions walked. -/
import Derived.Test.YtjjlojaaefipmaaDoorFrontsL
set_option linter.unusedVariables false
set_option linter.unusedSimpArgs false
namespace Go.Proofs.YtjjlojaaefipmaaDoor
open Go.RowKit Go.Proofs.YtjjlojaaefipmaaDoorW.PrintWords Go.Proofs.Mine

def RefAt (w : World) (base : Nat) (F : Nat → Prop) (b : Nat) (s : TS) : Prop :=
  F b ∧ (∀ k, F k → base ≤ k ∧ k < w.heap.size) ∧ ∃ v, w.heap[b]? = some (.cells #[.int .i64 s.room, .int .i64 (s.synced : Int), v, .int .i64 s.left, .int .i64 s.ops, .bool s.dead] 49 (0, 0)) ∧ Buf .u8 5 w base v s.l ∧ (∀ k, v.ownBlock = some k → F k ∧ k ≠ b)
def Ref' (w : World) (base : Nat) (F : Nat → Prop) (b : Nat) (s : TS) (w' : World) : Prop :=
  ∃ F', RefAt w' base F' b s ∧ (∀ k, F' k → F k ∨ w.heap.size ≤ k) ∧ Keep F w w'
theorem RefAt.keep {w w1 : World} {base b : Nat} {F G : Nat → Prop} {s : TS} (h : RefAt w base F b s) (k : Keep G w w1) (hg : ∀ j, F j → ¬ G j) : RefAt w1 base F b s := by
  obtain ⟨h1, h2, v, hb, hR, h3⟩ := h
  exact ⟨h1, fun j hj => ⟨(h2 j hj).1, Nat.lt_of_lt_of_le (h2 j hj).2 k.size⟩, v, k.blk hb (hg b h1), hR.keep k (fun j hj => hg j (h3 j hj).1), h3⟩
theorem RefAt.below {w w1 : World} {base b : Nat} {F : Nat → Prop} {s : TS} (h : RefAt w base F b s) (hB : Below w.heap.size w w1) : RefAt w1 base F b s :=
  h.keep (Keep.of_below hB (fun _ => False)) (fun _ _ h => h)
theorem Ref'.after {w W w2 : World} {base b : Nat} {F F1 : Nat → Prop} {s : TS} (hF1 : ∀ k, F1 k → F k ∨ w.heap.size ≤ k) (hK : Keep F w W) (h : Ref' W base F1 b s w2) : Ref' w base F b s w2 := by
  obtain ⟨F', h1, h2, h3⟩ := h
  refine ⟨F', h1, fun k hk => ?_, hK.trans h3 hF1⟩
  rcases h2 k hk with h | h
  · exact hF1 k h
  · exact .inr (Nat.le_trans hK.size h)
theorem Ref'.refl {w : World} {base b : Nat} {F : Nat → Prop} {s : TS} (h : RefAt w base F b s) : Ref' w base F b s w := ⟨F, h, fun _ h => .inl h, Keep.refl _ _⟩
structure ROpen (w : World) (base : Nat) (F : Nat → Prop) (b : Nat) (s : TS) (A : Option Addr) (c : Nat) : Prop where
  inF : F b
  lt : ∀ k, F k → base ≤ k ∧ k < w.heap.size
  blk : w.heap[b]? = some (.cells #[.int .i64 s.room, .int .i64 (s.synced : Int), .slice A s.l.length c, .int .i64 s.left, .int .i64 s.ops, .bool s.dead] 49 (0, 0))
  buf : Buf .u8 5 w base (.slice A s.l.length c) s.l
  own : ∀ k, (Value.slice A s.l.length c).ownBlock = some k → F k ∧ k ≠ b
theorem RefAt.open_ {w : World} {base b : Nat} {F : Nat → Prop} {s : TS} (h : RefAt w base F b s) : ∃ A c, ROpen w base F b s A c := by
  obtain ⟨h1, h2, v, h3, h4, h5⟩ := h
  obtain ⟨A, c, rfl⟩ := h4.slice
  exact ⟨A, c, h1, h2, h3, h4, h5⟩
theorem ref_set {w w1 : World} {base b : Nat} {F : Nat → Prop} {s s1 : TS} {A : Option Addr} {c : Nat} (h : ROpen w base F b s A c) (hK : Keep (fun k => k = b) w w1) (hl : s1.l = s.l)
    (hb : w1.heap[b]? = some (.cells #[.int .i64 s1.room, .int .i64 (s1.synced : Int), .slice A s.l.length c, .int .i64 s1.left, .int .i64 s1.ops, .bool s1.dead] 49 (0, 0))) : Ref' w base F b s1 w1 := by
  refine ⟨F, ⟨h.inF, fun k hk => ⟨(h.lt k hk).1, Nat.lt_of_lt_of_le (h.lt k hk).2 hK.size⟩, .slice A s.l.length c, hb, ?_, h.own⟩, fun _ h => .inl h, hK.mono (fun k e _ => by subst e; exact h.inF)⟩
  rw [hl]
  exact h.buf.keep hK (fun j hj e => (h.own j hj).2 e)
theorem ref_sync {w : World} {base b : Nat} {F : Nat → Prop} {s : TS} {A : Option Addr} {c : Nat} (h : ROpen w base F b s A c) (n : Nat) : Ref' w base F b { s with synced := n } (w.setCell ⟨b, 1, none⟩ (.int .i64 (n : Int))) :=
  ref_set h (set1 w b 1 _) rfl (blk_set h.blk 1 _)
/-- A new row is put. -/
theorem ref_put {w w1 : World} {base b : Nat} {F : Nat → Prop} {s : TS} {A : Option Addr} {c : Nat} {v1 : Value} {l' : List Int} (h : ROpen w base F b s A c) (hv : Buf .u8 5 w1 base v1 l') (hB : Below w.heap.size w w1) (hat : ∀ k, v1.ownBlock = some k → w.heap.size ≤ k) :
    Ref' w base F b { s with l := l' } (w1.setCell ⟨b, 2, none⟩ v1) := by
  have hblt := (h.lt b h.inF).2
  have hs := (Keep.refl (fun k => k = b) w1).setCell ⟨b, 2, none⟩ v1 (.inl rfl)
  have hv1 : ∀ k, v1.ownBlock = some k → k ≠ b := fun k hk => by have := hat k hk; omega
  have hKK : Keep F w (w1.setCell ⟨b, 2, none⟩ v1) := (Keep.of_below hB F).trans hs (fun k e => .inl (by subst e; exact h.inF))
  refine ⟨fun k => F k ∨ v1.ownBlock = some k, ⟨.inl h.inF, fun k hk => ?_, v1, blk_set (blk_below h.blk hB) 2 _, hv.keep hs (fun j hj e => hv1 j hj e), fun k hk => ⟨.inr hk, hv1 k hk⟩⟩, fun k hk => hk.elim .inl fun e => .inr (hat k e), hKK⟩
  rcases hk with hk | hk
  · exact ⟨(h.lt k hk).1, Nat.lt_of_lt_of_le (h.lt k hk).2 hKK.size⟩
  · exact ⟨(hv.lt k hk).1, Nat.lt_of_lt_of_le (hv.lt k hk).2 hs.size⟩
theorem spendE_or {s : TS} (h : spendE s ≠ 0) : spendE s = 13 := by
  unfold spendE at h ⊢
  split
  · split
    · rfl
    · rename_i h1 h2; rw [if_pos h1, if_neg h2] at h; exact absurd rfl h
  · split
    · rfl
    · rename_i h1 h2; rw [if_neg h1, if_neg h2] at h; exact absurd rfl h
theorem rset2 (w : World) (b i j : Nat) (u v : Value) : Keep (fun k => k = b) w ((w.setCell ⟨b, i, none⟩ u).setCell ⟨b, j, none⟩ v) := set2 w b i j u v
set_option maxRecDepth 100000 in
set_option maxHeartbeats 2000000 in
theorem goes_any (w : World) (base b : Nat) (F : Nat → Prop) (s : TS) (hk : TOk s) (hd : s.dead = false) (h : RefAt w base F b s) :
    Calls Tryd.prog 30 #[.pointer (some ⟨b, 0, none⟩)] w fun r w' => r = .returned (.bool (spendE s == 0)) ∧ Ref' w base F b (spendS s) w' := by
  obtain ⟨A, c, ho⟩ := h.open_
  have q0 : w.cell? ⟨b, 0, none⟩ = some (.int .i64 s.room) := blk_cell ho.blk 0
  have q1 : w.cell? ⟨b, 1, none⟩ = some (.int .i64 (s.synced : Int)) := blk_cell ho.blk 1
  have q2 : w.cell? ⟨b, 2, none⟩ = some (.slice A s.l.length c) := blk_cell ho.blk 2
  have q3 : w.cell? ⟨b, 3, none⟩ = some (.int .i64 s.left) := blk_cell ho.blk 3
  have q4 : w.cell? ⟨b, 4, none⟩ = some (.int .i64 s.ops) := blk_cell ho.blk 4
  have q5 : w.cell? ⟨b, 5, none⟩ = some (.bool s.dead) := blk_cell ho.blk 5
  have f1 : w.frozen? ⟨b, 1, none⟩ = false := blk_frozen ho.blk 1
  have f2 : w.frozen? ⟨b, 2, none⟩ = false := blk_frozen ho.blk 2
  have f3 : w.frozen? ⟨b, 3, none⟩ = false := blk_frozen ho.blk 3
  have f4 : w.frozen? ⟨b, 4, none⟩ = false := blk_frozen ho.blk 4
  have f5 : w.frozen? ⟨b, 5, none⟩ = false := blk_frozen ho.blk 5
  have hl0 := hk.left0
  have hl1 := hk.left1
  have ho0 := hk.ops0
  have ho1 := hk.ops1
  have HO := Lib.hid ho
  have HH := Lib.hid h
  have HK := Lib.hid hk
  clear h ho hk
  obtain ⟨room, l, synced, left, dead, ops⟩ := s
  dsimp only at hd q0 q1 q2 q3 q4 q5 hl0 hl1 ho0 ho1
  subst hd
  unfold spendS spendE
  dsimp only
  cases hdl : decide (0 < left)
  · rw [if_neg (of_decide_eq_false hdl), if_neg (of_decide_eq_false hdl), if_neg Bool.false_ne_true, if_neg Bool.false_ne_true]
    go_enter Tryd.func30, Tryd.ntmps30
    go_wp2
    go_ret
    exact ⟨rfl, ref_set HO.out (set1 w b 4 _) rfl (blk_set HO.out.blk 4 _)⟩
  · rw [if_pos (of_decide_eq_true hdl), if_pos (of_decide_eq_true hdl)]
    by_cases h1 : left = 1
    · subst h1
      rw [if_pos rfl, if_pos rfl]
      go_enter Tryd.func30, Tryd.ntmps30
      go_wp2
      go_ret
      exact ⟨rfl, ref_set (s1 := ⟨room, l, synced, 0, true, ops⟩) HO.out (set2 w b 3 5 _ _) rfl (blk_set (blk_set HO.out.blk 3 _) 5 _)⟩
    · rw [if_neg h1, if_neg h1]
      have h2 : (left - 1 == 0) = false := by simp; omega
      go_enter Tryd.func30, Tryd.ntmps30
      go_wp2
      go_ret
      exact ⟨rfl, ref_set (s1 := ⟨room, l, synced, left - 1, false, ops + 1⟩) HO.out (set2 w b 3 4 _ _) rfl (blk_set (blk_set HO.out.blk 3 _) 4 _)⟩
set_option maxRecDepth 100000 in
set_option maxHeartbeats 2000000 in
theorem rstop_any (n : Int) (w : World) (base b : Nat) (F : Nat → Prop) (s : TS) (hk : TOk s) (h : RefAt w base F b s) :
    Calls Tryd.prog 21 #[.pointer (some ⟨b, 0, none⟩), .int .i64 n] w fun r w' => r = .returned (.tuple #[]) ∧ Ref' w base F b (stopS s n) w' := by
  obtain ⟨A, c, ho⟩ := h.open_
  have q0 : w.cell? ⟨b, 0, none⟩ = some (.int .i64 s.room) := blk_cell ho.blk 0
  have q1 : w.cell? ⟨b, 1, none⟩ = some (.int .i64 (s.synced : Int)) := blk_cell ho.blk 1
  have q2 : w.cell? ⟨b, 2, none⟩ = some (.slice A s.l.length c) := blk_cell ho.blk 2
  have q3 : w.cell? ⟨b, 3, none⟩ = some (.int .i64 s.left) := blk_cell ho.blk 3
  have q4 : w.cell? ⟨b, 4, none⟩ = some (.int .i64 s.ops) := blk_cell ho.blk 4
  have q5 : w.cell? ⟨b, 5, none⟩ = some (.bool s.dead) := blk_cell ho.blk 5
  have f1 : w.frozen? ⟨b, 1, none⟩ = false := blk_frozen ho.blk 1
  have f2 : w.frozen? ⟨b, 2, none⟩ = false := blk_frozen ho.blk 2
  have f3 : w.frozen? ⟨b, 3, none⟩ = false := blk_frozen ho.blk 3
  have f4 : w.frozen? ⟨b, 4, none⟩ = false := blk_frozen ho.blk 4
  have f5 : w.frozen? ⟨b, 5, none⟩ = false := blk_frozen ho.blk 5
  have hl0 := hk.left0
  have hl1 := hk.left1
  have ho0 := hk.ops0
  have ho1 := hk.ops1
  have HO := Lib.hid ho
  have HH := Lib.hid h
  have HK := Lib.hid hk
  clear h ho hk
  go_enter Tryd.func21, Tryd.ntmps21
  go_wp2
  all_goals
    go_end0
    refine ⟨rfl, ?_⟩
    unfold stopS
    first
      | (rw [show (if n < 0 then (0 : Int) else n) = 0 by split <;> omega]; exact ref_set HO.out (set1 w b 3 _) rfl (blk_set HO.out.blk 3 _))
      | (rw [show (if n < 0 then (0 : Int) else n) = n by split <;> omega]; exact ref_set HO.out (set1 w b 3 _) rfl (blk_set HO.out.blk 3 _))
set_option maxRecDepth 100000 in
set_option maxHeartbeats 2000000 in
theorem rsync_any (w : World) (base b : Nat) (F : Nat → Prop) (s : TS) (hk : TOk s) (h : RefAt w base F b s) :
    Calls Tryd.prog 19 #[.pointer (some ⟨b, 0, none⟩)] w fun r w' => r = .returned (.int .i64 (syncE s)) ∧ Ref' w base F b (syncS s) w' := by
  obtain ⟨A, c, ho⟩ := h.open_
  have q0 : w.cell? ⟨b, 0, none⟩ = some (.int .i64 s.room) := blk_cell ho.blk 0
  have q1 : w.cell? ⟨b, 1, none⟩ = some (.int .i64 (s.synced : Int)) := blk_cell ho.blk 1
  have q2 : w.cell? ⟨b, 2, none⟩ = some (.slice A s.l.length c) := blk_cell ho.blk 2
  have q3 : w.cell? ⟨b, 3, none⟩ = some (.int .i64 s.left) := blk_cell ho.blk 3
  have q4 : w.cell? ⟨b, 4, none⟩ = some (.int .i64 s.ops) := blk_cell ho.blk 4
  have q5 : w.cell? ⟨b, 5, none⟩ = some (.bool s.dead) := blk_cell ho.blk 5
  have f1 : w.frozen? ⟨b, 1, none⟩ = false := blk_frozen ho.blk 1
  have f2 : w.frozen? ⟨b, 2, none⟩ = false := blk_frozen ho.blk 2
  have f3 : w.frozen? ⟨b, 3, none⟩ = false := blk_frozen ho.blk 3
  have f4 : w.frozen? ⟨b, 4, none⟩ = false := blk_frozen ho.blk 4
  have f5 : w.frozen? ⟨b, 5, none⟩ = false := blk_frozen ho.blk 5
  have hl0 := hk.left0
  have hl1 := hk.left1
  have ho0 := hk.ops0
  have ho1 := hk.ops1
  have HO := Lib.hid ho
  have HH := Lib.hid h
  have HK := Lib.hid hk
  clear h ho
  have hr1 := hk.room1
  clear hk
  cases hd : s.dead
  · have hm : mayE s 0 = 0 := by unfold mayE; rw [hd, if_neg Bool.false_ne_true, if_neg (by omega)]
    rw [hd] at q5
    have hE : syncE s = spendE s := if_pos hm
    rw [hE]
    have HD := Lib.hid hd
    have HM := Lib.hid hm
    by_cases hs : spendE s = 0
    · have hS : syncS s = { spendS s with synced := s.l.length } := by unfold syncS; rw [if_pos hm, if_pos hs]
      rw [hS, hs]
      have hz : (spendE s == 0) = true := by simp [hs]
      clear hd hm hE hs hS
      go_enter Tryd.func19, Tryd.ntmps19
      go_wp2_with (go_at_call 30; refine (goes_any w base b F s HK.out HD.out HH.out).mono ?_; rintro r w1 ⟨rfl, F1, hR, hF1, hK1⟩; rw [hz]
                   obtain ⟨A1, c1, ho1⟩ := hR.open_
                   have p2 : w1.cell? ⟨b, 2, none⟩ = some (.slice A1 s.l.length c1) := by rw [← spendS_l s]; exact blk_cell ho1.blk 2
                   have p1 : w1.cell? ⟨b, 1, none⟩ = some (.int .i64 ((spendS s).synced : Int)) := blk_cell ho1.blk 1
                   have g1 : w1.frozen? ⟨b, 1, none⟩ = false := blk_frozen ho1.blk 1
                   have HR1 := Lib.hid ho1
                   have HF1 := Lib.hid hF1
                   have HK1 := Lib.hid hK1
                   clear hR ho1 hF1 hK1)
      go_ret
      exact ⟨rfl, Ref'.after HF1.out HK1.out (ref_sync HR1.out s.l.length)⟩
    · have hS : syncS s = spendS s := by unfold syncS; rw [if_pos hm, if_neg hs]
      have h13 : spendE s = 13 := spendE_or hs
      rw [hS, h13]
      have hz : (spendE s == 0) = false := by simp [hs]
      clear hd hm hE hs hS h13
      go_enter Tryd.func19, Tryd.ntmps19
      go_wp2_with (go_at_call 30; refine (goes_any w base b F s HK.out HD.out HH.out).mono ?_; rintro r w1 ⟨rfl, hR⟩; rw [hz]; have HR := Lib.hid hR; clear hR)
      go_ret
      exact ⟨rfl, HR.out⟩
  · have hm : mayE s 0 = 13 := by unfold mayE; rw [hd, if_pos rfl]
    rw [hd] at q5
    have hE : syncE s = 13 := (if_neg (by rw [hm]; decide)).trans hm
    have hS : syncS s = s := if_neg (by rw [hm]; decide)
    rw [hE, hS]
    clear hd hm hE hS
    go_enter Tryd.func19, Tryd.ntmps19
    go_wp2
    go_ret
    exact ⟨rfl, Ref'.refl HH.out⟩
end Go.Proofs.YtjjlojaaefipmaaDoor
