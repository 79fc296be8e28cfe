/- WalCrashes, plainly: what a tape bears while power may go. -/
import Derived.Test.YtfnnjgbldojigaaDoorPlyP
set_option linter.unusedVariables false
set_option linter.unusedSimpArgs false
namespace Go.Proofs.YtfnnjgbldojigaaDoor
open Go.RowKit Go.Proofs.YtfnnjgbldojigaaDoorW.PrintWords Go.Proofs.Mine Go.Proofs.Mine.Crc

/-- The tape bears these records; the first m are synced. -/
def Bear (s : TS) (L : List (List UInt8)) (m : Nat) : Prop := s.room = 1048576 ∧ s.l = n8 (framesOf L) ∧ m ≤ L.length ∧ endOf L m ≤ s.synced
/-- The tape bears a front of these records' bytes. -/
def Cut (s : TS) (L : List (List UInt8)) (m c : Nat) : Prop := s.room = 1048576 ∧ s.l = n8 ((framesOf L).take c) ∧ c ≤ (framesOf L).length ∧ m ≤ L.length ∧ endOf L m ≤ s.synced
theorem spend_facts (s : TS) (hd : s.dead = false) : (spendE s = 0 ∨ (spendE s = 13 ∧ (spendS s).dead = true)) ∧ (spendS s).l = s.l ∧ (spendS s).room = s.room ∧ (spendS s).synced = s.synced ∧ s.ops ≤ (spendS s).ops ∧ (spendS s).ops ≤ s.ops + 1 := by
  unfold spendE spendS
  by_cases h1 : 0 < s.left
  · by_cases h2 : s.left = 1
    · simp [h1, h2]; omega
    · simp [h1, h2]; omega
  · simp [h1, hd]; omega
theorem endOf_snoc (L : List (List UInt8)) (x : List UInt8) (m : Nat) (h : m ≤ L.length) : endOf (L ++ [x]) m = endOf L m := by
  unfold endOf; rw [List.take_append_of_le_length h]
theorem bear_append {s : TS} {L : List (List UInt8)} {m : Nat} (h : Bear s L m) (hd : s.dead = false) (x : List UInt8) (hr : (framesOf L).length + x.length + 8 ≤ 1048576) :
    (appendE s (n8 (frameOf x)) = 0 ∨ (appendE s (n8 (frameOf x)) = 13 ∧ (appendS s (n8 (frameOf x))).dead = true)) ∧ Bear (appendS s (n8 (frameOf x))) (L ++ [x]) m ∧ s.ops ≤ (appendS s (n8 (frameOf x))).ops ∧ (appendS s (n8 (frameOf x))).ops ≤ s.ops + 1 := by
  obtain ⟨h1, h2, h3, h4⟩ := h
  have e0 : mayE s ((s.l.length : Int) + ((n8 (frameOf x)).length : Int)) = 0 := by
    unfold mayE
    rw [hd, h1, h2, n8_len, n8_len, frameOf_length]
    rw [if_neg (by decide), if_neg (by push_cast; omega)]
  obtain ⟨f1, f2, f3, f4, f5, f6⟩ := spend_facts s hd
  unfold appendE appendS
  rw [e0]
  simp only [if_true]
  refine ⟨f1, ⟨f3.trans h1, ?_, by rw [List.length_append]; omega, ?_⟩, f5, f6⟩
  · show s.l ++ _ = _
    rw [h2, framesOf_snoc, n8_app]
  · rw [endOf_snoc _ _ _ h3]; show _ ≤ (spendS s).synced; rw [f4]; exact h4
theorem bear_sync {s : TS} {L : List (List UInt8)} {m : Nat} (h : Bear s L m) (hd : s.dead = false) :
    ((syncE s = 0 ∧ Bear (syncS s) L L.length) ∨ (syncE s = 13 ∧ (syncS s).dead = true ∧ Bear (syncS s) L m)) ∧ s.ops ≤ (syncS s).ops ∧ (syncS s).ops ≤ s.ops + 1 := by
  obtain ⟨h1, h2, h3, h4⟩ := h
  have e0 : mayE s 0 = 0 := by
    unfold mayE
    rw [hd, h1]; rfl
  obtain ⟨f1, f2, f3, f4, f5, f6⟩ := spend_facts s hd
  unfold syncE syncS
  rw [e0]
  simp only [if_true]
  rcases f1 with f1 | ⟨f1, f7⟩
  · rw [f1]
    simp only [if_true]
    refine ⟨.inl ⟨trivial, f3.trans h1, f2.trans h2, Nat.le_refl _, ?_⟩, f5, f6⟩
    rw [← framesOf_len_all]
    show _ ≤ s.l.length
    rw [h2, n8_len]; exact Nat.le_refl _
  · rw [f1]
    rw [if_neg (by decide)]
    exact ⟨.inr ⟨rfl, f7, f3.trans h1, f2.trans h2, h3, by rw [f4]; exact h4⟩, f5, f6⟩
theorem repl_facts {s : TS} (hd : s.dead = false) (h1 : s.room = 1048576) (x : List UInt8) (hr : x.length ≤ 1048576) :
    ((replaceE s (n8 x) = 0 ∧ (replaceS s (n8 x)).l = n8 x ∧ (replaceS s (n8 x)).synced = x.length ∧ (replaceS s (n8 x)).room = 1048576) ∨ (replaceE s (n8 x) = 13 ∧ (replaceS s (n8 x)).dead = true ∧ (replaceS s (n8 x)).l = s.l ∧ (replaceS s (n8 x)).synced = s.synced ∧ (replaceS s (n8 x)).room = 1048576)) ∧ s.ops ≤ (replaceS s (n8 x)).ops ∧ (replaceS s (n8 x)).ops ≤ s.ops + 1 := by
  have e0 : mayE s ((n8 x).length : Int) = 0 := by
    unfold mayE
    rw [hd, h1, n8_len]
    rw [if_neg (by decide), if_neg (by omega)]
  obtain ⟨f1, f2, f3, f4, f5, f6⟩ := spend_facts s hd
  unfold replaceE replaceS
  rw [e0]
  simp only [if_true]
  rcases f1 with f1 | ⟨f1, f7⟩
  · rw [f1]
    simp only [if_true]
    exact ⟨.inl ⟨trivial, trivial, n8_len x, f3.trans h1⟩, f5, f6⟩
  · rw [f1]
    rw [if_neg (by decide)]
    exact ⟨.inr ⟨rfl, f7, f2, f4, f3.trans h1⟩, f5, f6⟩
theorem bear_keep {s : TS} {L : List (List UInt8)} {m : Nat} (h : Bear s L m) (hd : s.dead = false) (K : List (List UInt8)) (hr : (framesOf K).length ≤ 1048576) :
    ((replaceE s (n8 (framesOf K)) = 0 ∧ Bear (replaceS s (n8 (framesOf K))) K K.length) ∨ (replaceE s (n8 (framesOf K)) = 13 ∧ (replaceS s (n8 (framesOf K))).dead = true ∧ Bear (replaceS s (n8 (framesOf K))) L m)) ∧ s.ops ≤ (replaceS s (n8 (framesOf K))).ops ∧ (replaceS s (n8 (framesOf K))).ops ≤ s.ops + 1 := by
  obtain ⟨h1, h2, h3, h4⟩ := h
  obtain ⟨f, f5, f6⟩ := repl_facts hd h1 (framesOf K) hr
  refine ⟨?_, f5, f6⟩
  rcases f with ⟨g1, g2, g3, g4⟩ | ⟨g1, g2, g3, g4, g5⟩
  · exact .inl ⟨g1, g4, g2, Nat.le_refl _, by rw [g3, ← framesOf_len_all]; exact Nat.le_refl _⟩
  · exact .inr ⟨g1, g2, g5, g3.trans h2, h3, by rw [g4]; exact h4⟩
theorem Bear.cut {s : TS} {L : List (List UInt8)} {m : Nat} (h : Bear s L m) : Cut s L m (framesOf L).length := ⟨h.1, by rw [List.take_length]; exact h.2.1, Nat.le_refl _, h.2.2⟩
theorem cut_len {s : TS} {L : List (List UInt8)} {m c : Nat} (h : Cut s L m c) : s.l.length = c := by rw [h.2.1, n8_len, List.length_take]; have := h.2.2.1; omega
theorem Cut.crash {s : TS} {L : List (List UInt8)} {m c : Nat} (h : Cut s L m c) (hk : TOk s) (pick : Int) : crashS s pick = cs 1048576 L (s.synced + crashK s pick) s.ops ∧ Cut (crashS s pick) L m (s.synced + crashK s pick) ∧ s.synced + crashK s pick ≤ (framesOf L).length := by
  have hl := cut_len h
  have hle := crashK_le s hk.syn pick
  obtain ⟨h1, h2, h3, h4, h5⟩ := h
  have e : crashS s pick = cs 1048576 L (s.synced + crashK s pick) s.ops := by
    unfold crashS cs
    rw [h1, h2, n8_take, List.take_take, Nat.min_eq_left (by omega)]
  refine ⟨e, ?_, by omega⟩
  rw [e]
  exact ⟨rfl, rfl, by omega, h4, by show _ ≤ s.synced + crashK s pick; omega⟩
theorem Cut.stop {s : TS} {L : List (List UInt8)} {m c : Nat} (h : Cut s L m c) (n : Int) : Cut (stopS s n) L m c := h
theorem Bear.stop {s : TS} {L : List (List UInt8)} {m : Nat} (h : Bear s L m) (n : Int) : Bear (stopS s n) L m := h
theorem whole_ge {L : List (List UInt8)} {m c : Nat} (hm : m ≤ L.length) (h : endOf L m ≤ c) : m ≤ wholeOf L c := by
  rcases Nat.lt_or_ge (wholeOf L c) m with h1 | h1
  · have h2 := wholeOf_next L c (by omega)
    have h3 := endOf_mono L (wholeOf L c + 1) m (by omega)
    omega
  · exact h1
/-- Opened, the power may go. -/
theorem cra_open (w0 w : World) (bt : Nat) (s : TS) (L : List (List UInt8)) (m c : Nat) (F : Nat → Prop) (h : TapeIn w0 bt s w F) (hc : Cut s L m c) (hd : s.dead = false) (ho : s.ops < 1000000000) (hs : ∀ r ∈ L, r.length ≤ 65536) (hl : (framesOf L).length ≤ 1000000) :
    Calls Tryd.prog 15 #[.pointer (some ⟨bt, 0, none⟩)] w fun r w' => ∃ v s' c' F', r = .returned v ∧ TapeIn w0 bt s' w' F' ∧ Cut s' L m c' ∧ s'.ops ≤ s.ops + 1 ∧ (∀ k, F' k → F k ∨ w.heap.size ≤ k) ∧ Keep F w w' := by
  have hsyn := h.ok.syn
  rw [cut_len hc] at hsyn
  obtain ⟨h1, h2, h3, h4, h5⟩ := hc
  obtain ⟨b, hb⟩ : ∃ b, b = (framesOf L).take c := ⟨_, rfl⟩
  have hbl : b.length = c := by rw [hb, List.length_take]; omega
  have hsp := split_front_of L c hs h3 (b.length + 1) (by omega)
  rw [← hb] at hsp h2
  have hn := wholeOf_end L c
  have hcut : Cut (openS s b (endOf L (wholeOf L c))) L m (if endOf L (wholeOf L c) < b.length then (if replaceE s (n8 (b.take (endOf L (wholeOf L c)))) = 0 then endOf L (wholeOf L c) else c) else c) ∧ (openS s b (endOf L (wholeOf L c))).ops ≤ s.ops + 1 := by
    unfold openS
    by_cases hlt : endOf L (wholeOf L c) < b.length
    · rw [if_pos hlt, if_pos hlt]
      obtain ⟨f, f5, f6⟩ := repl_facts hd h1 (b.take (endOf L (wholeOf L c))) (by rw [List.length_take]; omega)
      refine ⟨?_, f6⟩
      rcases f with ⟨g1, g2, g3, g4⟩ | ⟨g1, g2, g3, g4, g5⟩
      · rw [if_pos g1]
        refine ⟨g4, by rw [g2, hb, List.take_take, Nat.min_eq_left hn], by omega, h4, ?_⟩
        rw [g3, List.length_take]
        have := endOf_mono L m (wholeOf L c) (whole_ge h4 (by omega))
        omega
      · rw [if_neg (by rw [g1]; decide)]
        exact ⟨g5, by rw [g3, h2, hb], h3, h4, by rw [g4]; exact h5⟩
    · rw [if_neg hlt, if_neg hlt]
      exact ⟨⟨h1, by rw [h2, hb], h3, h4, h5⟩, by omega⟩
  refine (open_any w0 w bt s F b _ _ h hd h2 hsp (by omega) (by omega) ho).mono ?_
  intro r w' h6
  rcases h6 with ⟨_, bl, F', g1, g2, g3, g4⟩ | ⟨_, g1, F', g2, g3, g4⟩
  · exact ⟨_, _, _, F', g1, g2.tape, hcut.1, hcut.2, g3, g4⟩
  · exact ⟨_, _, _, F', g1, g2, hcut.1, hcut.2, g3, g4⟩
theorem row_take {w : World} {A : Option Addr} {hs : List Hd} (h : HRow w A hs.length hs) (j : Nat) (hj : j ≤ hs.length) : HRow w A (hs.take j).length (hs.take j) := by
  have e : (hs.take j).length = j := by rw [List.length_take]; omega
  rw [e]
  refine ⟨e, by have := h.2.1; omega, fun hp => ?_⟩
  obtain ⟨ad, ha, hc⟩ := h.2.2 (by omega)
  refine ⟨ad, ha, fun i hi => ?_⟩
  have h1 := hc i (by omega)
  rw [h1]
  congr 2
  simp [List.getD_eq_getElem?_getD, List.getElem?_take, hi]
theorem three_ways (x : Int) : x % 3 = 0 ∨ x % 3 = 1 ∨ x % 3 = 2 := by omega
end Go.Proofs.YtfnnjgbldojigaaDoor
