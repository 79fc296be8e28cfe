/- Bytes as numbers; a log in memory; what its calls do, plainly. -/
import Derived.Test.YtfnnjgbldojigaaDoorLawT
import Derived.Test.YtfnnjgbldojigaaDoorFramesP
set_option linter.unusedVariables false
set_option linter.unusedSimpArgs false
namespace Go.Proofs.YtfnnjgbldojigaaDoor
open Go.RowKit Go.Proofs.YtfnnjgbldojigaaDoorW.PrintWords Go.Proofs.Mine Go.Proofs.Mine.Crc

/-- Bytes as whole numbers. -/
def n8 (l : List UInt8) : List Int := l.map fun x => (x.toNat : Int)
theorem n8_len (l : List UInt8) : (n8 l).length = l.length := by simp [n8]
theorem n8_app (l m : List UInt8) : n8 (l ++ m) = n8 l ++ n8 m := by simp [n8]
theorem n8_take (l : List UInt8) (k : Nat) : (n8 l).take k = n8 (l.take k) := by simp [n8, List.map_take]
theorem n8_drop (l : List UInt8) (k : Nat) : (n8 l).drop k = n8 (l.drop k) := by simp [n8, List.map_drop]
theorem n8_nil : n8 [] = [] := rfl
theorem n8_inj {l m : List UInt8} (h : n8 l = n8 m) : l = m := by
  unfold n8 at h
  refine (List.map_inj_right ?_).1 h
  intro x y hxy
  exact UInt8.toNat_inj.1 (by omega)
theorem n8_getD (l : List UInt8) (j : Nat) : (n8 l).getD j 0 = ((l.getD j 0).toNat : Int) := by
  simp only [n8, List.getD_eq_getElem?_getD, List.getElem?_map]
  cases l[j]? <;> rfl
theorem nums_n8 (l : List UInt8) : nums .u8 (n8 l) = encs b8 l := by simp [nums, n8, encs]
theorem ri_of_bytes {w : World} {A : Option Addr} {n : Nat} {l : List UInt8} (h : ReadsOf b8 0 w A n l) : ReadsInt w .u8 A n (n8 l) :=
  ⟨(n8_len l).trans h.1, h.2.1, fun hp => by
    obtain ⟨ad, ha, hc⟩ := h.2.2 hp
    exact ⟨ad, ha, fun j hj => by rw [n8_getD]; exact hc j hj⟩⟩
theorem bytes_of_ri {w : World} {A : Option Addr} {n : Nat} {l : List UInt8} (h : ReadsInt w .u8 A n (n8 l)) : ReadsOf b8 0 w A n l :=
  ⟨(n8_len l).symm.trans h.1, h.2.1, fun hp => by
    obtain ⟨ad, ha, hc⟩ := h.2.2 hp
    exact ⟨ad, ha, fun j hj => by have := hc j hj; rw [n8_getD] at this; exact this⟩⟩
theorem bytes_keep {w w1 : World} {F : Nat → Prop} {A : Option Addr} {n : Nat} {l : List UInt8} (h : ReadsOf b8 0 w A n l) (q : Keep F w w1) (hA : 0 < n → ∀ a, A = some a → ¬ F a.block) : ReadsOf b8 0 w1 A n l :=
  bytes_of_ri (reads_keep (ri_of_bytes h) q hA)
/-- A row of one's own, as a tape has it. -/
theorem buf_of_own8 {w : World} {base : Nat} {v : Value} {l : List UInt8} (h : Own w base v l) : Buf .u8 5 w base v (n8 l) := by
  refine Buf.of_own ?_
  rw [nums_n8, n8_len]
  exact h
/-- A log: its records, how many bytes they take. -/
structure LS where
  rows : List (List UInt8)
  size : Nat
def LogAt (w : World) (base : Nat) (F : Nat → Prop) (bl bt : Nat) (s : LS) : Prop :=
  F bl ∧ (∀ k, F k → base ≤ k ∧ k < w.heap.size) ∧ ∃ v, w.heap[bl]? = some (.cells #[.pointer (some ⟨bt, 0, none⟩), v, .int .i64 (s.size : Int)] 80 (0, 0)) ∧ rowsK.R 32 w base (fun k => F k ∧ k ≠ bl) v s.rows
theorem LogAt.keep {w w1 : World} {base bl bt : Nat} {F G : Nat → Prop} {s : LS} (h : LogAt w base F bl bt s) (k : Keep G w w1) (hg : ∀ j, F j → ¬ G j) : LogAt w1 base F bl bt s := by
  obtain ⟨h1, h2, v, h3, h4⟩ := h
  exact ⟨h1, fun j hj => ⟨(h2 j hj).1, Nat.lt_of_lt_of_le (h2 j hj).2 k.size⟩, v, k.blk h3 (hg bl h1), k.R h4 (fun j hj => hg j hj.1)⟩
theorem LogAt.below {w w1 : World} {base bl bt : Nat} {F : Nat → Prop} {s : LS} (h : LogAt w base F bl bt s) (hB : Below w.heap.size w w1) : LogAt w1 base F bl bt s :=
  h.keep (Keep.of_below hB (fun _ => False)) (fun _ _ h => h)
theorem TapeAt.wide {w : World} {base b : Nat} {F G : Nat → Prop} {s : TS} (h : TapeAt w base F b s) (hg : ∀ k, F k → G k) (hG : ∀ k, G k → base ≤ k ∧ k < w.heap.size) : TapeAt w base G b s := by
  obtain ⟨h1, h2, v, h3, h4, h5⟩ := h
  exact ⟨hg _ h1, hG, v, h3, h4, fun k hk => ⟨hg _ (h5 k hk).1, (h5 k hk).2⟩⟩
/-- A log and its tape, behind w0; F: what is theirs. -/
structure WalIn (w0 : World) (bt bl : Nat) (s : TS) (ls : LS) (w : World) (F : Nat → Prop) : Prop where
  laid : Laid w0
  below : Below w0.heap.size w0 w
  ok : TOk s
  lt : ∀ k, F k → w0.heap.size ≤ k ∧ k < w.heap.size
  parts : ∃ FT FL : Nat → Prop, (∀ k, FT k → F k) ∧ (∀ k, FL k → F k) ∧ (∀ k, FL k → ¬ FT k) ∧ TapeAt w w0.heap.size FT bt s ∧ LogAt w w0.heap.size FL bl bt ls
/-- What a call leaves. -/
def WalOut (w0 : World) (bt bl : Nat) (s : TS) (ls : LS) (w : World) (F : Nat → Prop) (w' : World) : Prop :=
  ∃ F', WalIn w0 bt bl s ls w' F' ∧ (∀ k, F' k → F k ∨ w.heap.size ≤ k) ∧ Keep F w w'
section
variable {w0 w w1 w' : World} {bt bl : Nat} {s s' : TS} {ls ls' : LS} {F : Nat → Prop}
theorem WalIn.pos (h : WalIn w0 bt bl s ls w F) : 0 < w0.heap.size := World.block_lt_of_cell? w0 ⟨0, 0, none⟩ h.laid
theorem WalIn.lw (h : WalIn w0 bt bl s ls w F) : Laid w := h.laid.below h.below
theorem WalIn.to (h : WalIn w0 bt bl s ls w F) (hB : Below w.heap.size w w1) : WalIn w0 bt bl s ls w1 F := by
  obtain ⟨FT, FL, h1, h2, h3, h4, h5⟩ := h.parts
  exact ⟨h.laid, h.below.trans (hB.mono h.below.size), h.ok, fun k hk => ⟨(h.lt k hk).1, Nat.lt_of_lt_of_le (h.lt k hk).2 hB.size⟩, FT, FL, h1, h2, h3, h4.below hB, h5.below hB⟩
theorem WalIn.keep {G : Nat → Prop} (h : WalIn w0 bt bl s ls w F) (k : Keep G w w1) (hg : ∀ j, F j → ¬ G j) (hG : ∀ j, G j → w0.heap.size ≤ j) : WalIn w0 bt bl s ls w1 F := by
  obtain ⟨FT, FL, h1, h2, h3, h4, h5⟩ := h.parts
  exact ⟨h.laid, h.below.trans (k.to_below h.below.size hG), h.ok, fun k' hk => ⟨(h.lt k' hk).1, Nat.lt_of_lt_of_le (h.lt k' hk).2 k.size⟩, FT, FL, h1, h2, h3, h4.keep k (fun j hj => hg j (h1 j hj)), h5.keep k (fun j hj => hg j (h2 j hj))⟩
theorem WalOut.refl (h : WalIn w0 bt bl s ls w F) : WalOut w0 bt bl s ls w F w := ⟨F, h, fun _ h => .inl h, Keep.refl _ _⟩
theorem WalOut.to (h : WalOut w0 bt bl s ls w F w') (hB : Below w'.heap.size w' w1) : WalOut w0 bt bl s ls w F w1 := by
  obtain ⟨F', h1, h2, h3⟩ := h
  exact ⟨F', h1.to hB, h2, h3.trans (Keep.of_below hB (fun _ => False)) (fun _ h => h.elim)⟩
theorem WalOut.from {W : World} (hB : Below w.heap.size w W) (h : WalOut w0 bt bl s ls W F w') : WalOut w0 bt bl s ls w F w' := by
  obtain ⟨F', h1, h2, h3⟩ := h
  exact ⟨F', h1, fun k hk => (h2 k hk).imp_right (fun e => Nat.le_trans hB.size e), (Keep.of_below hB F).trans h3 (fun k hk => .inl hk)⟩
theorem WalOut.after {W : World} {F1 : Nat → Prop} (hF : ∀ k, F1 k → F k ∨ w.heap.size ≤ k) (hK : Keep F w W) (h : WalOut w0 bt bl s ls W F1 w') : WalOut w0 bt bl s ls w F w' := by
  obtain ⟨F', h1, h2, h3⟩ := h
  refine ⟨F', h1, fun k hk => ?_, hK.trans h3 hF⟩
  rcases h2 k hk with h | h
  · exact hF k h
  · exact .inr (Nat.le_trans hK.size h)
/-- The tape alone, all of it being F's. -/
theorem WalIn.tape (h : WalIn w0 bt bl s ls w F) : TapeIn w0 bt s w F := by
  obtain ⟨FT, FL, h1, h2, h3, h4, h5⟩ := h.parts
  exact ⟨h4.wide h1 h.lt, h.below, h.laid, h.ok⟩
/-- A call of the tape's, the log being as it was. -/
theorem WalIn.turned (h : WalIn w0 bt bl s ls w F) (hk : TOk s') (ht : ∀ FT, TapeAt w w0.heap.size FT bt s → Tape' w w0.heap.size FT bt s' w') : WalOut w0 bt bl s' ls w F w' := by
  obtain ⟨FT, FL, h1, h2, h3, h4, h5⟩ := h.parts
  obtain ⟨FT', g1, g2, g3⟩ := ht FT h4
  have hFL : ∀ j, FL j → ¬ FT j := h3
  refine ⟨fun k => F k ∨ FT' k, ⟨h.laid, h.below.trans (g3.to_below h.below.size (fun k hk => (h4.2.1 k hk).1)), hk, fun k hk => ?_, FT', FL, fun k hk => .inr hk, fun k hk => .inl (h2 k hk), fun k hk hf => ?_, g1, h5.keep g3 hFL⟩, fun k hk => ?_, g3.mono (fun k hk _ => h1 k hk)⟩
  · rcases hk with hk | hk
    · exact ⟨(h.lt k hk).1, Nat.lt_of_lt_of_le (h.lt k hk).2 g3.size⟩
    · exact g1.2.1 k hk
  · rcases g2 k hf with e | e
    · exact h3 k hk e
    · have := (h5.2.1 k hk).2; omega
  · rcases hk with hk | hk
    · exact .inl hk
    · exact (g2 k hk).imp_left (h1 k)
end
end Go.Proofs.YtfnnjgbldojigaaDoor
