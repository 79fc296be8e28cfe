/- Several acceptors in memory. -/
import Derived.Test.YtgkhkcoojfjofaaDoorAOwL
import Derived.Test.YtgkhkcoojfjofaaDoorChoP
set_option linter.unusedVariables false
set_option linter.unusedSimpArgs false
namespace Go.Proofs.YtgkhkcoojfjofaaDoor
open Go.RowKit Go.Shelf Go.Proofs.YtgkhkcoojfjofaaDoorW.PrintWords Go.Proofs.Mine

structure AcS where
  p : Int
  o : Option Vh
/-- The plain state. -/
def ab (st : Nat → AcS) (j : Nat) : Cho.Ac := ⟨(st j).p, (st j).o.map fun x => (x.b, x.q)⟩
def encP (b : Nat) : Value := .pointer (some ⟨b, 0, none⟩)
/-- The votes are for slot 1, without members. -/
def Plainly (n : Nat) (st : Nat → AcS) : Prop := ∀ j, j < n → ∀ y, (st j).o = some y → y.s = 1 ∧ y.mem = []
structure Accs (w : World) (base n : Nat) (bs : List Nat) (Fs : Nat → Nat → Prop) (st : Nat → AcS) : Prop where
  len : bs.length = n
  each : ∀ j, j < n → AccAt w base (Fs j) (bs.getD j 0) (st j).p (st j).o
  apart : ∀ i, i < n → ∀ j, j < n → i ≠ j → ∀ k, Fs i k → ¬ Fs j k
theorem Accs.below {w w1 : World} {base n : Nat} {bs : List Nat} {Fs : Nat → Nat → Prop} {st : Nat → AcS} (h : Accs w base n bs Fs st) (hB : Below w.heap.size w w1) : Accs w1 base n bs Fs st := ⟨h.len, fun j hj => (h.each j hj).below hB, h.apart⟩
theorem Accs.keep {w w1 : World} {base n : Nat} {bs : List Nat} {Fs : Nat → Nat → Prop} {st : Nat → AcS} {G : Nat → Prop} (h : Accs w base n bs Fs st) (k : Keep G w w1) (hg : ∀ j, j < n → ∀ q, Fs j q → ¬ G q) : Accs w1 base n bs Fs st := ⟨h.len, fun j hj => (h.each j hj).keep k (hg j hj), h.apart⟩
/-- One of them is turned. -/
theorem Accs.turn {w w1 : World} {base n : Nat} {bs : List Nat} {Fs : Nat → Nat → Prop} {st : Nat → AcS} (h : Accs w base n bs Fs st) {i : Nat} (hi : i < n) {p : Int} {o : Option Vh} (ht : AccTo base (bs.getD i 0) p o w (Fs i) w1) :
    ∃ Fs', Accs w1 base n bs Fs' (fun j => if j = i then ⟨p, o⟩ else st j) ∧ (∀ j, j < n → ∀ k, Fs' j k → Fs j k ∨ w.heap.size ≤ k) ∧ Keep (Fs i) w w1 := by
  obtain ⟨F', h1, h2, h3⟩ := ht
  refine ⟨fun j => if j = i then F' else Fs j, ⟨h.len, fun j hj => ?_, fun a ha b hb hab k hk hk' => ?_⟩, fun j hj k hk => ?_, h3⟩
  · by_cases e : j = i
    · subst e
      simp only [if_true]
      exact h1
    · simp only [if_neg e]
      exact (h.each j hj).keep h3 (fun k hk hk' => h.apart j hj i hi e k hk hk')
  · by_cases e : a = i
    · have e2 : b ≠ i := fun e3 => hab (e.trans e3.symm)
      rw [if_pos e] at hk
      rw [if_neg e2] at hk'
      rcases h2 k hk with h4 | h4
      · exact h.apart i hi b hb (fun e3 => e2 e3.symm) k h4 hk'
      · have := ((h.each b hb).2.1 k hk').2; omega
    · rw [if_neg e] at hk
      by_cases e2 : b = i
      · rw [if_pos e2] at hk'
        rcases h2 k hk' with h4 | h4
        · exact h.apart a ha i hi e k hk h4
        · have := ((h.each a ha).2.1 k hk).2; omega
      · rw [if_neg e2] at hk'
        exact h.apart a ha b hb hab k hk hk'
  · by_cases e : j = i
    · have hk2 : F' k := by simpa [e] using hk
      subst e
      exact h2 k hk2
    · have hk2 : Fs j k := by simpa [e] using hk
      exact .inl hk2
/-- The row of pointers to them. -/
structure Ptrs (w : World) (base n : Nat) (A : Option Addr) (bs : List Nat) (Fs : Nat → Nat → Prop) : Prop where
  row : ReadsOf encP 0 w A n bs
  off : 0 < n → ∀ a, A = some a → base ≤ a.block ∧ ∀ j, j < n → ¬ Fs j a.block
theorem ptrs_lt {w : World} {A : Option Addr} {n : Nat} {bs : List Nat} (h : ReadsOf encP 0 w A n bs) : 0 < n → ∀ a, A = some a → a.block < w.heap.size := by
  intro hp a ha
  obtain ⟨ad, ha', hc⟩ := h.2.2 hp
  rw [ha] at ha'
  injection ha' with ha'
  subst ha'
  have := World.block_lt_of_cell? w _ (hc 0 hp)
  rw [vadd_block] at this
  exact this
theorem ptrs_keep {w w1 : World} {base n : Nat} {A : Option Addr} {bs : List Nat} {Fs Fs' : Nat → Nat → Prop} {G : Nat → Prop} (h : Ptrs w base n A bs Fs) (k : Keep G w w1) (hG : 0 < n → ∀ a, A = some a → ¬ G a.block) (hF : ∀ j, j < n → ∀ q, Fs' j q → Fs j q ∨ w.heap.size ≤ q) : Ptrs w1 base n A bs Fs' := by
  refine ⟨⟨h.row.1, h.row.2.1, fun hp => ?_⟩, fun hp a ha => ⟨(h.off hp a ha).1, fun j hj hf => ?_⟩⟩
  · obtain ⟨ad, ha, hc⟩ := h.row.2.2 hp
    exact ⟨ad, ha, fun i hi => k.cell (hc i hi) (by rw [vadd_block]; exact hG hp ad ha)⟩
  · rcases hF j hj _ hf with h1 | h1
    · exact (h.off hp a ha).2 j hj h1
    · have := ptrs_lt h.row hp a ha; omega
theorem Ptrs.at_ {w : World} {base n : Nat} {A : Option Addr} {bs : List Nat} {Fs : Nat → Nat → Prop} (h : Ptrs w base n A bs Fs) {i : Nat} (hi : i < n) : ∃ ad, A = some ad ∧ w.cell? (ad.add i) = some (.pointer (some ⟨bs.getD i 0, 0, none⟩)) := by
  obtain ⟨ad, ha, hc⟩ := h.row.2.2 (by omega)
  exact ⟨ad, ha, hc i hi⟩
set_option maxRecDepth 100000 in
set_option maxHeartbeats 2000000 in
theorem prepare_stale {w : World} {base b : Nat} {F : Nat → Prop} {p n fr : Int} {o : Option Vh} (h : AccAt w base F b p o) (h1 : 1 ≤ n) (h2 : n < p) : Calls Tryd.prog 13 #[.pointer (some ⟨b, 0, none⟩), .int .i64 n, .int .i64 fr] w fun r w' => r = .returned (.tuple #[.slice none 0 0, .int .i64 19]) ∧ Below w.heap.size w w' := by
  have HQ : RowKit.Hid (w.cell? ⟨b, 0, none⟩ = some (.int .i64 p)) := by
    obtain ⟨_, _, m, h3, _⟩ := h
    exact blk_cell h3 0
  clear h
  go_enter Tryd.func13, Tryd.ntmps13
  go_wp2_with (first
    | (go_at_call 25; refine (told_stale b1 w2 HC.out).mono ?_; rintro r w3 ⟨rfl, rfl⟩)
    | (go_at_call 24
       generalize hW : w.alloc _ = W
       have hB : Below w.heap.size w W := by rw [← hW]; exact (Below.refl _ w).alloc (Nat.le_refl _) _
       refine (promise_stale b n p W (pw_cell_below hB HQ.out) h1 h2).mono ?_
       rintro r w2 ⟨b1, rfl, hc, hB2⟩
       have HC := Lib.hid hc
       have HB2 := Lib.hid (hB.trans (hB2.mono hB.size))
       clear hc hB2 hB hW))
  go_ret2
  exact ⟨rfl, HB2.out⟩
theorem pk_max {l : List Vh} {slot : Int} (h : ∀ x ∈ l, x.s = slot) (k : Nat) (hk : k ≤ l.length) : (k = 0 ∧ pk l slot k = none) ∨ ∃ j y, pk l slot k = some j ∧ l[j]? = some y ∧ ∀ z ∈ l.take k, z.b ≤ y.b := by
  induction k with
  | zero => exact .inl ⟨rfl, rfl⟩
  | succ k ih =>
    obtain ⟨x, hx⟩ : ∃ x, l[k]? = some x := ⟨_, List.getElem?_eq_getElem (by omega)⟩
    have hs := h x (List.mem_of_getElem? hx)
    have ht : l.take (k + 1) = l.take k ++ [x] := by rw [List.take_add_one, hx]; rfl
    rcases ih (by omega) with ⟨rfl, h0⟩ | ⟨j, y, hj, hy, hall⟩
    · refine .inr ⟨0, x, pk_first hx hs h0, hx, fun z hz => ?_⟩
      rw [ht, List.take_zero, List.nil_append] at hz
      rw [List.mem_singleton.1 hz]; exact Int.le_refl _
    · by_cases hb : y.b < x.b
      · refine .inr ⟨k, x, pk_more hx hs hj hy hb, hx, fun z hz => ?_⟩
        rw [ht] at hz
        rcases List.mem_append.1 hz with hz | hz
        · have := hall z hz; omega
        · rw [List.mem_singleton.1 hz]; exact Int.le_refl _
      · refine .inr ⟨j, y, pk_stays hx hj hy hb, hy, fun z hz => ?_⟩
        rw [ht] at hz
        rcases List.mem_append.1 hz with hz | hz
        · exact hall z hz
        · rw [List.mem_singleton.1 hz]; omega
end Go.Proofs.YtgkhkcoojfjofaaDoor
