/- WalEcho, plainly: rows of one's own beside a log, in rows of one's own. -/
import Derived.Test.YtfnnjgbldojigaaDoorCraP
import Derived.Test.YtfnnjgbldojigaaDoorRefW
set_option linter.unusedVariables false
set_option linter.unusedSimpArgs false
namespace Go.Proofs.YtfnnjgbldojigaaDoor
open Go.RowKit Go.Proofs.YtfnnjgbldojigaaDoorW.PrintWords Go.Proofs.Mine Go.Proofs.Mine.Crc

/-- The log has rs; b is what was handed in; bv grows; all's rows are one's own. -/
structure EchoAt (w : World) (bt bl base : Nat) (s : TS) (ls : LS) (F : Nat → Prop) (A : Option Addr) (b : List Hd) (bv : Value) (L : List UInt8) (av : Value) (hs : List Hd) (wr : World) : Prop where
  win : WalIn w bt bl s ls wr F
  bs : base ≤ wr.heap.size
  rb : RowOk wr F A b
  lo : (0 < b.length → ∀ a, A = some a → a.block < base) ∧ ∀ y ∈ b, 0 < y.l.length → ∀ a, y.A = some a → a.block < base
  bo : wr.ownsRow base 5 1 bv L.length (encs b8 L) ∧ ∀ k, bv.ownBlock = some k → ¬ F k
  ao : OwnOk wr F base av hs
  ne : ∀ k, av.ownBlock = some k → bv.ownBlock ≠ some k
  el : ∀ y ∈ hs, Bytes wr y.A y.l ∧ y.l.length ≤ y.c ∧ (0 < y.l.length → ∀ a, y.A = some a → ¬ F a.block ∧ bv.ownBlock ≠ some a.block ∧ av.ownBlock ≠ some a.block)
section
variable {w wr w1 W : World} {bt bl base : Nat} {s s' : TS} {ls ls' : LS} {F : Nat → Prop} {A : Option Addr} {b : List Hd} {bv av v1 : Value} {L L1 : List UInt8} {hs : List Hd}
theorem row_keep {G : Nat → Prop} (h : RowOk wr F A b) (lo : (0 < b.length → ∀ a, A = some a → a.block < base) ∧ ∀ y ∈ b, 0 < y.l.length → ∀ a, y.A = some a → a.block < base) (k : Keep G wr w1) (hG : ∀ j, G j → base ≤ j) : RowOk w1 F A b :=
  ⟨reads_away_of h.row k (fun hp a ha hg => by have := lo.1 hp a ha; have := hG _ hg; omega), fun y hy => ⟨reads_away_of (h.ins y hy).1 k (fun hp a ha hg => by have := lo.2 y hy hp a ha; have := hG _ hg; omega), (h.ins y hy).2⟩, h.off, h.offs⟩
theorem EchoAt.to (h : EchoAt w bt bl base s ls F A b bv L av hs wr) (hB : Below wr.heap.size wr w1) : EchoAt w bt bl base s ls F A b bv L av hs w1 :=
  ⟨h.win.to hB, Nat.le_trans h.bs hB.size, h.rb.below hB, h.lo, ⟨pw_own_below h.bo.1 hB, h.bo.2⟩, h.ao.below hB, h.ne, fun y hy => ⟨(h.el y hy).1.below hB, (h.el y hy).2⟩⟩
/-- bv grew. -/
theorem EchoAt.grow (h : EchoAt w bt bl base s ls F A b bv L av hs wr) (hb : w.heap.size ≤ base) (hg : wr.grownBy w1 bv.ownBlock) (hat : v1.ownBlock = bv.ownBlock ∨ ∃ g, v1.ownBlock = some g ∧ wr.heap.size ≤ g) (hv : w1.ownsRow base 5 1 v1 L1.length (encs b8 L1)) : EchoAt w bt bl base s ls F A b v1 L1 av hs w1 := by
  have hk : Keep (fun k => bv.ownBlock = some k) wr w1 := Keep.of_grown hg (fun k hk => hk)
  have hlo : ∀ j, bv.ownBlock = some j → base ≤ j := fun j hj => own_base h.bo.1 j hj
  have hoff : ∀ k, ¬ F k → bv.ownBlock ≠ some k → k < wr.heap.size → v1.ownBlock ≠ some k := fun k h1 h2 h3 e => by
    rcases hat with e2 | ⟨g, e2, hle⟩
    · exact h2 (e2 ▸ e)
    · rw [e2] at e; injection e with e; omega
  refine ⟨h.win.keep hk (fun j hj e => h.bo.2 j e hj) (fun j hj => Nat.le_trans hb (hlo j hj)), Nat.le_trans h.bs hk.size, row_keep h.rb h.lo hk hlo, h.lo, ⟨hv, fun k hk2 hf => ?_⟩, ⟨hk.own h.ao.1 (fun j hj => h.ne j hj), h.ao.2⟩, fun k hk2 => hoff k (h.ao.2 k hk2) (h.ne k hk2) (own_lt h.ao.1 k hk2), fun y hy => ⟨reads_away_of (h.el y hy).1 hk (fun hp a ha => ((h.el y hy).2.2 hp a ha).2.1), (h.el y hy).2.1, fun hp a ha => ?_⟩⟩
  · rcases hat with e2 | ⟨g, e2, hle⟩
    · exact h.bo.2 k (e2 ▸ hk2) hf
    · rw [e2] at hk2; injection hk2 with hk2; have := (h.win.lt k hf).2; omega
  · obtain ⟨g1, g2, g3⟩ := (h.el y hy).2.2 hp a ha
    exact ⟨g1, hoff _ g1 g2 (reads_lt (h.el y hy).1 hp a ha), g3⟩
/-- The log took a record. -/
theorem EchoAt.log (h : EchoAt w bt bl base s ls F A b bv L av hs wr) (k : WalOut w bt bl s' ls' wr F w1) : ∃ F', EchoAt w bt bl base s' ls' F' A b bv L av hs w1 ∧ (∀ j, F' j → F j ∨ wr.heap.size ≤ j) ∧ Keep F wr w1 := by
  obtain ⟨F', h1, h2, h3⟩ := k
  have hn : ∀ j, ¬ F j → j < wr.heap.size → ¬ F' j := fun j hf hl hf' => (h2 j hf').elim hf (fun e => by omega)
  refine ⟨F', ⟨h1, Nat.le_trans h.bs h3.size, h.rb.step h3 h2, h.lo, ⟨h3.own h.bo.1 h.bo.2, fun k hk => hn k (h.bo.2 k hk) (own_lt h.bo.1 k hk)⟩, h.ao.step h3 h2, h.ne, fun y hy => ⟨reads_away_of (h.el y hy).1 h3 (fun hp a ha => ((h.el y hy).2.2 hp a ha).1), (h.el y hy).2.1, fun hp a ha => ?_⟩⟩, h2, h3⟩
  obtain ⟨g1, g2, g3⟩ := (h.el y hy).2.2 hp a ha
  exact ⟨hn _ g1 (reads_lt (h.el y hy).1 hp a ha), g2, g3⟩
/-- One more of one's own to all. -/
theorem EchoAt.more (h : EchoAt w bt bl base s ls F A b bv L av hs wr) (hb : w.heap.size ≤ base) {y : Hd} (hy : Bytes wr y.A y.l) (hc : y.l.length ≤ y.c) (ho : 0 < y.l.length → ∀ a, y.A = some a → ¬ F a.block ∧ bv.ownBlock ≠ some a.block ∧ av.ownBlock ≠ some a.block) (hg : wr.grownBy w1 av.ownBlock) (hat : v1.ownBlock = av.ownBlock ∨ ∃ g, v1.ownBlock = some g ∧ wr.heap.size ≤ g) (hv : HOwn w1 base v1 (hs ++ [y])) : EchoAt w bt bl base s ls F A b bv L v1 (hs ++ [y]) w1 := by
  have hk : Keep (fun k => av.ownBlock = some k) wr w1 := Keep.of_grown hg (fun k hk => hk)
  have hlo : ∀ j, av.ownBlock = some j → base ≤ j := fun j hj => own_base h.ao.1 j hj
  have he : ∀ z ∈ hs ++ [y], Bytes wr z.A z.l ∧ z.l.length ≤ z.c ∧ (0 < z.l.length → ∀ a, z.A = some a → ¬ F a.block ∧ bv.ownBlock ≠ some a.block ∧ av.ownBlock ≠ some a.block) := fun z hz => by
    rcases List.mem_append.1 hz with hz | hz
    · exact h.el z hz
    · rw [List.mem_singleton.1 hz]; exact ⟨hy, hc, ho⟩
  refine ⟨h.win.keep hk (fun j hj e => h.ao.2 j e hj) (fun j hj => Nat.le_trans hb (hlo j hj)), Nat.le_trans h.bs hk.size, row_keep h.rb h.lo hk hlo, h.lo, ⟨hk.own h.bo.1 (fun j hj e => h.ne j e hj), h.bo.2⟩, ⟨hv, fun k hk2 hf => ?_⟩, fun k hk2 e => ?_, fun z hz => ⟨reads_away_of (he z hz).1 hk (fun hp a ha => ((he z hz).2.2 hp a ha).2.2), (he z hz).2.1, fun hp a ha => ?_⟩⟩
  · rcases hat with e2 | ⟨g, e2, hle⟩
    · exact h.ao.2 k (e2 ▸ hk2) hf
    · rw [e2] at hk2; injection hk2 with hk2; have := (h.win.lt k hf).2; omega
  · rcases hat with e2 | ⟨g, e2, hle⟩
    · exact h.ne k (e2 ▸ hk2) e
    · rw [e2] at hk2; injection hk2 with hk2; have := own_lt h.bo.1 k e; omega
  · obtain ⟨g1, g2, g3⟩ := (he z hz).2.2 hp a ha
    refine ⟨g1, g2, fun e => ?_⟩
    rcases hat with e2 | ⟨g, e2, hle⟩
    · exact g3 (e2 ▸ e)
    · rw [e2] at e; injection e with e; have := reads_lt (he z hz).1 hp a ha; omega
theorem EchoAt.row {Av : Option Addr} {cv : Nat} (h : EchoAt w bt bl base s ls F A b bv L (.slice Av hs.length cv) hs wr) : RowOk wr F Av hs := by
  refine ⟨own_reads_of' h.ao.1, fun y hy => ⟨(h.el y hy).1, (h.el y hy).2.1⟩, fun hp a ha hf => ?_, fun y hy hp a ha => ((h.el y hy).2.2 hp a ha).1⟩
  subst ha
  exact h.ao.2 a.block rfl hf
end
theorem endOf_next (rs : List (List UInt8)) (k : Nat) (r : List UInt8) (h : rs[k]? = some r) : endOf rs (k + 1) = endOf rs k + (r.length + 8) := by
  unfold endOf
  rw [List.take_add_one, h]
  simp
/-- Does the next one fit? -/
theorem whole_lt (rs : List (List UInt8)) (k n : Nat) (r : List UInt8) (h : rs[k]? = some r) (hk : k ≤ wholeOf rs n) : endOf rs k + r.length + 8 ≤ n ↔ k < wholeOf rs n := by
  have hl := (List.getElem?_eq_some_iff.1 h).1
  have h1 := endOf_next rs k r h
  constructor
  · intro h2
    have h3 := whole_ge (L := rs) (m := k + 1) (c := n) (by omega) (by omega)
    omega
  · intro h2
    have h3 := endOf_mono rs (k + 1) (wholeOf rs n) (by omega)
    have h4 := wholeOf_end rs n
    omega
end Go.Proofs.YtfnnjgbldojigaaDoor
