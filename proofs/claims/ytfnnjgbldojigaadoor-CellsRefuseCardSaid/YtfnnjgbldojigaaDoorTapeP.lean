/- What a tape is in memory, what its calls do: plainly. -/
import Derived.Test.YtfnnjgbldojigaaDoorProg
import Derived.Test.YtfnnjgbldojigaaDoorBufF
import Derived.Test.YtfnnjgbldojigaaDoorKindW
import Derived.WalkSpells
import Derived.WalkLawsBesides
import Derived.Lib.Hide
import Derived.Deep.QuietTactic
import Derived.Deep.DeepCutAuto
import Derived.Deep.RegionLaw
import Derived.BigQuiet
set_option linter.unusedVariables false
set_option linter.unusedSimpArgs false
namespace Go.Proofs.YtfnnjgbldojigaaDoor
open Go.RowKit Go.Proofs.YtfnnjgbldojigaaDoorW.PrintWords Go.Proofs.Mine

/-- A tape. -/
structure TS where
  room : Int
  l : List Int
  synced : Nat
  left : Int
  dead : Bool
  ops : Int
/-- What holds of every tape. -/
structure TOk (s : TS) : Prop where
  room1 : 1 ≤ s.room
  room2 : s.room ≤ 1073741824
  len : (s.l.length : Int) ≤ s.room
  syn : s.synced ≤ s.l.length
  left0 : 0 ≤ s.left
  left1 : s.left ≤ 9223372036854775807
  ops0 : 0 ≤ s.ops
  ops1 : s.ops ≤ 1000000000
  ok : s.dead = false ∨ s.dead = true
def new0 (room : Int) : TS := ⟨room, [], 0, 0, false, 0⟩
def mayE (s : TS) (n : Int) : Int := if s.dead = true then 13 else if s.room < n then 14 else 0
def spendS (s : TS) : TS := if 0 < s.left then (if s.left = 1 then { s with left := 0, dead := true } else { s with left := s.left - 1, dead := false, ops := s.ops + 1 }) else (if s.dead = true then s else { s with ops := s.ops + 1 })
def spendE (s : TS) : Int := if 0 < s.left then (if s.left = 1 then 13 else 0) else (if s.dead = true then 13 else 0)
def appendS (s : TS) (x : List Int) : TS := if mayE s ((s.l.length : Int) + (x.length : Int)) = 0 then { spendS s with l := s.l ++ x } else s
def appendE (s : TS) (x : List Int) : Int := if mayE s ((s.l.length : Int) + (x.length : Int)) = 0 then spendE s else mayE s ((s.l.length : Int) + (x.length : Int))
def syncS (s : TS) : TS := if mayE s 0 = 0 then (if spendE s = 0 then { spendS s with synced := s.l.length } else spendS s) else s
def syncE (s : TS) : Int := if mayE s 0 = 0 then spendE s else mayE s 0
def replaceS (s : TS) (x : List Int) : TS := if mayE s (x.length : Int) = 0 then (if spendE s = 0 then { spendS s with l := x, synced := x.length } else spendS s) else s
def replaceE (s : TS) (x : List Int) : Int := if mayE s (x.length : Int) = 0 then spendE s else mayE s (x.length : Int)
def stopS (s : TS) (n : Int) : TS := { s with left := if n < 0 then 0 else n }
def crashK (s : TS) (pick : Int) : Nat := (pick % (((s.l.length - s.synced : Nat) : Int) + 1)).toNat
def crashS (s : TS) (pick : Int) : TS := { s with l := s.l.take (s.synced + crashK s pick), synced := s.synced + crashK s pick, dead := false, left := 0 }
/-- An error by its number, at what it says. -/
def ErrV (w : World) (ev : Value) (e : Int) : Prop :=
  (e = 0 ∧ ev = .nilIface) ∨ (e ≠ 0 ∧ ∃ b ps, ev = .iface 99 (.pointer (some ⟨b, 0, none⟩)) ∧ AtIs w b ps (.num e) ∧ ps.length < 16)
theorem ErrV.below {w w1 : World} {ev : Value} {e : Int} (h : ErrV w ev e) (hB : Below w.heap.size w w1) : ErrV w1 ev e := by
  rcases h with h | ⟨h0, b, ps, h1, h2, h3⟩
  · exact .inl h
  · exact .inr ⟨h0, b, ps, h1, h2.below hB, h3⟩
/-- A tape at block b; F: the blocks that are its own. -/
def TapeAt (w : World) (base : Nat) (F : Nat → Prop) (b : Nat) (s : TS) : Prop :=
  F b ∧ (∀ k, F k → base ≤ k ∧ k < w.heap.size) ∧ ∃ v, w.heap[b]? = some (.cells #[.int .i64 s.room, v, .int .i64 (s.synced : Int), .int .i64 s.left, .bool s.dead, .int .i64 s.ops] 78 (0, 0)) ∧ Buf .u8 5 w base v s.l ∧ (∀ k, v.ownBlock = some k → F k ∧ k ≠ b)
def Tape' (w : World) (base : Nat) (F : Nat → Prop) (b : Nat) (s : TS) (w' : World) : Prop :=
  ∃ F', TapeAt w' base F' b s ∧ (∀ k, F' k → F k ∨ w.heap.size ≤ k) ∧ Keep F w w'
theorem TapeAt.keep {w w1 : World} {base b : Nat} {F G : Nat → Prop} {s : TS} (h : TapeAt w base F b s) (k : Keep G w w1) (hg : ∀ j, F j → ¬ G j) : TapeAt w1 base F b s := by
  obtain ⟨h1, h2, v, hb, hR, h3⟩ := h
  exact ⟨h1, fun j hj => ⟨(h2 j hj).1, Nat.lt_of_lt_of_le (h2 j hj).2 k.size⟩, v, k.blk hb (hg b h1), hR.keep k (fun j hj => hg j (h3 j hj).1), h3⟩
theorem TapeAt.below {w w1 : World} {base b : Nat} {F : Nat → Prop} {s : TS} (h : TapeAt w base F b s) (hB : Below w.heap.size w w1) : TapeAt w1 base F b s :=
  h.keep (Keep.of_below hB (fun _ => False)) (fun _ _ h => h)
theorem Tape'.after {w W w2 : World} {base b : Nat} {F F1 : Nat → Prop} {s : TS} (hF1 : ∀ k, F1 k → F k ∨ w.heap.size ≤ k) (hK : Keep F w W) (h : Tape' W base F1 b s w2) : Tape' w base F b s w2 := by
  obtain ⟨F', h1, h2, h3⟩ := h
  refine ⟨F', h1, fun k hk => ?_, hK.trans h3 hF1⟩
  rcases h2 k hk with h | h
  · exact hF1 k h
  · exact .inr (Nat.le_trans hK.size h)
theorem Tape'.refl {w : World} {base b : Nat} {F : Nat → Prop} {s : TS} (h : TapeAt w base F b s) : Tape' w base F b s w := ⟨F, h, fun _ h => .inl h, Keep.refl _ _⟩
theorem Tape'.below {w w1 w2 : World} {base b : Nat} {F : Nat → Prop} {s : TS} (h : Tape' w base F b s w1) (hB : Below w1.heap.size w1 w2) : Tape' w base F b s w2 := by
  obtain ⟨F', h1, h2, h3⟩ := h
  exact ⟨F', h1.below hB, h2, h3.trans (Keep.of_below hB (fun _ => False)) (fun _ h => h.elim)⟩
/-- The cells of a tape, laid open. -/
structure TOpen (w : World) (base : Nat) (F : Nat → Prop) (b : Nat) (s : TS) (A : Option Addr) (c : Nat) : Prop where
  inF : F b
  lt : ∀ k, F k → base ≤ k ∧ k < w.heap.size
  blk : w.heap[b]? = some (.cells #[.int .i64 s.room, .slice A s.l.length c, .int .i64 (s.synced : Int), .int .i64 s.left, .bool s.dead, .int .i64 s.ops] 78 (0, 0))
  buf : Buf .u8 5 w base (.slice A s.l.length c) s.l
  own : ∀ k, (Value.slice A s.l.length c).ownBlock = some k → F k ∧ k ≠ b
theorem TapeAt.open_ {w : World} {base b : Nat} {F : Nat → Prop} {s : TS} (h : TapeAt w base F b s) : ∃ A c, TOpen w base F b s A c := by
  obtain ⟨h1, h2, v, h3, h4, h5⟩ := h
  obtain ⟨A, c, rfl⟩ := h4.slice
  exact ⟨A, c, h1, h2, h3, h4, h5⟩
/-- Cells of the tape's own block are set: all six, as they are then. -/
theorem tape_set {w w1 : World} {base b : Nat} {F : Nat → Prop} {s s1 : TS} {A : Option Addr} {c : Nat} (h : TOpen w base F b s A c) (hK : Keep (fun k => k = b) w w1) (hl : s1.l = s.l)
    (hb : w1.heap[b]? = some (.cells #[.int .i64 s1.room, .slice A s.l.length c, .int .i64 (s1.synced : Int), .int .i64 s1.left, .bool s1.dead, .int .i64 s1.ops] 78 (0, 0))) : Tape' w base F b s1 w1 := by
  refine ⟨F, ⟨h.inF, fun k hk => ⟨(h.lt k hk).1, Nat.lt_of_lt_of_le (h.lt k hk).2 hK.size⟩, .slice A s.l.length c, hb, ?_, h.own⟩, fun _ h => .inl h, hK.mono (fun k e _ => by subst e; exact h.inF)⟩
  rw [hl]
  exact h.buf.keep hK (fun j hj e => (h.own j hj).2 e)
end Go.Proofs.YtfnnjgbldojigaaDoor
