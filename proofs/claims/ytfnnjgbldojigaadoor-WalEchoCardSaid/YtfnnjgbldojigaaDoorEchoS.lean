/- WalEcho's last region: its state while the orders differ, and its steps. -/
import Derived.Test.YtfnnjgbldojigaaDoorEchoR
set_option linter.unusedVariables false
set_option linter.unusedSimpArgs false
namespace Go.Proofs.YtfnnjgbldojigaaDoor
open Go.RowKit Go.Proofs.YtfnnjgbldojigaaDoorW.PrintWords Go.Proofs.Mine Go.Proofs.Mine.Crc

def moreL : List UInt8 := [109, 111, 114, 101]
abbrev moreC : Array Value := #[.int .u8 109, .int .u8 111, .int .u8 114, .int .u8 101]
structure EEnv (w w31 : World) (bt bl : Nat) (s : TS) (F : Nat → Prop) (Av : Option Addr) (hs : List Hd) (i : Nat) (rs2 : List (List UInt8)) : Prop where
  win : WalIn w bt bl s (gl rs2) w31 F
  row : RowOk w31 F Av hs
  il : i ≤ hs.length
  h8 : hs.length ≤ 8
  r2 : rs2 = (hs.take i).map (·.l) ++ [moreL]
  sz : ∀ r ∈ rs2, r.length ≤ 1000000
structure EBase (w31 : World) (bl : Nat) (Av : Option Addr) (cv i : Nat) (a : Act) (w : World) : Prop where
  df : a.defers = []
  sz : a.tmps.size = 133
  hB : Below w31.heap.size w31 w
  t119 : a.tmps.getD 119 undef = .bool true
  t120 : a.tmps.getD 120 undef = .pointer (some ⟨bl, 0, none⟩)
  t125 : a.tmps.getD 125 undef = .slice Av i cv
def F22 (rs2 : List (List UInt8)) (a : Act) (w : World) (X : Nat → Prop) : Prop := ∃ A c, ∃ g : List Hd, a.tmps.getD 121 undef = .slice A g.length c ∧ RowOk w X A g ∧ g.map (·.l) = rs2
def F23 (a : Act) (w : World) (e : Nat) : Prop := a.tmps.getD 122 undef = .slice (some ⟨e, 0, none⟩) 0 0 ∧ w.heap[e]? = some (.cells #[] 32 (0, 0))
/-- What 22, 23, 27 have left; V: the block that 27, 31 may write. -/
def SA (N : Nat) (hs : List Hd) (i : Nat) (rs2 : List (List UInt8)) : Nat → Act → World → (Nat → Prop) → Prop
  | 0, _, _, V => ∀ k, ¬ V k
  | 1, a, w, V => (∀ k, ¬ V k) ∧ F22 rs2 a w V
  | 2, a, w, V => ∃ e, (∀ k, V k ↔ k = e) ∧ F23 a w e
  | 3, a, w, V => ∃ e, (∀ k, V k ↔ k = e) ∧ F23 a w e ∧ F22 rs2 a w V
  | _, a, w, V => ∃ A c, a.tmps.getD 126 undef = .slice A i c ∧ HOwn w N (.slice A i c) (hs.take i) ∧ (∀ k, V k ↔ (Value.slice A i c).ownBlock = some k) ∧ F22 rs2 a w V
/-- What 28, 29, 30 have left. -/
def SB (N : Nat) : Nat → Act → World → (Nat → Prop) → Prop
  | 0, _, _, _ => True
  | 1, a, w, V => ∃ g, a.tmps.getD 127 undef = .slice (some ⟨g, 0, none⟩) 4 4 ∧ w.heap[g]? = some (.cells moreC 5 (0, 0)) ∧ N ≤ g ∧ ¬ V g
  | 2, a, w, V => ∃ g, a.tmps.getD 128 undef = .slice (some ⟨g, 0, none⟩) 4 4 ∧ w.heap[g]? = some (.cells moreC 5 (4, 5)) ∧ N ≤ g ∧ ¬ V g
  | _, a, w, V => ∃ g p, a.tmps.getD 129 undef = .slice (some ⟨p, 0, none⟩) 1 1 ∧ w.heap[p]? = some (.cells #[.slice (some ⟨g, 0, none⟩) 4 4] 32 (0, 0)) ∧ w.heap[g]? = some (.cells moreC 5 (4, 5)) ∧ N ≤ g ∧ N ≤ p ∧ ¬ V g ∧ ¬ V p
structure ESt (w31 : World) (bl : Nat) (Av : Option Addr) (cv : Nat) (hs : List Hd) (i : Nat) (rs2 : List (List UInt8)) (ph b : Nat) (a : Act) (w : World) : Prop where
  base : EBase w31 bl Av cv i a w
  st : ∃ V : Nat → Prop, (∀ k, V k → w31.heap.size ≤ k ∧ k < w.heap.size) ∧ SA w31.heap.size hs i rs2 ph a w V ∧ SB w31.heap.size b a w V
section
variable {w31 w w1 : World} {bl cv i N : Nat} {Av : Option Addr} {hs : List Hd} {rs2 : List (List UInt8)} {a : Act} {V : Nat → Prop} {ph b : Nat}
theorem EBase.put {d : Nat} {v : Value} (h : EBase w31 bl Av cv i a w) (h1 : d ≠ 119) (h2 : d ≠ 120) (h3 : d ≠ 125) (hB : Below w31.heap.size w31 w1) : EBase w31 bl Av cv i (a.put (some d) v) w1 :=
  ⟨h.df, put_size.trans h.sz, hB, (put_other h1).trans h.t119, (put_other h2).trans h.t120, (put_other h3).trans h.t125⟩
theorem F22.put {d : Nat} {v : Value} (h : F22 rs2 a w V) (hd : d ≠ 121) : F22 rs2 (a.put (some d) v) w V := by
  obtain ⟨A, c, g, h1, h2, h3⟩ := h
  exact ⟨A, c, g, (put_other hd).trans h1, h2, h3⟩
theorem F22.below (h : F22 rs2 a w V) (hB : Below w.heap.size w w1) : F22 rs2 a w1 V := by
  obtain ⟨A, c, g, h1, h2, h3⟩ := h
  exact ⟨A, c, g, h1, h2.below hB, h3⟩
theorem F23.put {d e : Nat} {v : Value} (h : F23 a w e) (hd : d ≠ 122) : F23 (a.put (some d) v) w e := ⟨(put_other hd).trans h.1, h.2⟩
theorem F23.below {e : Nat} (h : F23 a w e) (hB : Below w.heap.size w w1) : F23 a w1 e := ⟨h.1, (Keep.of_below hB (fun _ => False)).blk h.2 (fun h => h)⟩
theorem SA.put {d : Nat} {v : Value} (h : SA N hs i rs2 ph a w V) (h1 : d ≠ 121) (h2 : d ≠ 122) (h3 : d ≠ 126) : SA N hs i rs2 ph (a.put (some d) v) w V := by
  match ph, h with
  | 0, h => exact h
  | 1, h => exact ⟨h.1, h.2.put h1⟩
  | 2, ⟨e, hv, h⟩ => exact ⟨e, hv, h.put h2⟩
  | 3, ⟨e, hv, h, g⟩ => exact ⟨e, hv, h.put h2, g.put h1⟩
  | _ + 4, ⟨A, c, h, g, hv, k⟩ => exact ⟨A, c, (put_other h3).trans h, g, hv, k.put h1⟩
theorem SA.below (h : SA N hs i rs2 ph a w V) (hB : Below w.heap.size w w1) : SA N hs i rs2 ph a w1 V := by
  match ph, h with
  | 0, h => exact h
  | 1, h => exact ⟨h.1, h.2.below hB⟩
  | 2, ⟨e, hv, h⟩ => exact ⟨e, hv, h.below hB⟩
  | 3, ⟨e, hv, h, g⟩ => exact ⟨e, hv, h.below hB, g.below hB⟩
  | _ + 4, ⟨A, c, h, g, hv, k⟩ => exact ⟨A, c, h, pw_own_below g hB, hv, k.below hB⟩
theorem SB.put {d : Nat} {v : Value} (h : SB N b a w V) (h1 : d ≠ 127) (h2 : d ≠ 128) (h3 : d ≠ 129) : SB N b (a.put (some d) v) w V := by
  match b, h with
  | 0, h => trivial
  | 1, ⟨g, h, k⟩ => exact ⟨g, (put_other h1).trans h, k⟩
  | 2, ⟨g, h, k⟩ => exact ⟨g, (put_other h2).trans h, k⟩
  | _ + 3, ⟨g, p, h, k⟩ => exact ⟨g, p, (put_other h3).trans h, k⟩
theorem SB.keep {G : Nat → Prop} (h : SB N b a w V) (k : Keep G w w1) (hG : ∀ j, G j → V j) : SB N b a w1 V := by
  match b, h with
  | 0, h => trivial
  | 1, ⟨g, h, k1, k2, k3⟩ => exact ⟨g, h, k.blk k1 (fun hj => k3 (hG _ hj)), k2, k3⟩
  | 2, ⟨g, h, k1, k2, k3⟩ => exact ⟨g, h, k.blk k1 (fun hj => k3 (hG _ hj)), k2, k3⟩
  | _ + 3, ⟨g, p, h, k1, k2, k3, k4, k5, k6⟩ => exact ⟨g, p, h, k.blk k1 (fun hj => k6 (hG _ hj)), k.blk k2 (fun hj => k5 (hG _ hj)), k3, k4, k5, k6⟩
theorem SB.below (h : SB N b a w V) (hB : Below w.heap.size w w1) : SB N b a w1 V := h.keep (Keep.of_below hB (fun _ => False)) (fun _ h => h.elim)
/-- Another block that may be written, none of theirs. -/
theorem SB.turn {V' : Nat → Prop} (h : SB N b a w V) (hV : ∀ k, k < w.heap.size → ¬ V k → ¬ V' k) : SB N b a w V' := by
  match b, h with
  | 0, h => trivial
  | 1, ⟨g, h, k1, k2, k3⟩ => exact ⟨g, h, k1, k2, hV g (blk_lt k1) k3⟩
  | 2, ⟨g, h, k1, k2, k3⟩ => exact ⟨g, h, k1, k2, hV g (blk_lt k1) k3⟩
  | _ + 3, ⟨g, p, h, k1, k2, k3, k4, k5, k6⟩ => exact ⟨g, p, h, k1, k2, k3, k4, hV g (blk_lt k2) k5, hV p (blk_lt k1) k6⟩
end
end Go.Proofs.YtfnnjgbldojigaaDoor
