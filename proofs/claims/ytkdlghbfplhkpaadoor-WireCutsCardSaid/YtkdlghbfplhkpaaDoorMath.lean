/- The plain mathematics of the sum of bytes (CRC-32C): no program in sight. -/
import Derived.Laws.BitsAllLaws
namespace Go.Proofs.Mine.Crc

def poly : BitVec 32 := 2197175160#32
def turn1 (c : BitVec 32) : BitVec 32 := if c.getLsbD 0 = true then (c >>> 1) ^^^ poly else c >>> 1
def turnN : Nat → BitVec 32 → BitVec 32
  | 0, c => c
  | n + 1, c => turn1 (turnN n c)
def turn8 (c : BitVec 32) : BitVec 32 := turnN 8 c
def wide (x : UInt8) : BitVec 32 := x.toBitVec.setWidth 32
def turnB (c : BitVec 32) (x : UInt8) : BitVec 32 := turn8 (c ^^^ wide x)
def sumS (c : BitVec 32) (l : List UInt8) : BitVec 32 := l.foldl turnB c
def crc0 : BitVec 32 := ~~~ 0#32
def crc (l : List UInt8) : BitVec 32 := ~~~ (sumS crc0 l)

theorem turn1_xor (a b : BitVec 32) : turn1 (a ^^^ b) = turn1 a ^^^ turn1 b := by
  unfold turn1
  rw [BitVec.getLsbD_xor]
  cases a.getLsbD 0 <;> cases b.getLsbD 0 <;> simp <;> ext i hi <;> simp
  all_goals
    generalize poly[i] = p
    generalize a.getLsbD (1 + i) = x
    generalize b.getLsbD (1 + i) = y
    cases p <;> cases x <;> cases y <;> rfl

theorem turnN_xor (n : Nat) (a b : BitVec 32) : turnN n (a ^^^ b) = turnN n a ^^^ turnN n b := by
  induction n with
  | zero => rfl
  | succ n ih => simp only [turnN, ih, turn1_xor]

/-- Where the lowest n bits are nothing, n turns are a shift. -/
theorem turnN_high (n : Nat) (a : BitVec 32) (h : ∀ i, i < n → a.getLsbD i = false) : turnN n a = a >>> n := by
  induction n with
  | zero => simp [turnN]
  | succ n ih =>
    have ih := ih (fun i hi => h i (by omega))
    have h0 : (a >>> n).getLsbD 0 = false := by simp [h n (by omega)]
    simp only [turnN, ih, turn1, h0]
    simp only [Bool.false_eq_true, if_false]
    rw [← BitVec.shiftRight_add]

theorem turn1_inj {a b : BitVec 32} (h : turn1 a = turn1 b) : a = b := by
  have hp : poly.getLsbD 31 = true := by decide
  have h31 : ∀ c : BitVec 32, (turn1 c).getLsbD 31 = c.getLsbD 0 := by
    intro c
    unfold turn1
    cases hc : c.getLsbD 0 <;> simp [hp]
  have h0 : a.getLsbD 0 = b.getLsbD 0 := by rw [← h31 a, ← h31 b, h]
  have hs : a >>> 1 = b >>> 1 := by
    unfold turn1 at h
    rw [h0] at h
    cases hb : b.getLsbD 0
    · simp only [hb, Bool.false_eq_true, if_false] at h
      exact h
    · simp only [hb, if_true] at h
      have := congrArg (· ^^^ poly) h
      simpa [BitVec.xor_assoc] using this
  apply BitVec.eq_of_getLsbD_eq
  intro i hi
  cases i with
  | zero => exact h0
  | succ i =>
    have := congrArg (fun c => BitVec.getLsbD c i) hs
    simpa [Nat.add_comm] using this

theorem turnN_inj (n : Nat) {a b : BitVec 32} (h : turnN n a = turnN n b) : a = b := by
  induction n with
  | zero => exact h
  | succ n ih => exact ih (turn1_inj h)

theorem wide_inj {x y : UInt8} (h : wide x = wide y) : x = y := by
  unfold wide at h
  have := congrArg BitVec.toNat h
  simp [BitVec.toNat_setWidth] at this
  have hx := x.toNat_lt
  have hy := y.toNat_lt
  apply UInt8.toNat_inj.1
  omega

theorem turnB_inj {a b : BitVec 32} {x : UInt8} (h : turnB a x = turnB b x) : a = b := by
  have := turnN_inj 8 h
  have := congrArg (· ^^^ wide x) this
  simpa [BitVec.xor_assoc] using this

theorem sumS_inj (l : List UInt8) : ∀ {a b : BitVec 32}, sumS a l = sumS b l → a = b := by
  induction l with
  | nil => exact fun h => h
  | cons x l ih => exact fun h => turnB_inj (ih h)

theorem crc_turned (p s : List UInt8) (x y : UInt8) (h : x ≠ y) : crc (p ++ x :: s) ≠ crc (p ++ y :: s) := by
  intro he
  apply h
  have h1 : sumS crc0 (p ++ x :: s) = sumS crc0 (p ++ y :: s) := by
    have := congrArg (~~~ ·) he
    simpa [crc] using this
  unfold sumS at h1
  rw [List.foldl_append, List.foldl_append, List.foldl_cons, List.foldl_cons] at h1
  have h2 := sumS_inj s h1
  have h3 := turnN_inj 8 h2
  generalize List.foldl turnB crc0 p = c at h3
  have := congrArg (c ^^^ ·) h3
  exact wide_inj (by simpa [← BitVec.xor_assoc] using this)

/-- By a table: what the eight turns are. -/
theorem turnB_table (c : BitVec 32) (x : UInt8) : turnB c x = (c >>> 8) ^^^ turn8 (wide ((c.setWidth 8 ^^^ x.toBitVec : BitVec 8).toNat.toUInt8)) := by
  have hlo : wide ((c.setWidth 8 ^^^ x.toBitVec : BitVec 8).toNat.toUInt8) = (c.setWidth 8 ^^^ x.toBitVec).setWidth 32 := by
    unfold wide
    congr 1
    apply BitVec.eq_of_toNat_eq
    have : (c.setWidth 8 ^^^ x.toBitVec : BitVec 8).toNat < 256 := (c.setWidth 8 ^^^ x.toBitVec : BitVec 8).isLt
    simp only [UInt8.toNat_toBitVec]
    show UInt8.toNat (UInt8.ofNat _) = _
    rw [UInt8.toNat_ofNat']
    omega
  have hsplit : c ^^^ wide x = (c &&& 0xFFFFFF00#32) ^^^ ((c.setWidth 8 ^^^ x.toBitVec).setWidth 32) := by
    apply BitVec.eq_of_getLsbD_eq
    intro i hi
    have hm : ∀ i, i < 32 → (0xFFFFFF00#32).getLsbD i = decide (8 ≤ i) := by decide
    simp [wide, hm i hi]
    by_cases h8 : i < 8
    · have : ¬ 8 ≤ i := by omega
      simp [h8, this, hi]
    · have hx : x.toBitVec.getLsbD i = false := BitVec.getLsbD_of_ge _ _ (by omega)
      simp [h8, hx, hi]
      omega
  unfold turnB turn8
  rw [hlo, hsplit, turnN_xor, turnN_high 8 (c &&& 0xFFFFFF00#32)]
  · congr 1
    apply BitVec.eq_of_getLsbD_eq
    intro i hi
    have hm : ∀ i, i < 32 → (0xFFFFFF00#32).getLsbD i = decide (8 ≤ i) := by decide
    simp
    by_cases h : 8 + i < 32
    · simp [hm _ h]
    · simp [BitVec.getLsbD_of_ge c (8 + i) (by omega)]
  · intro i hi
    have hm : ∀ i, i < 32 → (0xFFFFFF00#32).getLsbD i = decide (8 ≤ i) := by decide
    rw [BitVec.getLsbD_and, hm i (by omega)]
    have : ¬ 8 ≤ i := by omega
    simp [this]

end Go.Proofs.Mine.Crc
