/- The walks of turn, word, four: what each of them comes to. -/
import Derived.Test.YtkdlghbfplhkpaaDoorProg
import Derived.Test.YtkdlghbfplhkpaaDoorMath
import Derived.Test.YtkdlghbfplhkpaaDoorWWords
import Derived.WalkSpells
import Derived.WalkLawsBesides
import Derived.Lib.Hide
import Derived.Lib.SlBytesConst
import Derived.Deep.QuietTactic
import Derived.BigQuiet
set_option linter.unusedVariables false
set_option linter.unusedSimpArgs false
namespace Go.Proofs.YtkdlghbfplhkpaaDoor
open Go.RowKit Go.Proofs.YtkdlghbfplhkpaaDoorW.PrintWords
open Go.Proofs.Mine.Crc

theorem half32 (d : BitVec 32) : ((d.toNat : Int) / (2 : Int)) = ((d >>> 1).toNat : Int) := by
  simp only [BitVec.toNat_ushiftRight, Nat.shiftRight_eq_div_pow]; omega
theorem and1_32 (d : BitVec 32) : bits .and .u32 (d.toNat : Int) 1 = (if d.getLsbD 0 then 1 else 0 : Int) := by
  have := u32_and_nat d.toNat 1 d.isLt (by decide)
  rw [show ((1 : Nat) : Int) = 1 from rfl] at this
  rw [this, Nat.and_one_is_mod]
  have h : d.getLsbD 0 = decide (d.toNat % 2 = 1) := by simp [BitVec.getLsbD, Nat.testBit_zero]
  rw [h]
  by_cases h : d.toNat % 2 = 1
  · simp [h]
  · have : d.toNat % 2 = 0 := by omega
    simp [this]
theorem xor32 (a b : BitVec 32) : bits .xor .u32 (a.toNat : Int) (b.toNat : Int) = ((a ^^^ b).toNat : Int) := by
  rw [u32_xor_nat _ _ a.isLt b.isLt, BitVec.toNat_xor]

set_option maxHeartbeats 400000 in
theorem turn_any (c : BitVec 32) (w : World) :
    Calls Tryd.prog 57 #[.int .u32 (c.toNat : Int)] w fun e w' => e = .returned (.int .u32 ((turn8 c).toNat : Int)) ∧ w = w' := by
  go_enter Tryd.func57, Tryd.ntmps57
  go_wp2
  go_loop [0, 3] (fun c' i => ∃ (k : Nat), k ≤ 8 ∧ i = .int .i64 k ∧ c' = .int .u32 ((turnN k c).toNat : Int)) (fun _ i => 8 - (intOf i).toNat)
  case atStart => exact ⟨0, by omega, rfl, rfl⟩
  case round =>
    obtain ⟨k, hk, rfl, rfl⟩ := hrel
    have hH := Lib.hid (half32 (turnN k c))
    have hA := Lib.hid (and1_32 (turnN k c))
    have hP : RowKit.Hid ((2197175160 : Int) = (poly.toNat : Int)) := Lib.hid rfl
    by_cases hlt : k < 8
    · cases hb : (turnN k c).getLsbD 0
      · have h1 : (bits .and .u32 ((turnN k c).toNat : Int) 1 == 1) = false := by rw [hA.out, hb]; rfl
        have HB := Lib.hid hb; clear hb
        go_wp2
        go_round
        case rel => exact ⟨k + 1, by omega, by go_num, by rw [hH.out, turnN, turn1, HB.out]; rfl⟩
        case measure => simp [intOf]; omega
      · have h1 : (bits .and .u32 ((turnN k c).toNat : Int) 1 == 1) = true := by rw [hA.out, hb]; rfl
        have HB := Lib.hid hb; clear hb
        go_wp2
        go_round
        case rel => exact ⟨k + 1, by omega, by go_num, by rw [hH.out, hP.out, xor32, turnN, turn1, HB.out]; rfl⟩
        case measure => simp [intOf]; omega
    · obtain rfl : k = 8 := by omega
      go_wp2
      go_ret
      exact ⟨rfl, rfl⟩

/-- A byte as a cell. -/
abbrev b8 (x : UInt8) : Value := .int .u8 (x.toNat : Int)
abbrev Bytes (w : World) (A : Option Addr) (l : List UInt8) : Prop := ReadsOf b8 0 w A l.length l

theorem wide_nat (x : UInt8) : (x.toNat : Int) = ((wide x).toNat : Int) := by
  have := x.toNat_lt
  simp [wide]
theorem xorw (a : BitVec 32) (x : UInt8) : bits .xor .u32 (a.toNat : Int) (x.toNat : Int) = ((a ^^^ wide x).toNat : Int) := by
  rw [wide_nat, xor32]
theorem not32 (a : BitVec 32) : bits .xor .u32 4294967295 (a.toNat : Int) = ((~~~ a).toNat : Int) := by
  rw [show (4294967295 : Int) = ((4294967295#32).toNat : Int) from rfl, xor32]
  congr 2
theorem ret_u32 {a b : Int} (h : a = b) : Ending.returned (.int .u32 a) = .returned (.int .u32 b) := by rw [h]
theorem sumS_snoc (c : BitVec 32) (l : List UInt8) (x : UInt8) : sumS c (l ++ [x]) = turnB (sumS c l) x := by simp [sumS]

theorem turn_at (n : Int) (c : BitVec 32) (w : World) (h : n = (c.toNat : Int)) :
    Calls Tryd.prog 57 #[.int .u32 n] w fun e w' => e = .returned (.int .u32 ((turn8 c).toNat : Int)) ∧ w = w' := h ▸ turn_any c w

set_option maxRecDepth 100000 in
set_option maxHeartbeats 400000 in
theorem crc_short (A : Option Addr) (cap : Nat) (l : List UInt8) (w : World) (hr : Bytes w A l) (hl : l.length < 300) :
    Calls Tryd.prog 26 #[.slice A l.length cap] w fun e w' => e = .returned (.int .u32 ((crc l).toNat : Int)) ∧ w = w' := by
  have hd : decide ((l.length : Int) < 300) = true := by simp; omega
  have HR := Lib.hid hr
  clear hr
  go_enter Tryd.func26, Tryd.ntmps26
  go_wp2
  go_loop [3, 5, 15] (fun c' x i => ∃ (k : Nat), k ≤ l.length ∧ i = .int .i64 k ∧ c' = .int .u32 ((sumS crc0 (l.take k)).toNat : Int)) (fun _ _ i => l.length - (intOf i).toNat)
  case atStart => exact ⟨0, by omega, rfl, rfl⟩
  case round =>
    obtain ⟨k, hk, rfl, rfl⟩ := hrel
    by_cases hlt : k < l.length
    · obtain ⟨ad, rfl, hc⟩ := HR.out.2.2 (by omega)
      have hck := hc k hlt
      clear hc
      have hsn : RowKit.Hid (l.take (k + 1) = l.take k ++ [l.getD k 0]) := by
        rw [List.take_succ_eq_append_getElem hlt, List.getD_eq_getElem?_getD, List.getElem?_eq_getElem hlt]; rfl
      have hx := Lib.hid (xorw (sumS crc0 (l.take k)) (l.getD k 0))
      generalize l.getD k 0 = x at *
      have hx1 := x.toNat_lt
      go_wp2_with (go_at_call 57; refine (turn_at _ _ _ hx.out).mono ?_; rintro e w' ⟨rfl, rfl⟩)
      go_round
      case rel => exact ⟨k + 1, by omega, by go_num, by rw [hsn.out, sumS_snoc]; rfl⟩
      case measure => simp [intOf]; omega
    · obtain rfl : k = l.length := by omega
      have hn := Lib.hid (not32 (sumS crc0 l))
      rw [List.take_length]
      have hmax := Lib.hid (show IntKind.u32.max = 4294967295 from rfl)
      go_wp2
      go_ret
      exact ⟨ret_u32 (by rw [hmax.out, hn.out]; rfl), rfl⟩

theorem lit_reads' (W : World) (e : TypeId) (fr : Nat × Nat) (xs : List UInt8) (cs : Array Value) (m : Nat) (h : cs = (encs b8 xs).toArray) (hm : xs.length = m) (hx : m ≤ 9223372036854775807) : ReadsOf b8 0 (W.alloc (.cells cs e fr)) (some ⟨W.heap.size, 0, none⟩) m xs := by
  refine ⟨hm, hx, fun _ => ⟨_, rfl, fun j hj => ?_⟩⟩
  rw [add_plain, cell_of_row (W.alloc (.cells cs e fr)) W.heap.size j cs e fr (heap_alloc_new W _), h]
  have := encs_get (enc := b8) (d := 0) xs j (by omega)
  simpa using this
def digits : List UInt8 := [49, 50, 51, 52, 53, 54, 55, 56, 57]
theorem crc_digits : (crc digits).toNat = 3808858755 := by decide +kernel

set_option maxHeartbeats 400000 in
theorem known_any (w : World) : Calls Tryd.prog 6 #[] w fun e w' => e = .returned (.bool true) ∧ Below w.heap.size w w' := by
  have kc := fun (w : World) (C : Array Value) (n c : Nat) => Lib.run_convert_bytes_const (P := Tryd.prog) w 24 5 C n c Tryd.underlying24 Tryd.underlying5
  have hcr := Lib.hid (fun W fr => crc_short (some ⟨w.heap.size, 0, none⟩) 9 digits W fr (by decide))
  have hbytes := Lib.hid (lit_reads' w 5 (9, 10) digits #[.int .u8 49, .int .u8 50, .int .u8 51, .int .u8 52, .int .u8 53, .int .u8 54, .int .u8 55, .int .u8 56, .int .u8 57] 9 rfl rfl (by decide))
  have hd := Lib.hid crc_digits
  go_enter Tryd.func6, Tryd.ntmps6
  go_wp2_with (go_at_call 26; refine (hcr.out _ hbytes.out).mono ?_; rintro e w' ⟨rfl, rfl⟩; rw [hd.out])
  go_ret
  exact ⟨rfl, (Below.refl _ _).alloc (Nat.le_refl _) _⟩

theorem tmod_fix (a n : Int) (hn : 0 < n) : (if a.tmod n < 0 then a.tmod n + n else a.tmod n) = a % n := by
  have h1 := Int.tmod_add_mul_tdiv a n
  have h2 := Int.emod_add_mul_ediv a n
  rw [Int.tmod_eq_emod]
  have h3 := Int.emod_nonneg a (show n ≠ 0 by omega)
  have h4 := Int.emod_lt_of_pos a hn
  split <;> split <;> omega
set_option maxHeartbeats 400000 in
theorem within_any (a n : Int) (w : World) (hn : 0 < n) (hn2 : n ≤ 4611686018427387904) :
    Calls Tryd.prog 7 #[.int .i64 a, .int .i64 n] w fun e w' => e = .returned (.int .i64 (a % n)) ∧ w = w' := by
  have H := Lib.hid (tmod_fix a n hn)
  have h1 : -n < a.tmod n := by
    have := Int.tmod_eq_emod (a := a) (b := n)
    have h3 := Int.emod_nonneg a (show n ≠ 0 by omega)
    have h4 := Int.emod_lt_of_pos a hn
    split at this <;> omega
  have h0 : (n == 0) = false := by simp; omega
  by_cases hs : a.tmod n < 0
  · have hf : a.tmod n + n = a % n := by have := H.out; rwa [if_pos hs] at this
    have HF := Lib.hid hf
    clear hf H
    go_enter Tryd.func7, Tryd.ntmps7
    go_wp2
    go_ret
    exact ⟨by rw [HF.out]; rfl, rfl⟩
  · have hf : a.tmod n = a % n := by have := H.out; rwa [if_neg hs] at this
    have HF := Lib.hid hf
    clear hf H
    go_enter Tryd.func7, Tryd.ntmps7
    go_wp2
    go_ret
    exact ⟨by rw [HF.out]; rfl, rfl⟩

end Go.Proofs.YtkdlghbfplhkpaaDoor
