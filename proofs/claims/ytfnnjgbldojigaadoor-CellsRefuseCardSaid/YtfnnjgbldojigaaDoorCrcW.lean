/- The walks of turn, word, four: what each of them comes to. -/
import Derived.Test.YtfnnjgbldojigaaDoorProg
import Derived.Test.YtfnnjgbldojigaaDoorMath
import Derived.Test.YtfnnjgbldojigaaDoorWWords
import Derived.WalkSpells
import Derived.WalkLawsBesides
import Derived.Lib.Hide
import Derived.Deep.QuietTactic
import Derived.BigQuiet
set_option linter.unusedVariables false
set_option linter.unusedSimpArgs false
namespace Go.Proofs.YtfnnjgbldojigaaDoor
open Go.RowKit Go.Proofs.YtfnnjgbldojigaaDoorW.PrintWords
open Go.Proofs.Mine.Crc

theorem half32 (d : BitVec 32) : ((d.toNat : Int) / (2 : Int)) = ((d >>> 1).toNat : Int) := by
  simp only [BitVec.toNat_ushiftRight, Nat.shiftRight_eq_div_pow]; omega
theorem and1_32 (d : BitVec 32) : bits .and .u32 (d.toNat : Int) 1 = (if d.getLsbD 0 then 1 else 0 : Int) := by
  have := u32_and_nat d.toNat 1 d.isLt (by decide)
  rw [show ((1 : Nat) : Int) = 1 from rfl] at this
  rw [this, Nat.and_one_is_mod]
  have h : d.getLsbD 0 = decide (d.toNat % 2 = 1) := by simp [BitVec.getLsbD, Nat.testBit_zero]
  rw [h]
  by_cases h : d.toNat % 2 = 1
  · simp [h]
  · have : d.toNat % 2 = 0 := by omega
    simp [this]
theorem xor32 (a b : BitVec 32) : bits .xor .u32 (a.toNat : Int) (b.toNat : Int) = ((a ^^^ b).toNat : Int) := by
  rw [u32_xor_nat _ _ a.isLt b.isLt, BitVec.toNat_xor]

set_option maxHeartbeats 400000 in
theorem turn_any (c : BitVec 32) (w : World) :
    Calls Tryd.prog 77 #[.int .u32 (c.toNat : Int)] w fun e w' => e = .returned (.int .u32 ((turn8 c).toNat : Int)) ∧ w = w' := by
  go_enter Tryd.func77, Tryd.ntmps77
  go_wp2
  go_loop [0, 3] (fun c' i => ∃ (k : Nat), k ≤ 8 ∧ i = .int .i64 k ∧ c' = .int .u32 ((turnN k c).toNat : Int)) (fun _ i => 8 - (intOf i).toNat)
  case atStart => exact ⟨0, by omega, rfl, rfl⟩
  case round =>
    obtain ⟨k, hk, rfl, rfl⟩ := hrel
    have hH := Lib.hid (half32 (turnN k c))
    have hA := Lib.hid (and1_32 (turnN k c))
    have hP : RowKit.Hid ((2197175160 : Int) = (poly.toNat : Int)) := Lib.hid rfl
    by_cases hlt : k < 8
    · cases hb : (turnN k c).getLsbD 0
      · have h1 : (bits .and .u32 ((turnN k c).toNat : Int) 1 == 1) = false := by rw [hA.out, hb]; rfl
        have HB := Lib.hid hb; clear hb
        go_wp2
        go_round
        case rel => exact ⟨k + 1, by omega, by go_num, by rw [hH.out, turnN, turn1, HB.out]; rfl⟩
        case measure => simp [intOf]; omega
      · have h1 : (bits .and .u32 ((turnN k c).toNat : Int) 1 == 1) = true := by rw [hA.out, hb]; rfl
        have HB := Lib.hid hb; clear hb
        go_wp2
        go_round
        case rel => exact ⟨k + 1, by omega, by go_num, by rw [hH.out, hP.out, xor32, turnN, turn1, HB.out]; rfl⟩
        case measure => simp [intOf]; omega
    · obtain rfl : k = 8 := by omega
      go_wp2
      go_ret
      exact ⟨rfl, rfl⟩

/-- A byte as a cell. -/
abbrev b8 (x : UInt8) : Value := .int .u8 (x.toNat : Int)
abbrev Bytes (w : World) (A : Option Addr) (l : List UInt8) : Prop := ReadsOf b8 0 w A l.length l

theorem wide_nat (x : UInt8) : (x.toNat : Int) = ((wide x).toNat : Int) := by
  have := x.toNat_lt
  simp [wide]
theorem xorw (a : BitVec 32) (x : UInt8) : bits .xor .u32 (a.toNat : Int) (x.toNat : Int) = ((a ^^^ wide x).toNat : Int) := by
  rw [wide_nat, xor32]
theorem not32 (a : BitVec 32) : bits .xor .u32 4294967295 (a.toNat : Int) = ((~~~ a).toNat : Int) := by
  rw [show (4294967295 : Int) = ((4294967295#32).toNat : Int) from rfl, xor32]
  congr 2
theorem ret_u32 {a b : Int} (h : a = b) : Ending.returned (.int .u32 a) = .returned (.int .u32 b) := by rw [h]
theorem sumS_snoc (c : BitVec 32) (l : List UInt8) (x : UInt8) : sumS c (l ++ [x]) = turnB (sumS c l) x := by simp [sumS]

theorem turn_at (n : Int) (c : BitVec 32) (w : World) (h : n = (c.toNat : Int)) :
    Calls Tryd.prog 77 #[.int .u32 n] w fun e w' => e = .returned (.int .u32 ((turn8 c).toNat : Int)) ∧ w = w' := h ▸ turn_any c w

set_option maxRecDepth 100000 in
set_option maxHeartbeats 400000 in
theorem crc_short (A : Option Addr) (cap : Nat) (l : List UInt8) (w : World) (hr : Bytes w A l) (hl : l.length < 300) :
    Calls Tryd.prog 60 #[.slice A l.length cap] w fun e w' => e = .returned (.int .u32 ((crc l).toNat : Int)) ∧ w = w' := by
  have hd : decide ((l.length : Int) < 300) = true := by simp; omega
  have HR := Lib.hid hr
  clear hr
  go_enter Tryd.func60, Tryd.ntmps60
  go_wp2
  go_loop [3, 5, 15] (fun c' x i => ∃ (k : Nat), k ≤ l.length ∧ i = .int .i64 k ∧ c' = .int .u32 ((sumS crc0 (l.take k)).toNat : Int)) (fun _ _ i => l.length - (intOf i).toNat)
  case atStart => exact ⟨0, by omega, rfl, rfl⟩
  case round =>
    obtain ⟨k, hk, rfl, rfl⟩ := hrel
    by_cases hlt : k < l.length
    · obtain ⟨ad, rfl, hc⟩ := HR.out.2.2 (by omega)
      have hck := hc k hlt
      clear hc
      have hsn : RowKit.Hid (l.take (k + 1) = l.take k ++ [l.getD k 0]) := by
        rw [List.take_succ_eq_append_getElem hlt, List.getD_eq_getElem?_getD, List.getElem?_eq_getElem hlt]; rfl
      have hx := Lib.hid (xorw (sumS crc0 (l.take k)) (l.getD k 0))
      generalize l.getD k 0 = x at *
      have hx1 := x.toNat_lt
      go_wp2_with (go_at_call 77; refine (turn_at _ _ _ hx.out).mono ?_; rintro e w' ⟨rfl, rfl⟩)
      go_round
      case rel => exact ⟨k + 1, by omega, by go_num, by rw [hsn.out, sumS_snoc]; rfl⟩
      case measure => simp [intOf]; omega
    · obtain rfl : k = l.length := by omega
      have hn := Lib.hid (not32 (sumS crc0 l))
      rw [List.take_length]
      have hmax := Lib.hid (show IntKind.u32.max = 4294967295 from rfl)
      go_wp2
      go_ret
      exact ⟨ret_u32 (by rw [hmax.out, hn.out]; rfl), rfl⟩

def tabV (i : Nat) : BitVec 32 := turn8 (BitVec.ofNat 32 i)
def tab (k : Nat) : Array Value := ((List.range 256).map fun i => if i < k then Value.int .u32 ((tabV i).toNat : Int) else .int .u32 0).toArray
theorem tab_get (k i : Nat) (hi : i < 256) : (tab k)[i]? = some (if i < k then .int .u32 ((tabV i).toNat : Int) else .int .u32 0) := by
  unfold tab
  simp [List.getElem?_range hi]
theorem tab_set (k : Nat) (hk : k < 256) : (tab k).setIfInBounds k (.int .u32 ((tabV k).toNat : Int)) = tab (k + 1) := by
  apply Array.ext_getElem?
  intro i
  have hs : ∀ k, (tab k).size = 256 := by intro k; simp [tab]
  rw [Array.getElem?_setIfInBounds]
  by_cases hi : i < 256
  · rw [tab_get _ _ hi, tab_get _ _ hi, hs]
    by_cases h : k = i
    · subst h; simp [hk]
    · rw [if_neg h]
      by_cases h2 : i < k
      · rw [if_pos h2, if_pos (by omega)]
      · rw [if_neg h2, if_neg (by omega)]
  · rw [if_neg (by omega), Array.getElem?_eq_none (by rw [hs]; omega), Array.getElem?_eq_none (by rw [hs]; omega)]
theorem tab_size (k : Nat) : (tab k).size = 256 := by simp [tab]
theorem tab_zero : tab 0 = Array.replicate 256 (.int .u32 0) := by
  apply Array.ext_getElem?
  intro i
  by_cases hi : i < 256
  · rw [tab_get _ _ hi, if_neg (by omega), Array.getElem?_replicate, if_pos hi]
  · rw [Array.getElem?_eq_none (by rw [tab_size]; omega), Array.getElem?_replicate, if_neg hi]
theorem turnB_tab (c : BitVec 32) (x : UInt8) : turnB c x = (c >>> 8) ^^^ tabV ((c.toNat % 256) ^^^ x.toNat) := by
  rw [turnB_table]
  congr 1
  unfold tabV wide
  congr 1
  apply BitVec.eq_of_toNat_eq
  have h8 : (c.setWidth 8 ^^^ x.toBitVec : BitVec 8).toNat = (c.toNat % 256) ^^^ x.toNat := by simp [BitVec.toNat_xor]
  have hlt : (c.setWidth 8 ^^^ x.toBitVec : BitVec 8).toNat < 256 := (c.setWidth 8 ^^^ x.toBitVec : BitVec 8).isLt
  rw [h8] at hlt ⊢
  simp only [BitVec.toNat_setWidth, BitVec.toNat_ofNat]
  show (UInt8.ofNat _).toNat % _ = _
  rw [UInt8.toNat_ofNat']
  omega
theorem shr8_32 (d : BitVec 32) : ((d.toNat : Int) / (256 : Int)) = ((d >>> 8).toNat : Int) := by
  simp only [BitVec.toNat_ushiftRight, Nat.shiftRight_eq_div_pow]; omega
theorem idx8 (c : BitVec 32) (x : UInt8) : bits .xor .u8 ((c.toNat : Int) % 256) (x.toNat : Int) = (((c.toNat % 256) ^^^ x.toNat : Nat) : Int) := by
  have hx := x.toNat_lt
  have := u8_xor_nat (c.toNat % 256) x.toNat (by omega) hx
  rwa [show ((c.toNat % 256 : Nat) : Int) = (c.toNat : Int) % 256 from by omega] at this
theorem idx8_lt (c : BitVec 32) (x : UInt8) : (c.toNat % 256) ^^^ x.toNat < 256 := Nat.xor_lt_two_pow (n := 8) (by omega) (x.toNat_lt)
theorem tabstep (c : BitVec 32) (x : UInt8) : bits .xor .u32 ((c.toNat : Int) / 256) ((tabV ((c.toNat % 256) ^^^ x.toNat)).toNat : Int) = ((turnB c x).toNat : Int) := by
  rw [shr8_32, xor32, turnB_tab]
theorem zero43 (W : World) : (zeroValue 133).run Tryd.prog W = .ok (.agg (tab 0)) W := by
  rw [tab_zero]; kernel_rfl

set_option maxRecDepth 100000 in
set_option maxHeartbeats 400000 in
theorem crc_long (A : Option Addr) (cap : Nat) (l : List UInt8) (w : World) (hr : Bytes w A l) (hl : ¬ l.length < 300) :
    Calls Tryd.prog 60 #[.slice A l.length cap] w fun e w' => e = .returned (.int .u32 ((crc l).toNat : Int)) ∧ Below w.heap.size w w' := by
  have hd : decide ((l.length : Int) < 300) = false := by simp; omega
  have hmx : l.length ≤ 9223372036854775807 := hr.2.1
  have HR := Lib.hid hr
  clear hr
  have hz := zero43
  go_enter Tryd.func60, Tryd.ntmps60
  go_wp2_with fail
  clear hz
  go_loopw [7, 27] (fun _ i wr => ∃ (k : Nat), k ≤ 256 ∧ i = .int .i64 k ∧ wr.heap[w.heap.size]? = some (.cells (tab k) 133 (0, 0)) ∧ Below w.heap.size w wr) (fun _ i _ => 256 - (intOf i).toNat)
  case atStart => exact ⟨0, by omega, rfl, heap_alloc_new w _, (Below.refl _ _).alloc (Nat.le_refl _) _⟩
  case round =>
    obtain ⟨k, hk, rfl, hblk, hB⟩ := hrel
    by_cases hlt : k < 256
    · have hg := tab_get k k hlt
      rw [if_neg (by omega)] at hg
      have hcell := (blk_cell hblk k).trans hg
      have hfr := blk_frozen hblk k
      have hof : RowKit.Hid ((k : Int) = ((BitVec.ofNat 32 k).toNat : Int)) := by
        unfold RowKit.Hid; rw [BitVec.toNat_ofNat]; omega
      have HBLK := Lib.hid hblk
      have HB := Lib.hid hB
      clear hblk hB hg
      go_wp2_with (go_at_call 77; refine (turn_at _ _ _ hof.out).mono ?_; rintro e w' ⟨rfl, rfl⟩)
      go_roundw
      case rel => exact ⟨k + 1, by omega, by go_num, by rw [blk_set HBLK.out k, ← tab_set k hlt]; rfl, HB.out.setCell (Nat.le_refl _) _⟩
      case measure => simp [intOf]; omega
    · obtain rfl : k = 256 := by omega
      have HBLK := Lib.hid hblk
      have HB := Lib.hid hB
      clear hblk hB hlt hk
      go_wp2_with fail
      go_loop [3, 9, 38] (fun c' x i => ∃ (k : Nat), k ≤ l.length ∧ i = .int .i64 k ∧ c' = .int .u32 ((sumS crc0 (l.take k)).toNat : Int)) (fun _ _ i => l.length - (intOf i).toNat)
      case atStart => exact ⟨0, by omega, rfl, rfl⟩
      case round =>
        obtain ⟨k, hk, rfl, rfl⟩ := hrel
        by_cases hlt : k < l.length
        · obtain ⟨ad, rfl, hc⟩ := HR.out.2.2 (by omega)
          have hck := HB.out.cell (World.block_lt_of_cell? w _ (hc k hlt)) |>.trans (hc k hlt)
          clear hc
          have hsn : RowKit.Hid (l.take (k + 1) = l.take k ++ [l.getD k 0]) := by
            rw [List.take_succ_eq_append_getElem hlt, List.getD_eq_getElem?_getD, List.getElem?_eq_getElem hlt]; rfl
          generalize l.getD k 0 = x at *
          generalize hsum : sumS crc0 (l.take k) = c at *
          have hsum' := Lib.hid hsum
          clear hsum
          have hx1 := x.toNat_lt
          have hidx := idx8 c x
          have hj := idx8_lt c x
          have hst := Lib.hid (tabstep c x)
          have htc := tab_get 256 _ hj
          rw [if_pos hj] at htc
          have hcell := (blk_cell HBLK.out _).trans htc
          clear htc
          generalize (c.toNat % 256) ^^^ x.toNat = j at *
          go_wp2
          go_round
          case rel => exact ⟨k + 1, by omega, by go_num, by rw [hsn.out, sumS_snoc, hsum'.out, ← hst.out]⟩
          case measure => simp [intOf]; omega
        · obtain rfl : k = l.length := by omega
          have hn := Lib.hid (not32 (sumS crc0 l))
          rw [List.take_length]
          have hmax := Lib.hid (show IntKind.u32.max = 4294967295 from rfl)
          go_wp2
          go_ret
          exact ⟨ret_u32 (by rw [hmax.out, hn.out]; rfl), HB.out⟩

theorem crc_any (A : Option Addr) (cap : Nat) (l : List UInt8) (w : World) (hr : Bytes w A l) :
    Calls Tryd.prog 60 #[.slice A l.length cap] w fun e w' => e = .returned (.int .u32 ((crc l).toNat : Int)) ∧ Below w.heap.size w w' := by
  by_cases hl : l.length < 300
  · exact (crc_short A cap l w hr hl).mono fun e w' ⟨h, h'⟩ => ⟨h, h' ▸ Below.refl _ _⟩
  · exact crc_long A cap l w hr hl
#print axioms crc_any

/-- The number of the first four bytes (closed to the kernel's own unfolding: its factors are large). -/
noncomputable def wordOf (l : List UInt8) : Nat := Classical.choose (⟨_, rfl⟩ : ∃ n, n = (l.getD 0 0).toNat * 16777216 + (l.getD 1 0).toNat * 65536 + (l.getD 2 0).toNat * 256 + (l.getD 3 0).toNat)
theorem wordOf_eq (l : List UInt8) : wordOf l = (l.getD 0 0).toNat * 16777216 + (l.getD 1 0).toNat * 65536 + (l.getD 2 0).toNat * 256 + (l.getD 3 0).toNat :=
  Classical.choose_spec (⟨_, rfl⟩ : ∃ n, n = (l.getD 0 0).toNat * 16777216 + (l.getD 1 0).toNat * 65536 + (l.getD 2 0).toNat * 256 + (l.getD 3 0).toNat)
theorem or_low (a b i : Nat) (hb : b < 2 ^ i) (ha : a * 2 ^ i < 4294967296) (hs : b < 4294967296) : bits .or .u32 ((a * 2 ^ i : Nat) : Int) (b : Int) = ((a * 2 ^ i + b : Nat) : Int) := by
  rw [u32_or_nat _ _ ha hs, ← Nat.shiftLeft_eq, Nat.shiftLeft_add_eq_or_of_lt hb]
theorem word_e3 (x0 x1 : Nat) (b0 : x0 < 256) (b1 : x1 < 256) : bits .or .u32 ((x0 : Int) * 16777216) ((x1 : Int) * 65536) = (x0 : Int) * 16777216 + (x1 : Int) * 65536 := by
  have := or_low x0 (x1 * 65536) 24 (by omega) (by omega) (by omega)
  rw [show ((x0 * 2 ^ 24 : Nat) : Int) = (x0 : Int) * 16777216 from by omega, show ((x1 * 65536 : Nat) : Int) = (x1 : Int) * 65536 from by omega] at this
  rw [this]; omega
theorem word_e4 (x0 x1 x2 : Nat) (b0 : x0 < 256) (b1 : x1 < 256) (b2 : x2 < 256) : bits .or .u32 ((x0 : Int) * 16777216 + (x1 : Int) * 65536) ((x2 : Int) * 256) = (x0 : Int) * 16777216 + (x1 : Int) * 65536 + (x2 : Int) * 256 := by
  have := or_low (x0 * 256 + x1) (x2 * 256) 16 (by omega) (by omega) (by omega)
  rw [show (((x0 * 256 + x1) * 2 ^ 16 : Nat) : Int) = (x0 : Int) * 16777216 + (x1 : Int) * 65536 from by omega, show ((x2 * 256 : Nat) : Int) = (x2 : Int) * 256 from by omega] at this
  rw [this]; omega
theorem word_e5 (x0 x1 x2 x3 : Nat) (b0 : x0 < 256) (b1 : x1 < 256) (b2 : x2 < 256) (b3 : x3 < 256) : bits .or .u32 ((x0 : Int) * 16777216 + (x1 : Int) * 65536 + (x2 : Int) * 256) (x3 : Int) = ((x0 * 16777216 + x1 * 65536 + x2 * 256 + x3 : Nat) : Int) := by
  have := or_low (x0 * 65536 + x1 * 256 + x2) x3 8 (by omega) (by omega) (by omega)
  rw [show (((x0 * 65536 + x1 * 256 + x2) * 2 ^ 8 : Nat) : Int) = (x0 : Int) * 16777216 + (x1 : Int) * 65536 + (x2 : Int) * 256 from by omega] at this
  rw [this]; omega

set_option maxHeartbeats 400000 in
theorem word_any (A : Option Addr) (cap : Nat) (l : List UInt8) (w : World) (hr : Bytes w A l) (hl : 4 ≤ l.length) :
    Calls Tryd.prog 84 #[.slice A l.length cap] w fun e w' => e = .returned (.int .u32 (wordOf l : Int)) ∧ ∃ n, w' = w.drewN n := by
  obtain ⟨ad, rfl, hc⟩ := hr.2.2 (by omega)
  have hmx : l.length ≤ 9223372036854775807 := hr.2.1
  have h0 : w.cell? ad = some (b8 (l.getD 0 0)) := by simpa [Addr.add] using hc 0 (by omega)
  have h1 : w.cell? ⟨ad.block, ad.off + 1, none⟩ = some (b8 (l.getD 1 0)) := by simpa [Addr.add] using hc 1 (by omega)
  have h2 : w.cell? ⟨ad.block, ad.off + 2, none⟩ = some (b8 (l.getD 2 0)) := by simpa [Addr.add] using hc 2 (by omega)
  have h3 : w.cell? ⟨ad.block, ad.off + 3, none⟩ = some (b8 (l.getD 3 0)) := by simpa [Addr.add] using hc 3 (by omega)
  clear hr hc
  rw [wordOf_eq]
  generalize l.getD 0 0 = x0 at *
  generalize l.getD 1 0 = x1 at *
  generalize l.getD 2 0 = x2 at *
  generalize l.getD 3 0 = x3 at *
  generalize l.length = n at *
  have b0 := x0.toNat_lt
  have b1 := x1.toNat_lt
  have b2 := x2.toNat_lt
  have b3 := x3.toNat_lt
  have n0 : 0 < n := by omega
  have n1 : (1 : Int) < n := by omega
  have n2 : (2 : Int) < n := by omega
  have n3 : (3 : Int) < n := by omega
  have w0 : IntKind.u32.wrap (x0.toNat : Int) = (x0.toNat : Int) := by rw [IntKind.wrap_u32]; omega
  have w1 : IntKind.u32.wrap (x1.toNat : Int) = (x1.toNat : Int) := by rw [IntKind.wrap_u32]; omega
  have w2 : IntKind.u32.wrap (x2.toNat : Int) = (x2.toNat : Int) := by rw [IntKind.wrap_u32]; omega
  have w3 : IntKind.u32.wrap (x3.toNat : Int) = (x3.toNat : Int) := by rw [IntKind.wrap_u32]; omega
  have v0 : IntKind.u32.wrap ((x0.toNat : Int) * 16777216) = (x0.toNat : Int) * 16777216 := by rw [IntKind.wrap_u32]; omega
  have v1 : IntKind.u32.wrap ((x1.toNat : Int) * 65536) = (x1.toNat : Int) * 65536 := by rw [IntKind.wrap_u32]; omega
  have v2 : IntKind.u32.wrap ((x2.toNat : Int) * 256) = (x2.toNat : Int) * 256 := by rw [IntKind.wrap_u32]; omega
  have e3 := word_e3 x0.toNat x1.toNat b0 b1
  have e4 := word_e4 x0.toNat x1.toNat x2.toNat b0 b1 b2
  have e5 := word_e5 x0.toNat x1.toNat x2.toNat x3.toNat b0 b1 b2 b3
  generalize x0.toNat * 16777216 + x1.toNat * 65536 + x2.toNat * 256 + x3.toNat = r at *
  clear hl
  go_enter Tryd.func84, Tryd.ntmps84
  go_wp2
  go_quiet (fail)
  go_wp2
  go_ret
  exact ⟨rfl, _, rfl⟩
end Go.Proofs.YtfnnjgbldojigaaDoor
