/- The walks of what the laws share (known, within), and of WireTurns. -/
import Derived.Test.YtkdlghbfplhkpaaPlain
import Derived.Lib.SlBytesConst
set_option linter.unusedVariables false
set_option linter.unusedSimpArgs false
namespace Go.Proofs.Ytkdlghbfplhkpaa
open Go.RowKit Go.Proofs.YtkdlghbfplhkpaaW.PrintWords
open Go.Proofs.Mine.Crc

theorem lit_reads' (W : World) (e : TypeId) (fr : Nat × Nat) (xs : List UInt8) (cs : Array Value) (m : Nat) (h : cs = (encs b8 xs).toArray) (hm : xs.length = m) (hx : m ≤ 9223372036854775807) : ReadsOf b8 0 (W.alloc (.cells cs e fr)) (some ⟨W.heap.size, 0, none⟩) m xs := by
  refine ⟨hm, hx, fun _ => ⟨_, rfl, fun j hj => ?_⟩⟩
  rw [add_plain, cell_of_row (W.alloc (.cells cs e fr)) W.heap.size j cs e fr (heap_alloc_new W _), h]
  have := encs_get (enc := b8) (d := 0) xs j (by omega)
  simpa using this
def digits : List UInt8 := [49, 50, 51, 52, 53, 54, 55, 56, 57]
theorem crc_digits : (crc digits).toNat = 3808858755 := by decide +kernel

set_option maxHeartbeats 400000 in
theorem known_any (w : World) : Calls Try.prog 6 #[] w fun e w' => e = .returned (.bool true) ∧ Below w.heap.size w w' := by
  have kc := fun (w : World) (C : Array Value) (n c : Nat) => Lib.run_convert_bytes_const (P := Try.prog) w 24 5 C n c Try.underlying24 Try.underlying5
  have hcr := Lib.hid (fun W fr => crc_any (some ⟨w.heap.size, 0, none⟩) 9 digits W fr)
  have hbytes := Lib.hid (lit_reads' w 5 (9, 10) digits #[.int .u8 49, .int .u8 50, .int .u8 51, .int .u8 52, .int .u8 53, .int .u8 54, .int .u8 55, .int .u8 56, .int .u8 57] 9 rfl rfl (by decide))
  have hd := Lib.hid crc_digits
  go_enter Try.func6, Try.ntmps6
  go_wp2_with (go_at_call 11; refine (hcr.out _ hbytes.out).mono ?_; rintro e w' ⟨rfl, hB⟩; rw [hd.out]; have HB := Lib.hid hB; clear hB)
  go_ret
  exact ⟨rfl, ((Below.refl _ _).alloc (Nat.le_refl _) _).trans (HB.out.mono (by simp))⟩

theorem tmod_fix (a n : Int) (hn : 0 < n) : (if a.tmod n < 0 then a.tmod n + n else a.tmod n) = a % n := by
  have h1 := Int.tmod_add_mul_tdiv a n
  have h2 := Int.emod_add_mul_ediv a n
  rw [Int.tmod_eq_emod]
  have h3 := Int.emod_nonneg a (show n ≠ 0 by omega)
  have h4 := Int.emod_lt_of_pos a hn
  split <;> split <;> omega
set_option maxHeartbeats 400000 in
theorem within_any (a n : Int) (w : World) (hn : 0 < n) (hn2 : n ≤ 4611686018427387904) :
    Calls Try.prog 9 #[.int .i64 a, .int .i64 n] w fun e w' => e = .returned (.int .i64 (a % n)) ∧ w = w' := by
  have H := Lib.hid (tmod_fix a n hn)
  have h1 : -n < a.tmod n := by
    have := Int.tmod_eq_emod (a := a) (b := n)
    have h3 := Int.emod_nonneg a (show n ≠ 0 by omega)
    have h4 := Int.emod_lt_of_pos a hn
    split at this <;> omega
  have h0 : (n == 0) = false := by simp; omega
  by_cases hs : a.tmod n < 0
  · have hf : a.tmod n + n = a % n := by have := H.out; rwa [if_pos hs] at this
    have HF := Lib.hid hf
    clear hf H
    go_enter Try.func9, Try.ntmps9
    go_wp2
    go_ret
    exact ⟨by rw [HF.out]; rfl, rfl⟩
  · have hf : a.tmod n = a % n := by have := H.out; rwa [if_neg hs] at this
    have HF := Lib.hid hf
    clear hf H
    go_enter Try.func9, Try.ntmps9
    go_wp2
    go_ret
    exact ⟨by rw [HF.out]; rfl, rfl⟩

set_option maxHeartbeats 400000 in
theorem turns_empty (A : Option Addr) (cap : Nat) (l : List UInt8) (at_ : Int) (x : UInt8) (w : World) (h : l.length = 0) :
    Calls Try.prog 5 #[.slice A l.length cap, .int .i64 at_, b8 x] w fun e w' => e = .returned (.bool true) ∧ Below w.heap.size w w' := by
  rw [h]
  go_enter Try.func5, Try.ntmps5
  go_wp2_with (go_at_call 6; refine (known_any _).mono ?_; rintro e w' ⟨rfl, hB⟩; have HB := Lib.hid hB; clear hB)
  go_ret
  exact ⟨rfl, HB.out⟩
set_option maxHeartbeats 400000 in
theorem turns_long (A : Option Addr) (cap : Nat) (l : List UInt8) (at_ : Int) (x : UInt8) (w : World) (h : 500 < l.length) :
    Calls Try.prog 5 #[.slice A l.length cap, .int .i64 at_, b8 x] w fun e w' => e = .returned (.bool true) ∧ Below w.heap.size w w' := by
  have h0 : ((l.length : Int) == 0) = false := beq_eq_false_iff_ne.mpr (by omega)
  have h1 : decide (500 < (l.length : Int)) = true := decide_eq_true (by omega)
  go_enter Try.func5, Try.ntmps5
  go_wp2_with (go_at_call 6; refine (known_any _).mono ?_; rintro e w' ⟨rfl, hB⟩; have HB := Lib.hid hB; clear hB)
  go_ret
  exact ⟨rfl, HB.out⟩
set_option maxHeartbeats 400000 in
theorem turns_zero (A : Option Addr) (cap : Nat) (l : List UInt8) (at_ : Int) (w : World) (h : l.length ≠ 0) (h2 : l.length ≤ 500) :
    Calls Try.prog 5 #[.slice A l.length cap, .int .i64 at_, .int .u8 0] w fun e w' => e = .returned (.bool true) ∧ Below w.heap.size w w' := by
  have h0 : ((l.length : Int) == 0) = false := beq_eq_false_iff_ne.mpr (by omega)
  have h1 : decide (500 < (l.length : Int)) = false := decide_eq_false (by omega)
  go_enter Try.func5, Try.ntmps5
  go_wp2_with (go_at_call 6; refine (known_any _).mono ?_; rintro e w' ⟨rfl, hB⟩; have HB := Lib.hid hB; clear hB)
  go_ret
  exact ⟨rfl, HB.out⟩
theorem rd_frame (l : List UInt8) (j : Nat) (h : j < l.length) : rdOf 0 (frameOf l) (8 + (j : Int)) = l.getD j 0 := by
  unfold rdOf
  rw [show ((8 : Int) + (j : Int)).toNat = 8 + j from by omega, frameOf, List.getD_eq_getElem?_getD, List.getD_eq_getElem?_getD, List.getElem?_append_right (by simp only [List.length_append, fourOf_length]; omega)]
  congr 2
  simp only [List.length_append, fourOf_length]; omega
theorem xor8 (a b : UInt8) : bits .xor .u8 (a.toNat : Int) (b.toNat : Int) = ((a ^^^ b).toNat : Int) := by
  rw [u8_xor_nat _ _ a.toNat_lt b.toNat_lt, UInt8.toNat_xor]
set_option maxRecDepth 100000 in
set_option maxHeartbeats 1000000 in
theorem turns_main (A : Option Addr) (cap : Nat) (l : List UInt8) (at_ : Int) (x : UInt8) (w : World) (hr : Bytes w A l) (hcap : l.length ≤ cap) (h : l.length ≠ 0) (h2 : l.length ≤ 500) (hx : x ≠ 0) :
    Calls Try.prog 5 #[.slice A l.length cap, .int .i64 at_, b8 x] w fun e w' => e = .returned (.bool true) ∧ Below w.heap.size w w' := by
  have h0 : ((l.length : Int) == 0) = false := beq_eq_false_iff_ne.mpr (by omega)
  have h1 : decide (500 < (l.length : Int)) = false := decide_eq_false (by omega)
  have hx0 : ((x.toNat : Int) == 0) = false := by
    simp
    intro hz
    exact hx (UInt8.toNat_inj.1 (by simpa using hz))
  have HR := Lib.hid hr
  have hj0 := Int.emod_nonneg at_ (show (l.length : Int) ≠ 0 by omega)
  have hj1 := Int.emod_lt_of_pos at_ (show 0 < (l.length : Int) by omega)
  obtain ⟨j, hj⟩ := Int.eq_ofNat_of_zero_le hj0
  have HJ := Lib.hid hj
  rw [hj] at hj1
  obtain ⟨y, hy⟩ : ∃ y, l.getD j 0 = y := ⟨_, rfl⟩
  have HY := Lib.hid hy
  clear hy
  clear hr hj hj0
  go_enter Try.func5, Try.ntmps5
  go_wp2_with (first
    | (go_at_call 6; refine (known_any _).mono ?_; rintro e w1 ⟨rfl, hB⟩; have HB1 := Lib.hid hB; clear hB)
    | (go_at_call 7; refine (frame_any A cap l _ (HR.out.below HB1.out) (by omega)).mono ?_; rintro e w2 ⟨v, rfl, hO, hB⟩; obtain ⟨g, c2, rfl, _, _⟩ := hO.form (by rw [frameOf_length]; omega); have HB2 := Lib.hid hB; have HO := Lib.hid hO; have hat := own_at_of (enc := b8) (d := 0) hO (8 + (j : Int)) (by omega) (by rw [frameOf_length]; omega); rw [show ((8 : Int) + (j : Int)).toNat = 8 + j from by omega] at hat; obtain ⟨hc, hf⟩ := hat; have hib : (8 + (j : Int)) < ((frameOf l).length : Int) := (by rw [frameOf_length]; omega); have hy := rd_frame l j (by omega); rw [hy, HY.out] at hc; have hxr := xor8 y x; clear hB hO hy)
    | (go_at_call 9; refine (within_any at_ _ _ (by omega) (by omega)).mono ?_; rintro e w3 ⟨rfl, rfl⟩; rw [HJ.out]))
  have hO3 := own_store_of HO.out (8 + (j : Int)) (y ^^^ x)
  rw [show ((8 : Int) + (j : Int)).toNat = 8 + j from by omega] at hO3
  have hL : ((frameOf l).set (8 + j) (y ^^^ x)).length = (frameOf l).length := List.length_set
  obtain ⟨A3, c3, he, hr3⟩ := own_reads_of (d := 0) hO3.1
  obtain ⟨rfl, rfl⟩ : A3 = some ⟨g, 0, none⟩ ∧ c3 = c2 := by injection he with h1 h2 h3; exact ⟨h1.symm, h3.symm⟩
  rw [← hL] at hr3
  have hle := own_le hO3.1
  have hsp := split_any (some ⟨g, 0, none⟩) c3 ((frameOf l).set (8 + j) (y ^^^ x)) _ hr3 (by rw [hL]; exact hle) (by rw [hL, frameOf_length]; omega)
  have hne : y ^^^ x ≠ l.getD j 0 := by
    rw [HY.out]
    intro hz
    apply hx
    have := congrArg (y ^^^ ·) hz
    simpa [← UInt8.xor_assoc] using this
  rw [hL, split_turned l (by omega) j (by omega) _ hne] at hsp
  have HSP := Lib.hid hsp
  have HF := Lib.hid hO3.2
  clear hsp hO3 hL hr3 hle he hne hc hf hxr
  refine HSP.out.mono ?_
  rintro e w4 ⟨v4, rfl, hR4, hB4⟩
  obtain ⟨A4, c4, rfl⟩ := Kd.R_slice hR4
  have HB4 := Lib.hid hB4
  clear hR4 hB4
  go_wp2
  go_ret
  refine ⟨rfl, ?_⟩
  have h5 := HB1.out.trans (HB2.out.mono HB1.out.size)
  exact (h5.setCell (p := ⟨g, 8 + j, none⟩) (by have := HB1.out.size; simp; omega) _).trans (HB4.out.mono (by have := h5.size; simp [World.setCell]; omega))
theorem turns_walk (A : Option Addr) (cap : Nat) (l : List UInt8) (at_ : Int) (x : UInt8) (w : World) (hr : Bytes w A l) (hcap : l.length ≤ cap) (_ : l.length * 1 ≤ 140737488351232) (_ : (Lit.int .i64 at_).wf = true) :
    Calls Try.prog 5 #[.slice A l.length cap, .int .i64 at_, b8 x] w fun e w' => e = .returned (.bool true) ∧ Below w.heap.size w w' := by
  by_cases h : l.length = 0
  · exact turns_empty A cap l at_ x w h
  · by_cases h2 : 500 < l.length
    · exact turns_long A cap l at_ x w h2
    · by_cases hx : x = 0
      · subst hx; exact turns_zero A cap l at_ w h (by omega)
      · exact turns_main A cap l at_ x w hr hcap h (by omega) hx
end Go.Proofs.Ytkdlghbfplhkpaa
