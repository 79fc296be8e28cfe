/- The walk of WireLong. -/
import Derived.Test.YtkdlghbfplhkpaaLawW
set_option linter.unusedVariables false
set_option linter.unusedSimpArgs false
namespace Go.Proofs.Ytkdlghbfplhkpaa
open Go.RowKit Go.Proofs.YtkdlghbfplhkpaaW.PrintWords
open Go.Proofs.Mine.Crc

theorem split_word_long (x : UInt8) (f : Nat) : splitOf (f + 1) [0, 1, 0, 1, x] = ([], 0, 2) := by
  have hw : wordOf [0, 1, 0, 1, x] = 65537 := by rw [wordOf_eq]; simp
  have hk : beginsK [0, 1, 0, 1, x] = 2 := by
    unfold beginsK
    rw [hw, if_neg (by simp), if_pos (by omega)]
  rw [splitOf, hk]; rfl
theorem split_one (l : List UInt8) (hl : l.length ≤ 65536) (f : Nat) : splitOf (f + 2) (frameOf l) = ([l], l.length + 8, 1) := by
  have h := split_frame l [] hl (f + 1)
  rw [List.append_nil] at h
  rw [h, splitOf_short f [] (begins_short4 (by simp))]
  rfl
set_option maxRecDepth 100000 in
set_option maxHeartbeats 1000000 in
theorem long_over (m : Int) (x : UInt8) (w : World) (L : Nat) (hL : 65535 + m % 4 = (L : Int)) (h : 65536 < L) (hb : L ≤ 65538) :
    Calls Try.prog 4 #[.int .i64 m, b8 x] w fun e w' => e = .returned (.bool true) ∧ Below w.heap.size w w' := by
  have hmk0 := print_make_of (P := Try.prog) 24 5 (.int .u8 0) 1 Try.underlying24 Try.info5 rfl (by decide) L (by omega)
  have hmk : ∀ W : World, (Instr.makeSlice 24 (.int .i64 (65535 + m % 4)) (.int .i64 (65535 + m % 4))).run Try.prog W = .ok (.slice (some ⟨W.heap.size, 0, none⟩) L L) (W.alloc (.cells (madeCells #[.int .u8 0] L) 5)) := by rw [hL]; exact hmk0
  obtain ⟨l, hl⟩ : ∃ l : List UInt8, l = List.replicate L 0 := ⟨_, rfl⟩
  have hlen : l.length = L := by rw [hl]; simp
  have hfl := fun A cap W => frame_long A cap l W (by rw [hlen]; exact h)
  rw [hlen] at hfl
  have hlit0 : ∀ (W : World) (n : Nat), n = W.heap.size → ReadsOf b8 0 (W.alloc (.cells #[.int .u8 0, .int .u8 1, .int .u8 0, .int .u8 1, b8 x] 5)) (some ⟨n, 0, none⟩) [0, 1, 0, 1, x].length [0, 1, 0, 1, x] := fun W n hn => hn ▸ lit_reads W 5 [0, 1, 0, 1, x] #[.int .u8 0, .int .u8 1, .int .u8 0, .int .u8 1, b8 x] 5 rfl rfl (by decide)
  have hsw := split_word_long x
  have h5l : [0, 1, 0, 1, x].length = 5 := rfl
  generalize [0, 1, 0, 1, x] = l5 at *
  have hs5 := fun W A h1 => split_any A 5 l5 W h1 (by omega) (by omega)
  simp only [hsw, h5l] at hs5
  have HS5 := Lib.hid hs5
  have hlit := Lib.hid hlit0
  clear hlit0 hsw h5l
  have HFL := Lib.hid hfl
  clear hl hmk0 hs5 hfl hlen hL
  go_enter Try.func4, Try.ntmps4
  go_wp2_with (first
    | (go_at_call 6; refine (known_any _).mono ?_; rintro e w1 ⟨rfl, hB⟩; have HB1 := Lib.hid hB; clear hB)
    | (go_at_call 9; refine (within_any m _ _ (by omega) (by omega)).mono ?_; rintro e w3 ⟨rfl, rfl⟩)
    | (go_at_call 7; refine (HFL.out _ _ _).mono ?_; rintro e w3 ⟨rfl, rfl⟩)
    | (go_at_call 10; refine (HS5.out _ _ (by exact hlit.out _ _ (by simp))).mono ?_; rintro e w4 ⟨v, rfl, hR, hB⟩; obtain ⟨A4, c4, rfl⟩ := Kd.R_slice hR; have HB4 := Lib.hid hB; clear hB hR))
  go_ret
  exact ⟨rfl, ((HB1.out.alloc HB1.out.size _).alloc (by have := HB1.out.size; simp; omega) _).trans (HB4.out.mono (by have := HB1.out.size; simp; omega))⟩
set_option maxRecDepth 100000 in
set_option maxHeartbeats 1000000 in
theorem long_within (m : Int) (x : UInt8) (w : World) (L : Nat) (hL : 65535 + m % 4 = (L : Int)) (h : L ≤ 65536) (hb : 65535 ≤ L) :
    Calls Try.prog 4 #[.int .i64 m, b8 x] w fun e w' => e = .returned (.bool true) ∧ Below w.heap.size w w' := by
  have hmk0 := print_make_of (P := Try.prog) 24 5 (.int .u8 0) 1 Try.underlying24 Try.info5 rfl (by decide) L (by omega)
  have hmk : ∀ W : World, (Instr.makeSlice 24 (.int .i64 (65535 + m % 4)) (.int .i64 (65535 + m % 4))).run Try.prog W = .ok (.slice (some ⟨W.heap.size, 0, none⟩) L L) (W.alloc (.cells (madeCells #[.int .u8 0] L) 5)) := by rw [hL]; exact hmk0
  obtain ⟨l, hl⟩ : ∃ l : List UInt8, l = List.replicate L 0 := ⟨_, rfl⟩
  have hlen : l.length = L := by rw [hl]; simp
  have HRD : RowKit.Hid (∀ W : World, ReadsOf b8 0 (W.alloc (.cells (madeCells #[.int .u8 0] L) 5)) (some ⟨W.heap.size, 0, none⟩) l.length l) := by
    intro W
    obtain ⟨A, c, he, hr⟩ := own_reads_of (d := 0) (own_made_of (enc := b8) (d := 0) W W.heap.size 5 L (Nat.le_refl _) (by omega))
    injection he with h1 h2 h3
    rw [hlen, hl, h1]; exact hr
  have hfl := fun A cap W hr => frame_any A cap l W hr (by rw [hlen]; exact h)
  have hfN : (frameOf l).length = L + 8 := by rw [frameOf_length, hlen]
  have hs := fun A cap W hr hc => split_any A cap (frameOf l) W hr hc (by rw [hfN]; omega)
  rw [hfN, split_one l (by rw [hlen]; exact h)] at hs
  simp only [hlen] at hfl hs
  have HFL := Lib.hid hfl
  have HS := Lib.hid hs
  have HLEN := Lib.hid hlen
  have HFN := Lib.hid hfN
  clear hl hmk0 hs hfl hlen hL hfN
  go_enter Try.func4, Try.ntmps4
  go_wp2_with (first
    | (go_at_call 6; refine (known_any _).mono ?_; rintro e w1 ⟨rfl, hB⟩; have HB1 := Lib.hid hB; clear hB)
    | (go_at_call 9; refine (within_any m _ _ (by omega) (by omega)).mono ?_; rintro e w3 ⟨rfl, rfl⟩)
    | (go_at_call 7; refine (HFL.out _ _ _ (HRD.out _)).mono ?_; rintro e w2 ⟨v, rfl, hO, hB⟩; obtain ⟨g, c2, rfl, _, _⟩ := hO.form (by rw [HFN.out]; omega); have HB2 := Lib.hid hB; have HO := Lib.hid hO; clear hB hO))
  obtain ⟨A3, c3, he, hr3⟩ := own_reads_of (d := 0) HO.out
  obtain ⟨rfl, rfl⟩ : A3 = some ⟨g, 0, none⟩ ∧ c3 = c2 := by injection he with h1 h2 h3; exact ⟨h1.symm, h3.symm⟩
  have hle := own_le HO.out
  have hs2 := HS.out _ _ _ hr3 (by rw [← HFN.out]; exact hle)
  rw [← HFN.out] at hs2
  have HS2 := Lib.hid hs2
  have hFN := HFN.out
  clear hs2 hle hr3 he
  refine HS2.out.mono ?_
  rintro e w4 ⟨v, rfl, hR, hB⟩
  obtain ⟨A4, c4, he4, hl4, hC⟩ := Kd.R_reads hR
  have he4' : v = .slice A4 1 c4 := he4
  subst he4'
  obtain ⟨ad, cs, hA, hcl, hK, hcell⟩ := Kd.C_get hC [] 0 (by decide) (by simp)
  obtain ⟨A5, c5, hcs, hl5, hC5⟩ := hK
  have hc0 : w4.cell? ad = some (.slice A5 L c5) := by
    have := hcell 0 (.slice A5 l.length c5) (by rw [hcs]; rfl)
    rw [HLEN.out] at this
    simpa [Addr.add] using this
  subst hA
  have HB4 := Lib.hid hB
  clear hR hB hl4 hC hcl hcell hcs hl5 hC5
  rw [hFN]
  go_wp2
  go_ret
  refine ⟨rfl, ?_⟩
  have h5 := HB1.out.alloc HB1.out.size (.cells (madeCells #[.int .u8 0] L) 5)
  have h6 := h5.trans (HB2.out.mono h5.size)
  exact h6.trans (HB4.out.mono h6.size)
theorem long_walk (m : Int) (x : UInt8) (w : World) (_ : (Lit.int .i64 m).wf = true) :
    Calls Try.prog 4 #[.int .i64 m, b8 x] w fun e w' => e = .returned (.bool true) ∧ Below w.heap.size w w' := by
  have h3 := Int.emod_nonneg m (show (4 : Int) ≠ 0 by omega)
  have h4 := Int.emod_lt_of_pos m (show (0 : Int) < 4 by omega)
  obtain ⟨L, hL⟩ := Int.eq_ofNat_of_zero_le (show 0 ≤ 65535 + m % 4 by omega)
  by_cases h : 65536 < L
  · exact long_over m x w L hL h (by omega)
  · exact long_within m x w L hL (by omega) (by omega)
end Go.Proofs.Ytkdlghbfplhkpaa
