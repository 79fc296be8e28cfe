/- known of chapter 4. -/
import Derived.Test.YtfnnjgbldojigaaDoorWlaW
set_option linter.unusedVariables false
set_option linter.unusedSimpArgs false
namespace Go.Proofs.YtfnnjgbldojigaaDoor
open Go.RowKit Go.Proofs.YtfnnjgbldojigaaDoorW.PrintWords Go.Proofs.Mine Go.Proofs.Mine.Crc

theorem lit_reads8' (W : World) (e : TypeId) (fr : Nat × Nat) (xs : List UInt8) (cs : Array Value) (m : Nat) (h : cs = (encs b8 xs).toArray) (hm : xs.length = m) (hx : m ≤ 9223372036854775807) : ReadsOf b8 0 (W.alloc (.cells cs e fr)) (some ⟨W.heap.size, 0, none⟩) m xs := by
  refine ⟨hm, hx, fun _ => ⟨_, rfl, fun j hj => ?_⟩⟩
  rw [add_plain, cell_of_row (W.alloc (.cells cs e fr)) W.heap.size j cs e fr (heap_alloc_new W _), h]
  have := encs_get (enc := b8) (d := 0) xs j (by omega)
  simpa using this
theorem wal_start {w w1 W : World} (hg : Laid w) (hB : Below w.heap.size w w1) (room : Int) (h1 : 1 ≤ room) (h2 : room ≤ 1073741824) (hW : W = w1.alloc (.cells #[.int .i64 room, .slice none 0 0, .int .i64 0, .int .i64 0, .bool false, .int .i64 0] 78)) : TapeIn w w1.heap.size (gs room [] 0 0) W (fun k => k = w1.heap.size) := by
  subst hW
  exact in_new hg hB room h1 h2
theorem one_hd {hs : List Hd} {l : List UInt8} (h : hs.map (·.l) = [l]) : ∃ y, hs = [y] ∧ y.l = l := by
  match hs, h with
  | [y], h => exact ⟨y, rfl, by simpa using h⟩
theorem fresh_out {w0 w : World} {bt bl : Nat} {s : TS} {ls : LS} {F : Nat → Prop} (h : WalIn w0 bt bl s ls w F) {n : Nat} : 0 < n → ∀ a, (some ⟨w.heap.size, 0, none⟩ : Option Addr) = some a → ¬ F a.block := by
  intro _ a ha hf
  injection ha with ha
  subst ha
  have := (h.lt _ hf).2
  simp at this
set_option maxRecDepth 100000 in
set_option maxHeartbeats 2000000 in
theorem known4_any (w : World) (hg0 : Laid w) : Calls Tryd.prog 13 #[] w fun e w' => e = .returned (.bool true) ∧ Below w.heap.size w w' := by
  have HG := Lib.hid hg0
  have kc := fun (w : World) (C : Array Value) (n c : Nat) => Lib.run_convert_bytes_const (P := Tryd.prog) w 32 5 C n c Tryd.underlying32 Tryd.underlying5
  clear hg0
  have h9 : (framesOf ([[97]] : List (List UInt8))).length = 9 := by simp [framesOf, frameOf_length]
  have hwh : wholeOf ([[97], [98]] : List (List UInt8)) (9 + 0) = 1 := by decide
  have hk0 : ∀ (o : Int) (n : Nat), crashK (gs 1000 [[97], [98]] n o) 0 = 0 := fun o n => by unfold crashK; rw [Int.zero_emod]; rfl
  obtain ⟨SA, hSA⟩ : ∃ z, z = strB [97] := ⟨_, rfl⟩
  have hz : (SA.toList == [97]) = true := by rw [hSA]; decide +kernel
  have HSA := Lib.hid hSA
  clear hSA
  go_enter Tryd.func13, Tryd.ntmps13
  go_wp2_with (first
    | (go_at_call 14; refine (new_ok 1000 w (by decide) (by decide)).mono ?_; rintro r w1 ⟨rfl, hw1⟩
       have HI := Lib.hid (wal_start HG.out (Below.refl _ _) 1000 (by decide) (by decide) hw1)
       clear hw1)
    | (have hzz := HCR.out
       go_at_call 15
       refine (cal_reopen w w6 _ 1000 _ _ _ _ HCR.out.tape (by omega) (by simp) (by simp [framesOf, frameOf_length]) (by simp [framesOf, frameOf_length])).mono ?_
       rintro r w7 ⟨bl7, F7, o7, rfl, hW7, _, _, _, _⟩
       rw [hwh, show ([[97], [98]] : List (List UInt8)).take 1 = [[97]] from rfl] at hW7
       have HW7 := Lib.hid hW7
       clear hW7 hzz)
    | (go_at_call 15; refine (cal_open w w1 _ 1000 0 [] 0 _ HI.out (by decide) (by simp) (by simp [framesOf])).mono ?_
       rintro r w2 ⟨bl, F2, o2, rfl, hW2, ho1, ho2, _, _⟩
       have HW2 := Lib.hid hW2
       clear hW2)
    | (have hzz := HW4.out
       go_at_call 18
       refine (cal_append _ _ [98] w _ _ bl 1000 (o2 + 1 + 1) [[97]] _ F4 (HW4.out.to ((Below.refl _ _).alloc (Nat.le_refl _) _)) (by omega) (lit_reads8' w4 5 (1, 2) [98] _ 1 rfl rfl (by decide)) (by simp) (fresh_out HW4.out) (by simp) (by rw [h9]; simp)).mono ?_
       rintro r w5 ⟨rfl, F5, hW5, _, _⟩
       have HW5 := Lib.hid (show WalIn w _ bl (gs 1000 [[97], [98]] _ (o2 + 1 + 1 + 1)) (gl [[97], [98]]) w5 F5 from hW5)
       clear hW5 hzz)
    | (go_at_call 18
       refine (cal_append _ _ [97] w _ _ bl 1000 o2 [] 0 F2 (HW2.out.to ((Below.refl _ _).alloc (Nat.le_refl _) _)) (by omega) (lit_reads8' w2 5 (1, 2) [97] _ 1 rfl rfl (by decide)) (by simp) (fresh_out HW2.out) (by simp) (by simp [framesOf])).mono ?_
       rintro r w3 ⟨rfl, F3, hW3, _, _⟩
       have HW3 := Lib.hid (show WalIn w _ bl (gs 1000 [[97]] 0 (o2 + 1)) (gl [[97]]) w3 F3 from hW3)
       clear hW3)
    | (go_at_call 24
       refine (cal_sync w w3 _ bl 1000 (o2 + 1) [[97]] 0 F3 HW3.out (by omega)).mono ?_
       rintro r w4 ⟨rfl, F4, hW4, _, _⟩
       have HW4 := Lib.hid hW4
       clear hW4)
    | (go_at_call 19
       refine (cal_crash 0 w w5 _ bl 1000 (o2 + 1 + 1 + 1) [[97], [98]] _ _ F5 HW5.out).mono ?_
       rintro r w6 ⟨rfl, hle, F6, hW6, _, _⟩
       rw [hk0, h9] at hW6
       rw [hk0]
       have HCR := Lib.hid hW6
       clear hW6 hle)
    | (go_at_call 21
       refine (cal_all w w7 _ bl7 _ [[97]] F7 HW7.out (by simp) (by simp)).mono ?_
       rintro r w8 ⟨v8, rfl, hR8, hB8⟩
       obtain ⟨A8, c8, rfl⟩ := Kd.R_slice hR8
       obtain ⟨hs8, hm8, hr8, hi8⟩ := hds_of_rows (Kd.R_reads' hR8).2.2
       obtain ⟨y8, rfl, hy8⟩ : ∃ y, hs8 = [y] ∧ y.l = [97] := one_hd hm8
       obtain ⟨ad8, rfl, hc8⟩ := hd_at hr8 (j := 0) rfl
       have hbr := (hi8 y8 (by simp)).1
       rw [hy8] at hc8 hbr
       have hcv : (convert 32 9 (.slice y8.A 1 y8.c)).run Tryd.prog w8 = .ok (.string SA) w8 := by rw [HSA.out]; exact conv_str hbr
       have q8 : w8.cell? ad8 = some (.slice y8.A 1 y8.c) := by simpa [Addr.add] using hc8
       have HB8 := Lib.hid (HW7.out.below.trans (hB8.mono HW7.out.below.size))
       clear hR8 hB8 hm8 hr8 hi8 hc8 hbr hy8))
  go_ret
  exact ⟨rfl, HB8.out⟩
end Go.Proofs.YtfnnjgbldojigaaDoor
