/- ParseMsg. -/
import Derived.Test.YtkdlghbfplhkpaaDoorRdG1
import Derived.Test.YtkdlghbfplhkpaaDoorRdG2
set_option linter.unusedVariables false
set_option linter.unusedSimpArgs false
namespace Go.Proofs.YtkdlghbfplhkpaaDoor
open Go.RowKit Go.Proofs.YtkdlghbfplhkpaaDoorW.PrintWords Go.Proofs.Mine

theorem count_nat (s : St) (most : Int) (hm : 0 ≤ most) (hb : Byt s.1) : ∃ n : Nat, countV s most = (n : Int) ∧ (n : Int) ≤ most := by
  have h1 := oneV_byte hb
  unfold countV
  split
  · exact ⟨0, rfl, by omega⟩
  · exact ⟨(oneV s).toNat, by omega, by omega⟩
theorem byt_sort {s : St} (h : Byt s.1) (f t : Int) : Byt (sortS s f t).1 := by
  unfold sortS
  split
  · exact bytes_one h
  · exact bytes_one h
theorem byt_yes {s : St} (h : Byt s.1) : Byt (yesS s).1 := by
  unfold yesS
  split
  · exact bytes_one h
  · exact bytes_one h
theorem byt_numsL (n : Nat) : ∀ s : St, Byt s.1 → Byt (numsL n s).2.1 := by
  induction n with
  | zero => intro s h; exact h
  | succ n ih =>
    intro s h
    rw [numsL]
    split
    · exact ih _ (bytes_num h)
    · exact h
theorem byt_count {s : St} (h : Byt s.1) (most : Int) : Byt (countS s most).1 := by
  unfold countS
  split
  · exact bytes_one h
  · exact bytes_one h
theorem byt_numbers {s : St} (h : Byt s.1) (most : Int) : Byt (numbersS s most).1 := byt_numsL _ _ (byt_count h most)
theorem byt_msg3 {l : List Int} (h : Byt l) : Byt (msgS3 (msgS2 (msgS1 (l, 0)))).1 := byt_numbers (byt_yes (bytes_num (bytes_num (bytes_num (bytes_num (byt_sort (bytes_num (bytes_num (bytes_num h))) 1 15)))))) 64
theorem parseMsg_any (w : World) (A : Option Addr) (c : Nat) (l : List Int) (hb : Byt l) (hr : ReadsInt w .u8 A l.length l) (hn : l.length ≤ 100000000) (hg : Laid w) (h0 : 0 < w.heap.size) :
    Calls Tryd.prog 15 #[.slice A l.length c] w (GotMsg w (endE (msgS (l, 0))) (if endE (msgS (l, 0)) = 0 then msgRV (l, 0) else msg0)) := by
  obtain ⟨s1, e1⟩ : ∃ z, z = numS (l, 0) := ⟨_, rfl⟩
  obtain ⟨s2, e2⟩ : ∃ z, z = numS s1 := ⟨_, rfl⟩
  obtain ⟨s3, e3⟩ : ∃ z, z = numS s2 := ⟨_, rfl⟩
  obtain ⟨s4, e4⟩ : ∃ z, z = sortS s3 1 15 := ⟨_, rfl⟩
  obtain ⟨s5, e5⟩ : ∃ z, z = numS s4 := ⟨_, rfl⟩
  obtain ⟨s6, e6⟩ : ∃ z, z = numS s5 := ⟨_, rfl⟩
  obtain ⟨s7, e7⟩ : ∃ z, z = numS s6 := ⟨_, rfl⟩
  obtain ⟨s8, e8⟩ : ∃ z, z = numS s7 := ⟨_, rfl⟩
  obtain ⟨s9, e9⟩ : ∃ z, z = yesS s8 := ⟨_, rfl⟩
  obtain ⟨s10, e10⟩ : ∃ z, z = numbersS s9 64 := ⟨_, rfl⟩
  obtain ⟨s11, e11⟩ : ∃ z, z = countS s10 64 := ⟨_, rfl⟩
  have hb10 : Byt s10.1 := by rw [e10, e9, e8, e7, e6, e5, e4, e3, e2, e1]; exact byt_msg3 hb
  obtain ⟨n, hn1, hn2⟩ := count_nat s10 64 (by decide) hb10
  obtain ⟨ents, s12, e12⟩ : ∃ x y, entsL n s11 = (x, y) := ⟨_, _, rfl⟩
  have hc : (countV s10 64).toNat = n := by rw [hn1, Int.toNat_natCast]
  have h3 : msgS3 (msgS2 (msgS1 (l, 0))) = s10 := by rw [e10, e9, e8, e7, e6, e5, e4, e3, e2, e1]; rfl
  have h12 : msgS4 s10 = s12 := by unfold msgS4; rw [hc, ← e11, e12]
  have hs : msgS (l, 0) = confS s12 := by unfold msgS; rw [h3, h12]
  have hm : msgRV (l, 0) = ⟨numV (l, 0), numV s1, numV s2, oneV s3, numV s4, numV s5, numV s6, numV s7, decide (oneV s8 = 1), numbersV s9 64, ents, numbersV s12 9, numbersV (numbersS s12 9) 9⟩ := by
    have h1 : msgS1 (l, 0) = s3 := by rw [e3, e2, e1]; rfl
    have h2 : msgS2 (msgS1 (l, 0)) = s8 := by rw [h1, e8, e7, e6, e5, e4]; rfl
    unfold msgRV
    rw [h3, h12, h2, h1, hc, ← e11, e12, ← e9, ← e1, ← e2, ← e4, ← e5, ← e6, ← e7]
  rw [hs, hm]
  have hn64 : n ≤ 64 := by omega
  clear hb10 hn2 hc h3 h12 hs hm
  by_cases y0 : oneV s8 = 0
  · have hy : oneS s8 = s9 := by rw [e9]; unfold yesS; rw [if_pos (.inl y0)]
    have hd : decide (oneV s8 = 1) = false := by rw [y0]; rfl
    rw [hd]
    exact parseMsg_0 w A c l hb hr hn hg h0 s1 s2 s3 s4 s5 s6 s7 s8 s9 s10 s11 s12 (confS s12) n (numV (l, 0)) (numV s1) (numV s2) (oneV s3) (numV s4) (numV s5) (numV s6) (numV s7) (endE (confS s12)) (numbersV s9 64) (numbersV s12 9) (numbersV (numbersS s12 9) 9) ents hn64 (Lib.hid e1.symm) (Lib.hid e2.symm) (Lib.hid e3.symm) (Lib.hid e4.symm) (Lib.hid e5.symm) (Lib.hid e6.symm) (Lib.hid e7.symm) (Lib.hid e8.symm) (Lib.hid hy) (Lib.hid e10.symm) (Lib.hid e11.symm) (Lib.hid e12) (Lib.hid rfl) (Lib.hid rfl) (Lib.hid rfl) (Lib.hid rfl) (Lib.hid rfl) (Lib.hid rfl) (Lib.hid rfl) (Lib.hid rfl) (Lib.hid rfl) (Lib.hid rfl) (Lib.hid y0) (Lib.hid rfl) (Lib.hid hn1) (Lib.hid rfl) (Lib.hid rfl) _ (Lib.hid rfl)
  · by_cases y1 : oneV s8 = 1
    · have hy : oneS s8 = s9 := by rw [e9]; unfold yesS; rw [if_pos (.inr y1)]
      have hd : decide (oneV s8 = 1) = true := by rw [y1]; rfl
      rw [hd]
      exact parseMsg_1 w A c l hb hr hn hg h0 s1 s2 s3 s4 s5 s6 s7 s8 s9 s10 s11 s12 (confS s12) n (numV (l, 0)) (numV s1) (numV s2) (oneV s3) (numV s4) (numV s5) (numV s6) (numV s7) (endE (confS s12)) (numbersV s9 64) (numbersV s12 9) (numbersV (numbersS s12 9) 9) ents hn64 (Lib.hid e1.symm) (Lib.hid e2.symm) (Lib.hid e3.symm) (Lib.hid e4.symm) (Lib.hid e5.symm) (Lib.hid e6.symm) (Lib.hid e7.symm) (Lib.hid e8.symm) (Lib.hid hy) (Lib.hid e10.symm) (Lib.hid e11.symm) (Lib.hid e12) (Lib.hid rfl) (Lib.hid rfl) (Lib.hid rfl) (Lib.hid rfl) (Lib.hid rfl) (Lib.hid rfl) (Lib.hid rfl) (Lib.hid rfl) (Lib.hid rfl) (Lib.hid rfl) (Lib.hid y1) (Lib.hid rfl) (Lib.hid hn1) (Lib.hid rfl) (Lib.hid rfl) _ (Lib.hid rfl)
    · have hy : badS (oneS s8) 12 = s9 := by rw [e9]; unfold yesS; rw [if_neg (fun h => h.elim y0 y1)]
      have hd : decide (oneV s8 = 1) = false := decide_eq_false y1
      rw [hd]
      exact parseMsg_2 w A c l hb hr hn hg h0 s1 s2 s3 s4 s5 s6 s7 s8 (oneS s8) s9 s10 s11 s12 (confS s12) n (numV (l, 0)) (numV s1) (numV s2) (oneV s3) (numV s4) (numV s5) (numV s6) (numV s7) (endE (confS s12)) (oneV s8) (numbersV s9 64) (numbersV s12 9) (numbersV (numbersS s12 9) 9) ents hn64 (Lib.hid e1.symm) (Lib.hid e2.symm) (Lib.hid e3.symm) (Lib.hid e4.symm) (Lib.hid e5.symm) (Lib.hid e6.symm) (Lib.hid e7.symm) (Lib.hid e8.symm) (Lib.hid rfl) (Lib.hid hy) (beq_eq_false_iff_ne.mpr y0) (beq_eq_false_iff_ne.mpr y1) (Lib.hid e10.symm) (Lib.hid e11.symm) (Lib.hid e12) (Lib.hid rfl) (Lib.hid rfl) (Lib.hid rfl) (Lib.hid rfl) (Lib.hid rfl) (Lib.hid rfl) (Lib.hid rfl) (Lib.hid rfl) (Lib.hid rfl) (Lib.hid rfl) (Lib.hid rfl) (Lib.hid rfl) (Lib.hid hn1) (Lib.hid rfl) (Lib.hid rfl) _ (Lib.hid rfl)
end Go.Proofs.YtkdlghbfplhkpaaDoor
