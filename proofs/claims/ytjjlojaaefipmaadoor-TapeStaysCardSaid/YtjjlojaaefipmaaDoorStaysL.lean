/- The walk of TapeStays. -/
import Derived.Test.YtjjlojaaefipmaaDoorStaysP
set_option linter.unusedVariables false
set_option linter.unusedSimpArgs false
namespace Go.Proofs.YtjjlojaaefipmaaDoor
open Go.RowKit Go.Proofs.YtjjlojaaefipmaaDoorW.PrintWords Go.Proofs.Mine

theorem lit_buf {w4 : World} {base : Nat} (h : base ≤ w4.heap.size) : Buf .u8 5 (w4.alloc (.cells #[] 5)) base (.slice (some ⟨w4.heap.size, 0, none⟩) 0 0) [] :=
  .inr ⟨w4.heap.size, 0, #[], rfl, h, heap_alloc_new w4 _, by simp, by simp, by simp, by simp [nums]⟩
theorem cut_reads {W : World} {base : Nat} {A3 : Option Addr} {LX L5 : List Int} {m c : Nat} (hb : Buf .u8 5 W base (.slice A3 LX.length c) LX) (hL : L5 = LX.take m) (hm : m ≤ LX.length) (hl : L5.length = m) : ReadsInt W .u8 A3 L5.length L5 := by
  rw [hl, hL]; exact take_reads (buf_reads hb) m hm
theorem StaysAt.skip {w : World} {b : Nat} {l0 : List Int} {k : Nat} {allv : Value} {L : List Int} {n : Nat} {ops : Int} {F : Nat → Prop} {wr : World} (h : StaysAt w b l0 k allv L n ops F wr) : StaysAt w b l0 (k + 1) allv L n ops F wr :=
  ⟨h.tp, h.buf, h.not, h.pre, h.syn, by have := h.len; omega, h.op0, by have := h.op1; push_cast; omega⟩
set_option maxRecDepth 100000 in
set_option maxHeartbeats 2000000 in
theorem stays_any (A0 : Option Addr) (cap0 : Nat) (l0 : List Int) (A1 : Option Addr) (cap1 : Nat) (rs : List (List Int)) (A2 : Option Addr) (cap2 : Nat) (ps : List Int) (w : World) (hg0 : Laid w) (hr0 : ReadsInt w .u8 A0 l0.length l0) (hr1 : rowsK.C w A1 rs.length rs) (hr2 : ReadsInt w .i64 A2 ps.length ps) :
    Calls Tryd.prog 3 #[.slice A0 l0.length cap0, .slice A1 rs.length cap1, .slice A2 ps.length cap2] w fun e w' => e = .returned (.bool true) ∧ Below w.heap.size w w' := by
  have HG := Lib.hid hg0
  have R0 := Lib.hid hr0
  have R1 := Lib.hid hr1
  have R2 := Lib.hid hr2
  have hm1 : rs.length ≤ 9223372036854775807 := hr1.2.1
  have hm2 : ps.length ≤ 9223372036854775807 := hr2.2.1
  clear hg0 hr0 hr1 hr2
  by_cases h5 : (500 : Int) < (l0.length : Int)
  · go_enter Tryd.func3, Tryd.ntmps3
    go_wp2_with (go_at_call 8; refine (known_any w HG.out).mono ?_; rintro e w1 ⟨rfl, hB⟩; have HB1 := Lib.hid hB; clear hB)
    go_ret
    exact ⟨rfl, HB1.out⟩
  have hb0 : l0.length ≤ 500 := by omega
  obtain ⟨SA, hSA⟩ : ∃ z, z = strOfNums l0 := ⟨_, rfl⟩
  have heA : (SA.toList == SA.toList) = true := by simp
  have HSA := Lib.hid hSA
  clear hSA
  go_enter Tryd.func3, Tryd.ntmps3
  go_wp2_with (first
    | (go_at_call 8; refine (known_any w HG.out).mono ?_; rintro e w1 ⟨rfl, hB⟩; have HB1 := Lib.hid hB; clear hB)
    | (go_at_call 9; refine (new_ok 100000 w1 (by decide) (by decide)).mono ?_; rintro r w2 ⟨rfl, hw2⟩; have HI := in_new HG.out HB1.out 100000 (by decide) (by decide); rw [← hw2] at HI; have HT2 := Lib.hid HI; clear HI hw2; generalize w1.heap.size = b at *)
    | (go_at_call 10
       refine (append_arg A0 cap0 l0 w w2 b _ _ HT2.out (show (0 : Int) < 1000000000 by decide) R0.out (by omega)).mono ?_
       rintro r w3 ⟨rfl, F3, hT3, _, _⟩
       obtain ⟨e3, s3⟩ : appendE (new0 100000) l0 = 0 ∧ appendS (new0 100000) l0 = ⟨100000, l0, 0, 0, false, 1⟩ := apd_plain 100000 0 [] l0 0 (by show ((0 : Nat) : Int) + (l0.length : Int) ≤ 100000; omega)
       rw [s3] at hT3
       rw [e3]
       have HT3 := Lib.hid hT3
       clear hT3 e3 s3)
    | (go_at_call 11
       refine (sync_in w w3 b F3 _ HT3.out (show (1 : Int) < 1000000000 by decide)).mono ?_
       rintro r w4 ⟨rfl, F4, hT4, _, _⟩
       obtain ⟨e4, s4⟩ : _ ∧ syncS _ = ⟨100000, l0, l0.length, 0, false, 2⟩ := syn_plain 100000 1 l0 0 (by decide)
       rw [s4] at hT4
       rw [e4]
       have hal : Below w4.heap.size w4 (w4.alloc (.cells #[] 5)) := (Below.refl _ _).alloc (Nat.le_refl _) _
       have HLB := Lib.hid (lit_buf hT4.below.size)
       have HRA := Lib.hid ((R0.out.below hT4.below).below hal)
       have HTA := Lib.hid (hT4.to hal)
       have HNA := Lib.hid (show ∀ j, (Value.slice (some ⟨w4.heap.size, 0, none⟩) 0 0).ownBlock = some j → ¬ F4 j from fun j hj hf => by injection hj with hj; subst hj; have := (hT4.at_.2.1 _ hf).2; simp at this)
       have hbwA : w.heap.size ≤ (w4.alloc (.cells #[] 5)).heap.size := by have := hT4.below.size; simp; omega
       have hblA : (([] : List Int).length + l0.length) * 1 ≤ 140737488355328 := by simp only [List.length_nil]; omega
       have HT4 := Lib.hid hT4
       clear hT4 e4 s4 hal)
    | (at_builtin
       refine wpList_append_buf (w4.alloc (.cells #[] 5)) rfl _ _ 22 5 .u8 1 w.heap.size rfl Tryd.underlying22 info5 (by decide) (.slice (some ⟨w4.heap.size, 0, none⟩) 0 0) [] l0 A0 l0.length cap0 ?a1 ?a2 HLB.out HRA.out hbwA hblA ?a3
       case a1 => rfl
       case a2 => rfl
       intro v5 w5 hv hg hat
       obtain ⟨hT5, hn5⟩ := all_grown HTA.out HLB.out HNA.out hg hat
       rw [List.nil_append] at hv
       have HST := Lib.hid (show StaysAt w b l0 0 v5 l0 l0.length 2 F4 w5 from ⟨hT5, hv, hn5, List.take_length, Nat.le_refl _, by omega, by decide, by decide⟩)
       obtain ⟨Aa0, ca0, rfl⟩ := hv.slice
       clear hv hg hat hT5 hn5))
  go_loopw [9, 10, 11] (fun av iv _ wr => ∃ (k : Nat) (L : List Int) (n : Nat) (ops : Int) (F : Nat → Prop), k ≤ 15 ∧ k ≤ rs.length ∧ iv = .int .i64 (k : Int) ∧ StaysAt w b l0 k av L n ops F wr) (fun _ iv _ _ => 15 - (intOf iv).toNat)
  case atStart => exact ⟨0, l0, l0.length, 2, F4, by omega, by omega, rfl, HST.out⟩
  case round =>
    obtain ⟨k, L, n, ops, F, hk15, hkr, rfl, hs⟩ := hrel
    obtain ⟨Aa, ca, rfl⟩ := hs.buf.slice
    have HS := Lib.hid hs
    clear hs HST
    by_cases hlt : k < rs.length ∧ k < 15
    · obtain ⟨x, hx⟩ : ∃ x, rs[k]? = some x := ⟨_, List.getElem?_eq_getElem hlt.1⟩
      obtain ⟨ad, Ax, cx, rfl, hcx, hRx⟩ := row_at R1.out hx
      have hxm := hRx.2.1
      have q1 : wr.cell? (ad.add k) = some (.slice Ax x.length cx) := pw_cell_below HS.out.tp.below hcx
      have HCX := Lib.hid hcx
      have HRX := Lib.hid hRx
      have hlt1 : (k : Int) < (rs.length : Int) := by omega
      have hlt2 : (k : Int) < 15 := by omega
      have hk0 : (0 : Int) ≤ (k : Int) := by omega
      obtain ⟨LX, hLX⟩ : ∃ z, z = L ++ x := ⟨_, rfl⟩
      have HLX := Lib.hid hLX
      clear hx hcx hRx hLX
      by_cases hx3 : (300 : Int) < (x.length : Int)
      · go_wp2_with fail
        exact ⟨⟨k + 1, L, n, ops, F, by omega, by omega, by simp, HS.out.skip⟩, by simp [intOf]; omega⟩
      have hx4 : x.length ≤ 300 := by omega
      by_cases hp : (k : Int) < (ps.length : Int)
      · obtain ⟨adp, rfl, hcp⟩ := R2.out.at_ k (by omega) (by omega)
        rw [Int.toNat_natCast] at hcp
        have HCP := Lib.hid hcp
        clear hcp
        generalize rd ps k = q at *
        by_cases hq : q.tmod 2 = 1
        · have hq2 : (q.tmod 2 == 1) = true := by simp [hq]
          go_wp2_with (first
          | (go_at_call 10
             refine (append_arg Ax cx x w wr b F _ HS.out.tp (by have := HS.out.op1; show ops < 1000000000; omega) HRX.out (by omega)).mono ?_
             rintro r w2 ⟨rfl, F2, hT2, hF2, hK2⟩
             obtain ⟨e2, s2⟩ := apd_plain 100000 ops L x n (by have := HS.out.len; omega)
             rw [s2, ← HLX.out] at hT2
             rw [e2]
             obtain ⟨hb2, hn2⟩ := all_kept HS.out.buf HS.out.not hF2 hK2
             have qx2 : w2.cell? (ad.add k) = some (.slice Ax x.length cx) := pw_cell_below hT2.below HCX.out
             have HT2 := Lib.hid hT2
             have HB2 := Lib.hid hb2
             have HN2 := Lib.hid hn2
             have HR2 := Lib.hid (HRX.out.below hT2.below)
             have hbw2 : w.heap.size ≤ w2.heap.size := hT2.below.size
             have hbl2 : (L.length + x.length) * 1 ≤ 140737488355328 := by have := HS.out.len; omega
             clear hT2 hF2 hK2 e2 s2 hb2 hn2)
          | (at_builtin
             refine wpList_append_buf w2 rfl _ _ 22 5 .u8 1 w.heap.size rfl Tryd.underlying22 info5 (by decide) (.slice Aa L.length ca) L x Ax x.length cx ?sc1 ?sc2 HB2.out HR2.out hbw2 hbl2 ?sc3
             case sc1 => rfl
             case sc2 => rfl
             intro v3 w3 hv hg hat
             obtain ⟨hT3, hn3⟩ := all_grown HT2.out HB2.out HN2.out hg hat
             rw [← HLX.out] at hv
             have qp3 : w3.cell? (adp.add k) = some (.int .i64 q) := pw_cell_below hT3.below HCP.out
             have HB3 := Lib.hid hv
             obtain ⟨Aa3, ca3, rfl⟩ := hv.slice
             have HT3 := Lib.hid hT3
             have HN3 := Lib.hid hn3
             clear hv hg hat hT3 hn3)
          | (go_at_call 12
             refine (crash_in _ w w3 b F2 _ HT3.out).mono ?_
             rintro r w4 ⟨rfl, F4, hT4, hF4, hK4⟩
             obtain ⟨m, hm1, hm2, s4⟩ := crash_of 100000 (ops + 1) LX n HT3.out.ok.syn _
             rw [s4] at hT4
             obtain ⟨L5, hL5⟩ : ∃ z, z = LX.take m := ⟨_, rfl⟩
             have hl5 : L5.length = m := by rw [hL5, List.length_take]; omega
             rw [← hL5] at hT4
             obtain ⟨hb4, hn4⟩ := all_kept HB3.out HN3.out hF4 hK4
             have HL5 := Lib.hid hL5
             have HT4 := Lib.hid hT4
             have HB4 := Lib.hid hb4
             have HM := Lib.hid (And.intro hm1 (And.intro hm2 hl5))
             have ht1 : (l0.length : Int) ≤ (L5.length : Int) := by have := HS.out.syn; omega
             have ht2 : (L5.length : Int) ≤ (LX.length : Int) := by omega
             have ht1n : ¬ (L5.length < l0.length) := by omega
             have ht2n : ¬ (LX.length < L5.length) := by omega
             have ht1d : decide ((L5.length : Int) < (l0.length : Int)) = false := by simp; omega
             have ht2d : decide ((LX.length : Int) < (L5.length : Int)) = false := by simp; omega
             have hcs := cut_to Aa3 LX.length ca3 L5.length (by have := (cap_ge HB3.out).2; omega)
             obtain ⟨SL, hSL⟩ : ∃ z, z = strOfNums L5 := ⟨_, rfl⟩
             have heS : (SL.toList == SL.toList) = true := by simp
             have HSL := Lib.hid hSL
             clear hT4 hF4 hK4 s4 hL5 hl5 hb4 hn4 hm1 hm2 hSL)
          | (go_at_call 13
             go_loud (refine (bytes_in w w4 b F4 _ HT4.out).mono ?_)
             rintro r w5 ⟨A5, c5, rfl, hT5, hB5, hv5⟩
             go_loud (have hr5 : ReadsInt w5.drew .u8 Aa3 L5.length L5 := cut_reads (W := w5.drew) (HB4.out.keep (Keep.of_below hB5 (fun _ => False)).drew (fun _ _ h => h)) HL5.out HM.out.2.1 HM.out.2.2)
             go_loud (have cb5 : (convert 22 9 (.slice A5 L5.length c5)).run Tryd.prog w5.drew = .ok (.string SL) w5.drew := by rw [HSL.out]; exact str_of (W := w5.drew) (buf_reads hv5))
             go_loud (have ca5 : (convert 22 9 (.slice Aa3 L5.length ca3)).run Tryd.prog w5.drew = .ok (.string SL) w5.drew := by rw [HSL.out]; exact str_of (W := w5.drew) hr5)
             go_loud (have hn5 : ∀ j, (Value.slice A5 L5.length c5).ownBlock = some j → ¬ F4 j := fun j hj hf => by have := (hv5.lt j hj).1; have := (HT4.out.at_.2.1 _ hf).2; omega)
             go_loud (have HT5 := Lib.hid (show TapeIn w b ⟨100000, L5, m, 0, false, ops + 1⟩ w5.drew F4 from ⟨hT5.at_, hT5.below.drew, hT5.laid, hT5.ok⟩))
             go_loud (have HV5 := Lib.hid (show Buf .u8 5 w5.drew w.heap.size (.slice A5 L5.length c5) L5 from hv5.lower HT4.out.below.size))
             have HN5 := Lib.hid hn5
             clear hT5 hB5 hv5 hr5 hn5))
          refine wp_region_noPanic ?_
          refine wp_region_held_drew (S := (fun w' => (convert 22 9 (.slice A5 L5.length c5)).run Tryd.prog w' = .ok (.string SL) w' ∧ (convert 22 9 (.slice Aa3 L5.length ca3)).run Tryd.prog w' = .ok (.string SL) w')) (by kernel_rfl) ?zs0 (fun hHeld0 => ?zr0)
          case zs0 => (try dsimp only); exact ⟨cb5, ca5⟩
          refine wpAnyH_take (i := 0) (v := ?zv1) (by simp only [List.getElem?_toArray, List.getElem?_cons_zero, List.getElem?_cons_succ]; rfl) (by kernel_rfl) (by kernel_rfl) (by kernel_rfl) (fun _ _ _ h => h) (Or.inl ⟨by rfl, ?zh1⟩) hHeld0 ?zq1
          case zh1 => (intro w hSw; (try dsimp only at hSw); go_simp <;> with_reducible rfl)
          try simp only [Act.put, List.setIfInBounds_toArray, List.set_cons_zero, List.set_cons_succ]
          refine wpAnyH_take (i := 1) (v := ?zv2) (by simp only [List.getElem?_toArray, List.getElem?_cons_zero, List.getElem?_cons_succ]; rfl) (by kernel_rfl) (by kernel_rfl) (by kernel_rfl) (fun _ _ _ h => h) (Or.inl ⟨by rfl, ?zh2⟩) hHeld0 ?zq2
          case zh2 => (intro w hSw; (try dsimp only at hSw); go_simp <;> with_reducible rfl)
          try simp only [Act.put, List.setIfInBounds_toArray, List.set_cons_zero, List.set_cons_succ]
          refine wpAnyH_take (i := 2) (v := ?zv3) (by simp only [List.getElem?_toArray, List.getElem?_cons_zero, List.getElem?_cons_succ]; rfl) (by kernel_rfl) (by kernel_rfl) (by kernel_rfl) (fun _ _ _ h => h) (Or.inl ⟨by rfl, ?zh3⟩) hHeld0 ?zq3
          case zh3 => (intro w hSw; (try dsimp only at hSw); go_simp <;> with_reducible rfl)
          try simp only [Act.put, List.setIfInBounds_toArray, List.set_cons_zero, List.set_cons_succ]
          refine wpAnyH_take (i := 3) (v := ?zv4) (by simp only [List.getElem?_toArray, List.getElem?_cons_zero, List.getElem?_cons_succ]; rfl) (by kernel_rfl) (by kernel_rfl) (by kernel_rfl) (fun _ _ _ h => h) (Or.inl ⟨by rfl, ?zh4⟩) hHeld0 ?zq4
          case zh4 => (intro w hSw; (try dsimp only at hSw); go_simp <;> with_reducible rfl)
          try simp only [Act.put, List.setIfInBounds_toArray, List.set_cons_zero, List.set_cons_succ]
          refine wpAnyH_take (i := 4) (v := ?zv5) (by simp only [List.getElem?_toArray, List.getElem?_cons_zero, List.getElem?_cons_succ]; rfl) (by kernel_rfl) (by kernel_rfl) (by kernel_rfl) (fun _ _ _ h => h) (Or.inl ⟨by rfl, ?zh5⟩) hHeld0 ?zq5
          case zh5 => (intro w hSw; (try dsimp only at hSw); go_simp <;> with_reducible rfl)
          try simp only [Act.put, List.setIfInBounds_toArray, List.set_cons_zero, List.set_cons_succ]
          refine wpAnyH_take (i := 5) (v := ?zv6) (by simp only [List.getElem?_toArray, List.getElem?_cons_zero, List.getElem?_cons_succ]; rfl) (by kernel_rfl) (by kernel_rfl) (by kernel_rfl) (fun _ _ _ h => h) (Or.inl ⟨by rfl, ?zh6⟩) hHeld0 ?zq6
          case zh6 => (intro w hSw; (try dsimp only at hSw); go_simp <;> with_reducible rfl)
          try simp only [Act.put, List.setIfInBounds_toArray, List.set_cons_zero, List.set_cons_succ]
          refine wpAnyH_take (i := 6) (v := ?zv7) (by simp only [List.getElem?_toArray, List.getElem?_cons_zero, List.getElem?_cons_succ]; rfl) (by kernel_rfl) (by kernel_rfl) (by kernel_rfl) (fun _ _ _ h => h) (Or.inl ⟨by rfl, ?zh7⟩) hHeld0 ?zq7
          case zh7 => (intro w hSw; (try dsimp only at hSw); go_simp <;> with_reducible rfl)
          try simp only [Act.put, List.setIfInBounds_toArray, List.set_cons_zero, List.set_cons_succ]
          refine wpAnyH_take (i := 7) (v := ?zv8) (by simp only [List.getElem?_toArray, List.getElem?_cons_zero, List.getElem?_cons_succ]; rfl) (by kernel_rfl) (by kernel_rfl) (by kernel_rfl) (fun _ _ _ h => h) (Or.inl ⟨by rfl, ?zh8⟩) hHeld0 ?zq8
          case zh8 => (intro w hSw; (try dsimp only at hSw); go_simp <;> with_reducible rfl)
          try simp only [Act.put, List.setIfInBounds_toArray, List.set_cons_zero, List.set_cons_succ]
          refine wpAnyH_take (i := 8) (v := ?zv9) (by simp only [List.getElem?_toArray, List.getElem?_cons_zero, List.getElem?_cons_succ]; rfl) (by kernel_rfl) (by kernel_rfl) (by kernel_rfl) (fun _ _ _ h => h) (Or.inl ⟨by rfl, ?zh9⟩) hHeld0 ?zq9
          case zh9 => (intro w hSw; (try dsimp only at hSw); go_simp <;> with_reducible rfl)
          try simp only [Act.put, List.setIfInBounds_toArray, List.set_cons_zero, List.set_cons_succ]
          refine wpAnyH_take (i := 9) (v := ?zv10) (by simp only [List.getElem?_toArray, List.getElem?_cons_zero, List.getElem?_cons_succ]; rfl) (by kernel_rfl) (by kernel_rfl) (by kernel_rfl) (fun _ _ _ h => h) (Or.inl ⟨by rfl, ?zh10⟩) hHeld0 ?zq10
          case zh10 => (intro w hSw; (try dsimp only at hSw); go_simp <;> with_reducible rfl)
          try simp only [Act.put, List.setIfInBounds_toArray, List.set_cons_zero, List.set_cons_succ]
          refine wpAnyH_take (i := 10) (v := ?zv11) (by simp only [List.getElem?_toArray, List.getElem?_cons_zero, List.getElem?_cons_succ]; rfl) (by kernel_rfl) (by kernel_rfl) (by kernel_rfl) (fun _ _ _ h => h) (Or.inl ⟨by rfl, ?zh11⟩) hHeld0 ?zq11
          case zh11 => (intro w hSw; (try dsimp only at hSw); go_simp <;> with_reducible rfl)
          try simp only [Act.put, List.setIfInBounds_toArray, List.set_cons_zero, List.set_cons_succ]
          refine wpAnyH_take (i := 11) (v := ?zv12) (by simp only [List.getElem?_toArray, List.getElem?_cons_zero, List.getElem?_cons_succ]; rfl) (by kernel_rfl) (by kernel_rfl) (by kernel_rfl) (fun _ _ _ h => h) (Or.inl ⟨by rfl, ?zh12⟩) hHeld0 ?zq12
          case zh12 => (intro w hSw; (try dsimp only at hSw); go_simp <;> with_reducible rfl)
          try simp only [Act.put, List.setIfInBounds_toArray, List.set_cons_zero, List.set_cons_succ]
          refine wpAnyH_take (i := 12) (v := ?zv13) (by simp only [List.getElem?_toArray, List.getElem?_cons_zero, List.getElem?_cons_succ]; rfl) (by kernel_rfl) (by kernel_rfl) (by kernel_rfl) (fun _ _ _ h => h) (Or.inl ⟨by rfl, ?zh13⟩) hHeld0 ?zq13
          case zh13 => (intro w hSw; (try dsimp only at hSw); go_simp <;> with_reducible rfl)
          try simp only [Act.put, List.setIfInBounds_toArray, List.set_cons_zero, List.set_cons_succ]
          refine wpAnyH_take (i := 13) (v := ?zv14) (by simp only [List.getElem?_toArray, List.getElem?_cons_zero, List.getElem?_cons_succ]; rfl) (by kernel_rfl) (by kernel_rfl) (by kernel_rfl) (fun _ _ _ h => h) (Or.inl ⟨by rfl, ?zh14⟩) hHeld0 ?zq14
          case zh14 => (intro w hSw; (try dsimp only at hSw); go_simp <;> with_reducible rfl)
          try simp only [Act.put, List.setIfInBounds_toArray, List.set_cons_zero, List.set_cons_succ]
          refine wpAnyH_take (i := 14) (v := ?zv15) (by simp only [List.getElem?_toArray, List.getElem?_cons_zero, List.getElem?_cons_succ]; rfl) (by kernel_rfl) (by kernel_rfl) (by kernel_rfl) (fun _ _ _ h => h) (Or.inl ⟨by rfl, ?zh15⟩) hHeld0 ?zq15
          case zh15 => (intro w hSw; (try dsimp only at hSw); go_simp <;> with_reducible rfl)
          try simp only [Act.put, List.setIfInBounds_toArray, List.set_cons_zero, List.set_cons_succ]
          refine wpAnyH_take (i := 15) (v := ?zv16) (by simp only [List.getElem?_toArray, List.getElem?_cons_zero, List.getElem?_cons_succ]; rfl) (by kernel_rfl) (by kernel_rfl) (by kernel_rfl) (fun _ _ _ h => h) (Or.inl ⟨by rfl, ?zh16⟩) hHeld0 ?zq16
          case zh16 => (intro w hSw; (try dsimp only at hSw); go_simp <;> with_reducible rfl)
          try simp only [Act.put, List.setIfInBounds_toArray, List.set_cons_zero, List.set_cons_succ]
          refine wpAnyH_take (i := 16) (v := ?zv17) (by simp only [List.getElem?_toArray, List.getElem?_cons_zero, List.getElem?_cons_succ]; rfl) (by kernel_rfl) (by kernel_rfl) (by kernel_rfl) (fun _ _ _ h => h) (Or.inl ⟨by rfl, ?zh17⟩) hHeld0 ?zq17
          case zh17 => (intro w hSw; (try dsimp only at hSw); go_simp <;> with_reducible rfl)
          try simp only [Act.put, List.setIfInBounds_toArray, List.set_cons_zero, List.set_cons_succ]
          refine wpAnyH_take (i := 17) (v := ?zv18) (by simp only [List.getElem?_toArray, List.getElem?_cons_zero, List.getElem?_cons_succ]; rfl) (by kernel_rfl) (by kernel_rfl) (by kernel_rfl) (fun _ _ _ h => h) (Or.inl ⟨by rfl, ?zh18⟩) hHeld0 ?zq18
          case zh18 => (intro w hSw; (try dsimp only at hSw); go_simp <;> with_reducible rfl)
          try simp only [Act.put, List.setIfInBounds_toArray, List.set_cons_zero, List.set_cons_succ]
          refine wpAnyH_take (i := 18) (v := ?zv19) (by simp only [List.getElem?_toArray, List.getElem?_cons_zero, List.getElem?_cons_succ]; rfl) (by kernel_rfl) (by kernel_rfl) (by kernel_rfl) (fun _ _ _ h => h) (Or.inl ⟨by rfl, ?zh19⟩) hHeld0 ?zq19
          case zh19 => (intro w hSw; (try dsimp only at hSw); go_simp <;> with_reducible rfl)
          try simp only [Act.put, List.setIfInBounds_toArray, List.set_cons_zero, List.set_cons_succ]
          refine wpAnyH_take (i := 19) (v := ?zv20) (by simp only [List.getElem?_toArray, List.getElem?_cons_zero, List.getElem?_cons_succ]; rfl) (by kernel_rfl) (by kernel_rfl) (by kernel_rfl) (fun _ _ _ h => h) (Or.inl ⟨by rfl, ?zh20⟩) hHeld0 ?zq20
          case zh20 => (intro w hSw; (try dsimp only at hSw); go_simp <;> with_reducible rfl)
          try simp only [Act.put, List.setIfInBounds_toArray, List.set_cons_zero, List.set_cons_succ]
          refine wpAnyH_take (i := 20) (v := ?zv21) (by simp only [List.getElem?_toArray, List.getElem?_cons_zero, List.getElem?_cons_succ]; rfl) (by kernel_rfl) (by kernel_rfl) (by kernel_rfl) (fun _ _ _ h => h) (Or.inl ⟨by rfl, ?zh21⟩) hHeld0 ?zq21
          case zh21 => (intro w hSw; (try dsimp only at hSw); go_simp <;> with_reducible rfl)
          try simp only [Act.put, List.setIfInBounds_toArray, List.set_cons_zero, List.set_cons_succ]
          refine wpAnyH_take (i := 21) (v := ?zv22) (by simp only [List.getElem?_toArray, List.getElem?_cons_zero, List.getElem?_cons_succ]; rfl) (by kernel_rfl) (by kernel_rfl) (by kernel_rfl) (fun _ _ _ h => h) (Or.inl ⟨by rfl, ?zh22⟩) hHeld0 ?zq22
          case zh22 => (intro w hSw; (try dsimp only at hSw); go_simp <;> with_reducible rfl)
          try simp only [Act.put, List.setIfInBounds_toArray, List.set_cons_zero, List.set_cons_succ]
          refine wpAnyH_done (by kernel_rfl) ?_ _
          refine NoPanic.normal ?_
          go_wp2_with fail
          exact ⟨⟨k + 1, L5, m, ops + 1, F4, by omega, by omega, by simp, ⟨HT5.out, HV5.out, HN5.out, by rw [HL5.out, HLX.out]; exact pre_cut (pre_app HS.out.pre (Nat.le_trans HS.out.syn HS.out.tp.ok.syn)) (Nat.le_trans HS.out.syn HM.out.1), Nat.le_trans HS.out.syn HM.out.1, by have h1 := HM.out.2.1; have h2 := HM.out.2.2; rw [HLX.out, List.length_append] at h1; have := HS.out.len; omega, by have := HS.out.op0; omega, by have := HS.out.op1; push_cast; omega⟩⟩, by simp [intOf]; omega⟩
        have hq2 : (q.tmod 2 == 1) = false := by simp [hq]
        go_wp2_with (first
        | (go_at_call 10
           refine (append_arg Ax cx x w wr b F _ HS.out.tp (by have := HS.out.op1; show ops < 1000000000; omega) HRX.out (by omega)).mono ?_
           rintro r w2 ⟨rfl, F2, hT2, hF2, hK2⟩
           obtain ⟨e2, s2⟩ := apd_plain 100000 ops L x n (by have := HS.out.len; omega)
           rw [s2, ← HLX.out] at hT2
           rw [e2]
           obtain ⟨hb2, hn2⟩ := all_kept HS.out.buf HS.out.not hF2 hK2
           have qx2 : w2.cell? (ad.add k) = some (.slice Ax x.length cx) := pw_cell_below hT2.below HCX.out
           have HT2 := Lib.hid hT2
           have HB2 := Lib.hid hb2
           have HN2 := Lib.hid hn2
           have HR2 := Lib.hid (HRX.out.below hT2.below)
           have hbw2 : w.heap.size ≤ w2.heap.size := hT2.below.size
           have hbl2 : (L.length + x.length) * 1 ≤ 140737488355328 := by have := HS.out.len; omega
           clear hT2 hF2 hK2 e2 s2 hb2 hn2)
        | (at_builtin
           refine wpList_append_buf w2 rfl _ _ 22 5 .u8 1 w.heap.size rfl Tryd.underlying22 info5 (by decide) (.slice Aa L.length ca) L x Ax x.length cx ?sb1 ?sb2 HB2.out HR2.out hbw2 hbl2 ?sb3
           case sb1 => rfl
           case sb2 => rfl
           intro v3 w3 hv hg hat
           obtain ⟨hT3, hn3⟩ := all_grown HT2.out HB2.out HN2.out hg hat
           rw [← HLX.out] at hv
           have qp3 : w3.cell? (adp.add k) = some (.int .i64 q) := pw_cell_below hT3.below HCP.out
           have HB3 := Lib.hid hv
           obtain ⟨Aa3, ca3, rfl⟩ := hv.slice
           have HT3 := Lib.hid hT3
           have HN3 := Lib.hid hn3
           clear hv hg hat hT3 hn3))
        exact ⟨⟨k + 1, LX, n, ops + 1, F2, by omega, by omega, by simp, ⟨HT3.out, HB3.out, HN3.out, by rw [HLX.out]; exact pre_app HS.out.pre (Nat.le_trans HS.out.syn HS.out.tp.ok.syn), HS.out.syn, by rw [HLX.out, List.length_append]; have := HS.out.len; omega, by have := HS.out.op0; omega, by have := HS.out.op1; push_cast; omega⟩⟩, by simp [intOf]; omega⟩
      · skip
        go_wp2_with (first
        | (go_at_call 10
           refine (append_arg Ax cx x w wr b F _ HS.out.tp (by have := HS.out.op1; show ops < 1000000000; omega) HRX.out (by omega)).mono ?_
           rintro r w2 ⟨rfl, F2, hT2, hF2, hK2⟩
           obtain ⟨e2, s2⟩ := apd_plain 100000 ops L x n (by have := HS.out.len; omega)
           rw [s2, ← HLX.out] at hT2
           rw [e2]
           obtain ⟨hb2, hn2⟩ := all_kept HS.out.buf HS.out.not hF2 hK2
           have qx2 : w2.cell? (ad.add k) = some (.slice Ax x.length cx) := pw_cell_below hT2.below HCX.out
           have HT2 := Lib.hid hT2
           have HB2 := Lib.hid hb2
           have HN2 := Lib.hid hn2
           have HR2 := Lib.hid (HRX.out.below hT2.below)
           have hbw2 : w.heap.size ≤ w2.heap.size := hT2.below.size
           have hbl2 : (L.length + x.length) * 1 ≤ 140737488355328 := by have := HS.out.len; omega
           clear hT2 hF2 hK2 e2 s2 hb2 hn2)
        | (at_builtin
           refine wpList_append_buf w2 rfl _ _ 22 5 .u8 1 w.heap.size rfl Tryd.underlying22 info5 (by decide) (.slice Aa L.length ca) L x Ax x.length cx ?sa1 ?sa2 HB2.out HR2.out hbw2 hbl2 ?sa3
           case sa1 => rfl
           case sa2 => rfl
           intro v3 w3 hv hg hat
           obtain ⟨hT3, hn3⟩ := all_grown HT2.out HB2.out HN2.out hg hat
           rw [← HLX.out] at hv
           have HB3 := Lib.hid hv
           obtain ⟨Aa3, ca3, rfl⟩ := hv.slice
           have HT3 := Lib.hid hT3
           have HN3 := Lib.hid hn3
           clear hv hg hat hT3 hn3))
        exact ⟨⟨k + 1, LX, n, ops + 1, F2, by omega, by omega, by simp, ⟨HT3.out, HB3.out, HN3.out, by rw [HLX.out]; exact pre_app HS.out.pre (Nat.le_trans HS.out.syn HS.out.tp.ok.syn), HS.out.syn, by rw [HLX.out, List.length_append]; have := HS.out.len; omega, by have := HS.out.op0; omega, by have := HS.out.op1; push_cast; omega⟩⟩, by simp [intOf]; omega⟩
    · have ht : ¬ (k < rs.length) ∨ (k < rs.length ∧ (15 : Int) ≤ (k : Int)) := by
        by_cases h1 : k < rs.length
        · exact .inr ⟨h1, by omega⟩
        · exact .inl h1
      have hll : l0.length ≤ L.length := Nat.le_trans HS.out.syn HS.out.tp.ok.syn
      have ca6 : (convert 22 9 (.slice A0 l0.length cap0)).run Tryd.prog wr.drew = .ok (.string SA) wr.drew := by rw [HSA.out]; exact str_of (W := wr.drew) (R0.out.below HS.out.tp.below.drew)
      have HT6 := Lib.hid (show TapeIn w b ⟨100000, L, n, 0, false, ops⟩ wr.drew F from ⟨HS.out.tp.at_, HS.out.tp.below.drew, HS.out.tp.laid, HS.out.tp.ok⟩)
      rcases ht with ht | ⟨ht0, ht⟩
      · go_wp2_with fail
        refine wp_region_noPanic ?_
        refine wp_region_held_drew (S := (fun w' => (convert 22 9 (.slice A0 l0.length cap0)).run Tryd.prog w' = .ok (.string SA) w')) (by kernel_rfl) ?yas0 (fun hHeld0 => ?yar0)
        case yas0 => (try dsimp only); exact ca6
        refine wpAnyH_take (i := 0) (v := ?yav1) (by simp only [List.getElem?_toArray, List.getElem?_cons_zero, List.getElem?_cons_succ]; rfl) (by kernel_rfl) (by kernel_rfl) (by kernel_rfl) (fun _ _ _ h => h) (Or.inl ⟨by rfl, ?yah1⟩) hHeld0 ?yaq1
        case yah1 => (intro w hSw; (try dsimp only at hSw); go_simp <;> with_reducible rfl)
        try simp only [Act.put, List.setIfInBounds_toArray, List.set_cons_zero, List.set_cons_succ]
        refine wpAnyH_take (i := 2) (v := ?yav2) (by simp only [List.getElem?_toArray, List.getElem?_cons_zero, List.getElem?_cons_succ]; rfl) (by kernel_rfl) (by kernel_rfl) (by kernel_rfl) (fun _ _ _ h => h) (Or.inl ⟨by rfl, ?yah2⟩) hHeld0 ?yaq2
        case yah2 => (intro w hSw; (try dsimp only at hSw); go_simp <;> with_reducible rfl)
        try simp only [Act.put, List.setIfInBounds_toArray, List.set_cons_zero, List.set_cons_succ]
        refine wpAnyH_take (i := 3) (v := ?yav3) (by simp only [List.getElem?_toArray, List.getElem?_cons_zero, List.getElem?_cons_succ]; rfl) (by kernel_rfl) (by kernel_rfl) (by kernel_rfl) (fun _ _ _ h => h) (Or.inl ⟨by rfl, ?yah3⟩) hHeld0 ?yaq3
        case yah3 => (intro w hSw; (try dsimp only at hSw); go_simp <;> with_reducible rfl)
        try simp only [Act.put, List.setIfInBounds_toArray, List.set_cons_zero, List.set_cons_succ]
        refine wpAnyH_take (i := 6) (v := ?yav4) (by simp only [List.getElem?_toArray, List.getElem?_cons_zero, List.getElem?_cons_succ]; rfl) (by kernel_rfl) (by kernel_rfl) (by kernel_rfl) (fun _ _ _ h => h) (Or.inl ⟨by rfl, ?yah4⟩) hHeld0 ?yaq4
        case yah4 => (intro w hSw; (try dsimp only at hSw); go_simp <;> with_reducible rfl)
        try simp only [Act.put, List.setIfInBounds_toArray, List.set_cons_zero, List.set_cons_succ]
        refine wpAnyH_take (i := 7) (v := ?yav5) (by simp only [List.getElem?_toArray, List.getElem?_cons_zero, List.getElem?_cons_succ]; rfl) (by kernel_rfl) (by kernel_rfl) (by kernel_rfl) (fun _ _ _ h => h) (Or.inl ⟨by rfl, ?yah5⟩) hHeld0 ?yaq5
        case yah5 => (intro w hSw; (try dsimp only at hSw); go_simp <;> with_reducible rfl)
        try simp only [Act.put, List.setIfInBounds_toArray, List.set_cons_zero, List.set_cons_succ]
        refine wpAnyH_ready (rs := [1]) (by kernel_rfl) (by simp) ?_
        refine AllReadyH.cons (by simp only [List.getElem?_toArray, List.getElem?_cons_zero, List.getElem?_cons_succ]; rfl) (fun K hK => ?_) AllReadyH.nil
        go_simp
        go_at_call 13; refine (bytes_in w wr.drew b F _ HT6.out).mono ?_
        rintro r w8 ⟨A8, c8, rfl, hT8, hB8, hv8⟩
        have hcs := cut_to A8 L.length c8 l0.length (Nat.le_trans hll (show L.length ≤ c8 from (cap_ge hv8).2))
        have ct8 : (convert 22 9 (.slice A8 l0.length c8)).run Tryd.prog w8 = .ok (.string SA) w8 := by
          have h := take_reads (buf_reads hv8) l0.length hll
          rw [HS.out.pre] at h
          rw [HSA.out]; exact str_of h
        have ca8 : (convert 22 9 (.slice A0 l0.length cap0)).run Tryd.prog w8 = .ok (.string SA) w8 := by rw [HSA.out]; exact str_of (R0.out.below hT8.below)
        have HT8 := Lib.hid hT8
        clear hT8 hB8 hv8
        refine hK.out _ _ ?yas6 (fun hHeld1 => ?yaq6)
        case yas6 => (try dsimp only); exact ca8
        clear hK K
        try simp only [Act.put, List.setIfInBounds_toArray, List.set_cons_zero, List.set_cons_succ]
        refine wpAnyH_mono (S' := (fun w' => (convert 22 9 (.slice A8 l0.length c8)).run Tryd.prog w' = .ok (.string SA) w' ∧ (convert 22 9 (.slice A0 l0.length cap0)).run Tryd.prog w' = .ok (.string SA) w')) (fun _ h => h.2) ?_
        have hHeld2 := And.intro ct8 ca8
        refine wpAnyH_take (i := 4) (v := ?yav7) (by simp only [List.getElem?_toArray, List.getElem?_cons_zero, List.getElem?_cons_succ]; rfl) (by kernel_rfl) (by kernel_rfl) (by kernel_rfl) (fun _ _ _ h => h) (Or.inl ⟨by rfl, ?yah7⟩) hHeld2 ?yaq7
        case yah7 => (intro w hSw; (try dsimp only at hSw); go_simp <;> with_reducible rfl)
        try simp only [Act.put, List.setIfInBounds_toArray, List.set_cons_zero, List.set_cons_succ]
        refine wpAnyH_take (i := 5) (v := ?yav8) (by simp only [List.getElem?_toArray, List.getElem?_cons_zero, List.getElem?_cons_succ]; rfl) (by kernel_rfl) (by kernel_rfl) (by kernel_rfl) (fun _ _ _ h => h) (Or.inl ⟨by rfl, ?yah8⟩) hHeld2 ?yaq8
        case yah8 => (intro w hSw; (try dsimp only at hSw); go_simp <;> with_reducible rfl)
        try simp only [Act.put, List.setIfInBounds_toArray, List.set_cons_zero, List.set_cons_succ]
        refine wpAnyH_take (i := 8) (v := ?yav9) (by simp only [List.getElem?_toArray, List.getElem?_cons_zero, List.getElem?_cons_succ]; rfl) (by kernel_rfl) (by kernel_rfl) (by kernel_rfl) (fun _ _ _ h => h) (Or.inl ⟨by rfl, ?yah9⟩) hHeld2 ?yaq9
        case yah9 => (intro w hSw; (try dsimp only at hSw); go_simp <;> with_reducible rfl)
        try simp only [Act.put, List.setIfInBounds_toArray, List.set_cons_zero, List.set_cons_succ]
        refine wpAnyH_take (i := 9) (v := ?yav10) (by simp only [List.getElem?_toArray, List.getElem?_cons_zero, List.getElem?_cons_succ]; rfl) (by kernel_rfl) (by kernel_rfl) (by kernel_rfl) (fun _ _ _ h => h) (Or.inl ⟨by rfl, ?yah10⟩) hHeld2 ?yaq10
        case yah10 => (intro w hSw; (try dsimp only at hSw); go_simp <;> with_reducible rfl)
        try simp only [Act.put, List.setIfInBounds_toArray, List.set_cons_zero, List.set_cons_succ]
        refine wpAnyH_done (by kernel_rfl) ?_ _
        refine NoPanic.normal ?_
        go_wp2
        go_ret
        exact ⟨rfl, HT8.out.below⟩
      · go_wp2_with fail
        refine wp_region_noPanic ?_
        refine wp_region_held_drew (S := (fun w' => (convert 22 9 (.slice A0 l0.length cap0)).run Tryd.prog w' = .ok (.string SA) w')) (by kernel_rfl) ?ybs0 (fun hHeld0 => ?ybr0)
        case ybs0 => (try dsimp only); exact ca6
        refine wpAnyH_take (i := 0) (v := ?ybv1) (by simp only [List.getElem?_toArray, List.getElem?_cons_zero, List.getElem?_cons_succ]; rfl) (by kernel_rfl) (by kernel_rfl) (by kernel_rfl) (fun _ _ _ h => h) (Or.inl ⟨by rfl, ?ybh1⟩) hHeld0 ?ybq1
        case ybh1 => (intro w hSw; (try dsimp only at hSw); go_simp <;> with_reducible rfl)
        try simp only [Act.put, List.setIfInBounds_toArray, List.set_cons_zero, List.set_cons_succ]
        refine wpAnyH_take (i := 2) (v := ?ybv2) (by simp only [List.getElem?_toArray, List.getElem?_cons_zero, List.getElem?_cons_succ]; rfl) (by kernel_rfl) (by kernel_rfl) (by kernel_rfl) (fun _ _ _ h => h) (Or.inl ⟨by rfl, ?ybh2⟩) hHeld0 ?ybq2
        case ybh2 => (intro w hSw; (try dsimp only at hSw); go_simp <;> with_reducible rfl)
        try simp only [Act.put, List.setIfInBounds_toArray, List.set_cons_zero, List.set_cons_succ]
        refine wpAnyH_take (i := 3) (v := ?ybv3) (by simp only [List.getElem?_toArray, List.getElem?_cons_zero, List.getElem?_cons_succ]; rfl) (by kernel_rfl) (by kernel_rfl) (by kernel_rfl) (fun _ _ _ h => h) (Or.inl ⟨by rfl, ?ybh3⟩) hHeld0 ?ybq3
        case ybh3 => (intro w hSw; (try dsimp only at hSw); go_simp <;> with_reducible rfl)
        try simp only [Act.put, List.setIfInBounds_toArray, List.set_cons_zero, List.set_cons_succ]
        refine wpAnyH_take (i := 6) (v := ?ybv4) (by simp only [List.getElem?_toArray, List.getElem?_cons_zero, List.getElem?_cons_succ]; rfl) (by kernel_rfl) (by kernel_rfl) (by kernel_rfl) (fun _ _ _ h => h) (Or.inl ⟨by rfl, ?ybh4⟩) hHeld0 ?ybq4
        case ybh4 => (intro w hSw; (try dsimp only at hSw); go_simp <;> with_reducible rfl)
        try simp only [Act.put, List.setIfInBounds_toArray, List.set_cons_zero, List.set_cons_succ]
        refine wpAnyH_take (i := 7) (v := ?ybv5) (by simp only [List.getElem?_toArray, List.getElem?_cons_zero, List.getElem?_cons_succ]; rfl) (by kernel_rfl) (by kernel_rfl) (by kernel_rfl) (fun _ _ _ h => h) (Or.inl ⟨by rfl, ?ybh5⟩) hHeld0 ?ybq5
        case ybh5 => (intro w hSw; (try dsimp only at hSw); go_simp <;> with_reducible rfl)
        try simp only [Act.put, List.setIfInBounds_toArray, List.set_cons_zero, List.set_cons_succ]
        refine wpAnyH_ready (rs := [1]) (by kernel_rfl) (by simp) ?_
        refine AllReadyH.cons (by simp only [List.getElem?_toArray, List.getElem?_cons_zero, List.getElem?_cons_succ]; rfl) (fun K hK => ?_) AllReadyH.nil
        go_simp
        go_at_call 13; refine (bytes_in w wr.drew b F _ HT6.out).mono ?_
        rintro r w8 ⟨A8, c8, rfl, hT8, hB8, hv8⟩
        have hcs := cut_to A8 L.length c8 l0.length (Nat.le_trans hll (show L.length ≤ c8 from (cap_ge hv8).2))
        have ct8 : (convert 22 9 (.slice A8 l0.length c8)).run Tryd.prog w8 = .ok (.string SA) w8 := by
          have h := take_reads (buf_reads hv8) l0.length hll
          rw [HS.out.pre] at h
          rw [HSA.out]; exact str_of h
        have ca8 : (convert 22 9 (.slice A0 l0.length cap0)).run Tryd.prog w8 = .ok (.string SA) w8 := by rw [HSA.out]; exact str_of (R0.out.below hT8.below)
        have HT8 := Lib.hid hT8
        clear hT8 hB8 hv8
        refine hK.out _ _ ?ybs6 (fun hHeld1 => ?ybq6)
        case ybs6 => (try dsimp only); exact ca8
        clear hK K
        try simp only [Act.put, List.setIfInBounds_toArray, List.set_cons_zero, List.set_cons_succ]
        refine wpAnyH_mono (S' := (fun w' => (convert 22 9 (.slice A8 l0.length c8)).run Tryd.prog w' = .ok (.string SA) w' ∧ (convert 22 9 (.slice A0 l0.length cap0)).run Tryd.prog w' = .ok (.string SA) w')) (fun _ h => h.2) ?_
        have hHeld2 := And.intro ct8 ca8
        refine wpAnyH_take (i := 4) (v := ?ybv7) (by simp only [List.getElem?_toArray, List.getElem?_cons_zero, List.getElem?_cons_succ]; rfl) (by kernel_rfl) (by kernel_rfl) (by kernel_rfl) (fun _ _ _ h => h) (Or.inl ⟨by rfl, ?ybh7⟩) hHeld2 ?ybq7
        case ybh7 => (intro w hSw; (try dsimp only at hSw); go_simp <;> with_reducible rfl)
        try simp only [Act.put, List.setIfInBounds_toArray, List.set_cons_zero, List.set_cons_succ]
        refine wpAnyH_take (i := 5) (v := ?ybv8) (by simp only [List.getElem?_toArray, List.getElem?_cons_zero, List.getElem?_cons_succ]; rfl) (by kernel_rfl) (by kernel_rfl) (by kernel_rfl) (fun _ _ _ h => h) (Or.inl ⟨by rfl, ?ybh8⟩) hHeld2 ?ybq8
        case ybh8 => (intro w hSw; (try dsimp only at hSw); go_simp <;> with_reducible rfl)
        try simp only [Act.put, List.setIfInBounds_toArray, List.set_cons_zero, List.set_cons_succ]
        refine wpAnyH_take (i := 8) (v := ?ybv9) (by simp only [List.getElem?_toArray, List.getElem?_cons_zero, List.getElem?_cons_succ]; rfl) (by kernel_rfl) (by kernel_rfl) (by kernel_rfl) (fun _ _ _ h => h) (Or.inl ⟨by rfl, ?ybh9⟩) hHeld2 ?ybq9
        case ybh9 => (intro w hSw; (try dsimp only at hSw); go_simp <;> with_reducible rfl)
        try simp only [Act.put, List.setIfInBounds_toArray, List.set_cons_zero, List.set_cons_succ]
        refine wpAnyH_take (i := 9) (v := ?ybv10) (by simp only [List.getElem?_toArray, List.getElem?_cons_zero, List.getElem?_cons_succ]; rfl) (by kernel_rfl) (by kernel_rfl) (by kernel_rfl) (fun _ _ _ h => h) (Or.inl ⟨by rfl, ?ybh10⟩) hHeld2 ?ybq10
        case ybh10 => (intro w hSw; (try dsimp only at hSw); go_simp <;> with_reducible rfl)
        try simp only [Act.put, List.setIfInBounds_toArray, List.set_cons_zero, List.set_cons_succ]
        refine wpAnyH_done (by kernel_rfl) ?_ _
        refine NoPanic.normal ?_
        go_wp2
        go_ret
        exact ⟨rfl, HT8.out.below⟩
theorem stays_row (a0 : Option Addr) (cap0 : Nat) (l0 : List Int) (a1 : Option Addr) (cap1 : Nat) (l1 : List (List Int)) (a2 : Option Addr) (cap2 : Nat) (l2 : List Int) (w : World) (hg : Laid w)
    (hr0 : ReadsInt w .u8 a0 l0.length l0) (_ : l0.length ≤ cap0) (y0 : l0.length * 1 ≤ 140737488351232) (_ : ∀ x ∈ l0, (Lit.int .u8 x).wf = true) (hr1 : rowsK.C w a1 l1.length l1) (_ : l1.length ≤ cap1)
    (hr2 : ReadsInt w .i64 a2 l2.length l2) (_ : l2.length ≤ cap2) (_ : l2.length * 8 ≤ 140737488351232) (_ : ∀ x ∈ l2, (Lit.int .i64 x).wf = true) :
    Calls Tryd.prog 3 #[.slice a0 l0.length cap0, .slice a1 l1.length cap1, .slice a2 l2.length cap2] w fun e w' => e = .returned (.bool true) ∧ Below w.heap.size w w' := stays_any a0 cap0 l0 a1 cap1 l1 a2 cap2 l2 w hg hr0 hr1 hr2
end Go.Proofs.YtjjlojaaefipmaaDoor
