/- The walk of SealRefuses. -/
import Derived.Test.YtjgdglbfnjjmmaaLawS
set_option linter.unusedVariables false
set_option linter.unusedSimpArgs false
namespace Go.Proofs.Ytjgdglbfnjjmmaa
open Go.RowKit Go.Proofs.YtjgdglbfnjjmmaaW.PrintWords Go.Proofs.Mine

/-- Plain, spelled as a walk meets it. -/
theorem plain_lit (w : World) (bits : Int) : Calls Try.prog 8 #[.int .i64 bits] w fun e w' => ∃ ad c, e = .returned (.agg #[.slice none 0 0, .slice (some ad) (plainL bits).length c]) ∧ (Kd.int .i64).C w' (some ad) (plainL bits).length (plainL bits) ∧ Below w.heap.size w w' := by
  refine (plain_any w bits).mono ?_
  rintro e w' ⟨v, rfl, hR, hB⟩
  obtain ⟨A, c, rfl, _, hC⟩ := Kd.R_reads hR
  obtain ⟨ad, _, hAd, _⟩ := Kd.C_get hC 0 0 (by omega) (by have := (plainL_fine bits).2.1; omega)
  subst hAd
  exact ⟨ad, c, rfl, hC, hB⟩
theorem lit_one' (W : World) (x : Int) (o : Obj) : (Kd.int .i64).C ((W.alloc o).alloc (.cells #[.int .i64 x] 3)) (some ⟨W.heap.size + 1, 0, none⟩) 1 [x] := by
  have h := lit_one (W.alloc o) x
  rwa [show (W.alloc o).heap.size = W.heap.size + 1 from by simp] at h
theorem joint_fine (b : Int) : (if checkE [0] (plainL b) = 0 then (if 0 < ([0] : List Int).length then 1 else 0) else checkE [0] (plainL b)) = 1 := by
  have h : checkE [0] (plainL b) = 0 := by
    unfold checkE
    rw [(plainL_fine b).1]
    decide
  rw [if_pos h]
  rfl
theorem neg_bad {x : Int} (h : x < 0) : (if checkE [] [x] = 0 then (if 0 < ([] : List Int).length then 1 else 0) else checkE [] [x]) = 1 := by
  have h1 : listE [x] = 2 := by
    unfold listE asc
    have : decide (-1 < x) = false := decide_eq_false (by omega)
    rw [this]
    rfl
  have h2 : checkE [] [x] = 1 := by
    unfold checkE
    rw [h1]
    decide
  rw [h2]
  rfl
theorem seal_mem_r (w : World) (base : Nat) (F : Nat → Prop) (b : Nat) (xs : List Ge) (x : Ge) (h : GensAt w base F b xs) (hx : xs.getLast? = some x) (i k : Int) (A B : Option Addr) (o l : List Int) (n m c d : Nat) (ho : ReadsInt w .i64 A n o) (hl : ReadsInt w .i64 B m l) (hi : ¬ i ≤ x.g.b) (hk : kindB k = true) (r : Int) (hr : (if checkE o l = 0 then (if 0 < o.length then 1 else 0) else checkE o l) = r) (hr0 : r ≠ 0) :
    Calls Try.prog 9 #[.pointer (some ⟨b, 0, none⟩), .int .i64 i, .int .i64 k, .agg #[.slice A n c, .slice B m d]] w fun e w' => e = .returned (.int .i64 r) ∧ Below w.heap.size w w' := by
  obtain rfl : o.length = n := ho.1
  obtain rfl : l.length = m := hl.1
  have := seal_mem w base F b xs x h hx i k A B o l c d ho hl hi hk (by rw [hr]; exact hr0)
  rwa [hr] at this
theorem kindB_no {n : Int} (h : 2 < n ∨ n < 1) : kindB n = false := by
  unfold kindB
  have h1 : (n == 1) = false := by simp; omega
  have h2 : (n == 2) = false := by simp; omega
  rw [h1, h2]
  rfl
set_option maxHeartbeats 4000000 in
theorem refuses_0 (base bits how by' : Int) (w : World) (hh : how % 6 = 0) : Calls Try.prog 3 #[.int .i64 base, .int .i64 bits, .int .i64 how, .int .i64 by'] w fun e w' => e = .returned (.bool true) ∧ Below w.heap.size w w' := by
  have hb0 : 0 ≤ base % 40 := by omega
  have hb1 : base % 40 < 40 := by omega
  have hy0 : 0 ≤ by' % 30 := by omega
  have hy1 : by' % 30 < 30 := by omega
  have hf0 := Try.field33_0
  go_enter Try.func3, Try.ntmps3
  go_wp2_with (first
    | (go_at_call 5
       refine (known_any _).mono ?_
       rintro e w1 ⟨rfl, hB⟩
       have HB1 := Lib.hid hB
       clear hB)
    | (go_at_call 6
       refine (within_any _ _ _ (by decide) (by decide)).mono ?_
       rintro e w0 ⟨rfl, rfl⟩)
    | (go_at_call 11
       have h9 := HG9.out
       refine (now_lit w9 _ _ bk _ ⟨⟨2, 1, base % 40 + 1, plainL bits⟩, A9, c9⟩ HG9.out rfl).mono ?_
       rintro e w10 ⟨A10, c10, rfl, hR, hB⟩
       have HB10 := Lib.hid hB
       clear hR hB h9 HG9)
    | (go_at_call 9
       have h8 := HG8.out
       refine (seal_ok w8 _ _ bk _ ⟨⟨1, 2, base % 40, plainL bits⟩, A3, c3⟩ HG8.out rfl (base % 40 + 1) 1 ad8 (plainL bits) c8 HC8.out (show ¬ base % 40 + 1 ≤ base % 40 by omega) rfl (plainL_fine bits).1 (show 1 < 60 by decide) (show (0 : Int) ≤ 1 by decide) (show (1 : Int) < 1000000 by decide) (plainL_fine bits).2.1 (plainL_fine bits).2.2).mono ?_
       rintro e w9 ⟨rfl, F9, A9, c9, hG, hF, hK⟩
       have HG9 := Lib.hid hG
       have HK9 := Lib.hid hK
       clear hG hF hK h8 HG8)
    | (go_at_call 8
       have h7 := HG7.out
       refine (plain_lit w7 bits).mono ?_
       rintro e w8 ⟨ad8, c8, rfl, hC, hB⟩
       have HC8 := Lib.hid hC
       have HB8 := Lib.hid (HB7.out.trans (hB.mono HB7.out.size))
       have HG8 := Lib.hid (HG7.out.below hB)
       clear hC hB h7 HG7)
    | (go_at_call 11
       have h6 := HG6.out
       refine (now_lit w6 _ _ bk _ ⟨⟨1, 2, base % 40, plainL bits⟩, A3, c3⟩ HG6.out rfl).mono ?_
       rintro e w7 ⟨A7, c7, rfl, hR, hB⟩
       have HB7 := Lib.hid (HB6.out.trans (hB.mono HB6.out.size))
       have HG7 := Lib.hid (HG6.out.below hB)
       clear hR hB h6 HG6)
    | (go_at_call 10
       refine (all_any w5 _ _ bk _ HG5.out (show 0 < 1 by decide) (show 1 ≤ 60 by decide)).mono ?_
       rintro e w6 ⟨v6, zs, rfl, hA⟩
       obtain ⟨A6, c6, rfl⟩ := Kd.R_slice hA.row
       have hzl : zs.length = 1 := by simpa using congrArg List.length hA.same
       have HB6 := Lib.hid (HB5.out.trans (hA.below.mono HB5.out.size))
       have HG6 := Lib.hid (HG5.out.below hA.below)
       rw [hzl]
       clear hA hzl)
    | (go_at_call 9
       have h4 := HG4.out
       refine (seal_arg _ _ _ bk _ ⟨⟨1, 2, base % 40, plainL bits⟩, A3, c3⟩ (HG4.out.alloc (.cells #[.slice none 0 0, .slice (some ad4) (plainL (wrap64 (bits + 1))).length c4] 30)) rfl (base % 40 + 1 - (1 + by' % 30)) 1 none (some ad4) 0 _ 0 c4 (.inl (show base % 40 + 1 - (1 + by' % 30) ≤ base % 40 by omega))).mono ?_
       rintro e w5 ⟨rfl, hB⟩
       have HB5 := Lib.hid ((HB4.out.alloc HB4.out.size (.cells #[.slice none 0 0, .slice (some ad4) (plainL (wrap64 (bits + 1))).length c4] 30)).trans (hB.mono (HB4.out.alloc HB4.out.size (.cells #[.slice none 0 0, .slice (some ad4) (plainL (wrap64 (bits + 1))).length c4] 30)).size))
       have HG5 := Lib.hid ((HG4.out.alloc (.cells #[.slice none 0 0, .slice (some ad4) (plainL (wrap64 (bits + 1))).length c4] 30)).below hB)
       clear hB h4 HG4)
    | (go_at_call 8
       have h3 := HG3.out
       refine (plain_lit _ _).mono ?_
       rintro e w4 ⟨ad4, c4, rfl, hC, hB⟩
       have HC4 := Lib.hid hC
       have HB4 := Lib.hid (HB3.out.trans (hB.mono HB3.out.size))
       have HG4 := Lib.hid (HG3.out.below hB)
       clear hC hB h3 HG3)
    | (go_at_call 8
       refine (plain_lit _ _).mono ?_
       rintro e w2 ⟨ad, c1, rfl, hC, hB⟩
       have HC2 := Lib.hid hC
       have HB2 := Lib.hid (HB1.out.trans (hB.mono HB1.out.size))
       clear hC hB)
    | (go_at_call 7
       refine (new_any w2 1 2 (base % 40) (plainL bits) ad c1 (by decide) rfl (by omega) (plainL_fine bits).1 HC2.out (plainL_fine bits).2.1 (plainL_fine bits).2.2).mono ?_
       rintro e w3 ⟨bk, A3, c3, rfl, hG, hB⟩
       have HG3 := Lib.hid hG
       have HB3 := Lib.hid (HB2.out.trans (hB.mono HB2.out.size))
       clear hG hB))
  have hK := Lib.hid (((Keep.of_below HB8.out (fun _ => False)).trans HK9.out (fun k hk => .inr (Nat.le_trans HB2.out.size hk.1))).trans (Keep.of_below HB10.out (fun _ => False)) (fun _ h => h.elim))
  go_ret
  exact ⟨rfl, hK.out.to_below (Nat.le_refl _) (fun _ h => h.elim)⟩
set_option maxHeartbeats 4000000 in
theorem refuses_1 (base bits how by' : Int) (w : World) (hh : how % 6 = 1) : Calls Try.prog 3 #[.int .i64 base, .int .i64 bits, .int .i64 how, .int .i64 by'] w fun e w' => e = .returned (.bool true) ∧ Below w.heap.size w w' := by
  have hb0 : 0 ≤ base % 40 := by omega
  have hb1 : base % 40 < 40 := by omega
  have hy0 : 0 ≤ by' % 30 := by omega
  have hy1 : by' % 30 < 30 := by omega
  have hf0 := Try.field33_0
  go_enter Try.func3, Try.ntmps3
  go_wp2_with (first
    | (go_at_call 5
       refine (known_any _).mono ?_
       rintro e w1 ⟨rfl, hB⟩
       have HB1 := Lib.hid hB
       clear hB)
    | (go_at_call 6
       refine (within_any _ _ _ (by decide) (by decide)).mono ?_
       rintro e w0 ⟨rfl, rfl⟩)
    | (go_at_call 11
       have h9 := HG9.out
       refine (now_lit w9 _ _ bk _ ⟨⟨2, 1, base % 40 + 1, plainL bits⟩, A9, c9⟩ HG9.out rfl).mono ?_
       rintro e w10 ⟨A10, c10, rfl, hR, hB⟩
       have HB10 := Lib.hid hB
       clear hR hB h9 HG9)
    | (go_at_call 9
       have h8 := HG8.out
       refine (seal_ok w8 _ _ bk _ ⟨⟨1, 2, base % 40, plainL bits⟩, A3, c3⟩ HG8.out rfl (base % 40 + 1) 1 ad8 (plainL bits) c8 HC8.out (show ¬ base % 40 + 1 ≤ base % 40 by omega) rfl (plainL_fine bits).1 (show 1 < 60 by decide) (show (0 : Int) ≤ 1 by decide) (show (1 : Int) < 1000000 by decide) (plainL_fine bits).2.1 (plainL_fine bits).2.2).mono ?_
       rintro e w9 ⟨rfl, F9, A9, c9, hG, hF, hK⟩
       have HG9 := Lib.hid hG
       have HK9 := Lib.hid hK
       clear hG hF hK h8 HG8)
    | (go_at_call 8
       have h7 := HG7.out
       refine (plain_lit w7 bits).mono ?_
       rintro e w8 ⟨ad8, c8, rfl, hC, hB⟩
       have HC8 := Lib.hid hC
       have HB8 := Lib.hid (HB7.out.trans (hB.mono HB7.out.size))
       have HG8 := Lib.hid (HG7.out.below hB)
       clear hC hB h7 HG7)
    | (go_at_call 11
       have h6 := HG6.out
       refine (now_lit w6 _ _ bk _ ⟨⟨1, 2, base % 40, plainL bits⟩, A3, c3⟩ HG6.out rfl).mono ?_
       rintro e w7 ⟨A7, c7, rfl, hR, hB⟩
       have HB7 := Lib.hid (HB6.out.trans (hB.mono HB6.out.size))
       have HG7 := Lib.hid (HG6.out.below hB)
       clear hR hB h6 HG6)
    | (go_at_call 10
       refine (all_any w5 _ _ bk _ HG5.out (show 0 < 1 by decide) (show 1 ≤ 60 by decide)).mono ?_
       rintro e w6 ⟨v6, zs, rfl, hA⟩
       obtain ⟨A6, c6, rfl⟩ := Kd.R_slice hA.row
       have hzl : zs.length = 1 := by simpa using congrArg List.length hA.same
       have HB6 := Lib.hid (HB5.out.trans (hA.below.mono HB5.out.size))
       have HG6 := Lib.hid (HG5.out.below hA.below)
       rw [hzl]
       clear hA hzl)
    | (go_at_call 9
       have h4 := HG4.out
       refine (seal_arg _ _ _ bk _ ⟨⟨1, 2, base % 40, plainL bits⟩, A3, c3⟩ (HG4.out.alloc (.cells #[.slice none 0 0, .slice (some ad4) (plainL (wrap64 (bits + 1))).length c4] 30)) rfl (base % 40 + (1 + by' % 30)) (2 + (1 + by' % 30)) none (some ad4) 0 _ 0 c4 (.inr (kindB_no (by omega)))).mono ?_
       rintro e w5 ⟨rfl, hB⟩
       have HB5 := Lib.hid ((HB4.out.alloc HB4.out.size (.cells #[.slice none 0 0, .slice (some ad4) (plainL (wrap64 (bits + 1))).length c4] 30)).trans (hB.mono (HB4.out.alloc HB4.out.size (.cells #[.slice none 0 0, .slice (some ad4) (plainL (wrap64 (bits + 1))).length c4] 30)).size))
       have HG5 := Lib.hid ((HG4.out.alloc (.cells #[.slice none 0 0, .slice (some ad4) (plainL (wrap64 (bits + 1))).length c4] 30)).below hB)
       clear hB h4 HG4)
    | (go_at_call 8
       have h3 := HG3.out
       refine (plain_lit _ _).mono ?_
       rintro e w4 ⟨ad4, c4, rfl, hC, hB⟩
       have HC4 := Lib.hid hC
       have HB4 := Lib.hid (HB3.out.trans (hB.mono HB3.out.size))
       have HG4 := Lib.hid (HG3.out.below hB)
       clear hC hB h3 HG3)
    | (go_at_call 8
       refine (plain_lit _ _).mono ?_
       rintro e w2 ⟨ad, c1, rfl, hC, hB⟩
       have HC2 := Lib.hid hC
       have HB2 := Lib.hid (HB1.out.trans (hB.mono HB1.out.size))
       clear hC hB)
    | (go_at_call 7
       refine (new_any w2 1 2 (base % 40) (plainL bits) ad c1 (by decide) rfl (by omega) (plainL_fine bits).1 HC2.out (plainL_fine bits).2.1 (plainL_fine bits).2.2).mono ?_
       rintro e w3 ⟨bk, A3, c3, rfl, hG, hB⟩
       have HG3 := Lib.hid hG
       have HB3 := Lib.hid (HB2.out.trans (hB.mono HB2.out.size))
       clear hG hB))
  have hK := Lib.hid (((Keep.of_below HB8.out (fun _ => False)).trans HK9.out (fun k hk => .inr (Nat.le_trans HB2.out.size hk.1))).trans (Keep.of_below HB10.out (fun _ => False)) (fun _ h => h.elim))
  go_ret
  exact ⟨rfl, hK.out.to_below (Nat.le_refl _) (fun _ h => h.elim)⟩
set_option maxHeartbeats 4000000 in
theorem refuses_2 (base bits how by' : Int) (w : World) (hh : how % 6 = 2) : Calls Try.prog 3 #[.int .i64 base, .int .i64 bits, .int .i64 how, .int .i64 by'] w fun e w' => e = .returned (.bool true) ∧ Below w.heap.size w w' := by
  have hb0 : 0 ≤ base % 40 := by omega
  have hb1 : base % 40 < 40 := by omega
  have hy0 : 0 ≤ by' % 30 := by omega
  have hy1 : by' % 30 < 30 := by omega
  have hf0 := Try.field33_0
  go_enter Try.func3, Try.ntmps3
  go_wp2_with (first
    | (go_at_call 5
       refine (known_any _).mono ?_
       rintro e w1 ⟨rfl, hB⟩
       have HB1 := Lib.hid hB
       clear hB)
    | (go_at_call 6
       refine (within_any _ _ _ (by decide) (by decide)).mono ?_
       rintro e w0 ⟨rfl, rfl⟩)
    | (go_at_call 11
       have h9 := HG9.out
       refine (now_lit w9 _ _ bk _ ⟨⟨2, 1, base % 40 + 1, plainL bits⟩, A9, c9⟩ HG9.out rfl).mono ?_
       rintro e w10 ⟨A10, c10, rfl, hR, hB⟩
       have HB10 := Lib.hid hB
       clear hR hB h9 HG9)
    | (go_at_call 9
       have h8 := HG8.out
       refine (seal_ok w8 _ _ bk _ ⟨⟨1, 2, base % 40, plainL bits⟩, A3, c3⟩ HG8.out rfl (base % 40 + 1) 1 ad8 (plainL bits) c8 HC8.out (show ¬ base % 40 + 1 ≤ base % 40 by omega) rfl (plainL_fine bits).1 (show 1 < 60 by decide) (show (0 : Int) ≤ 1 by decide) (show (1 : Int) < 1000000 by decide) (plainL_fine bits).2.1 (plainL_fine bits).2.2).mono ?_
       rintro e w9 ⟨rfl, F9, A9, c9, hG, hF, hK⟩
       have HG9 := Lib.hid hG
       have HK9 := Lib.hid hK
       clear hG hF hK h8 HG8)
    | (go_at_call 8
       have h7 := HG7.out
       refine (plain_lit w7 bits).mono ?_
       rintro e w8 ⟨ad8, c8, rfl, hC, hB⟩
       have HC8 := Lib.hid hC
       have HB8 := Lib.hid (HB7.out.trans (hB.mono HB7.out.size))
       have HG8 := Lib.hid (HG7.out.below hB)
       clear hC hB h7 HG7)
    | (go_at_call 11
       have h6 := HG6.out
       refine (now_lit w6 _ _ bk _ ⟨⟨1, 2, base % 40, plainL bits⟩, A3, c3⟩ HG6.out rfl).mono ?_
       rintro e w7 ⟨A7, c7, rfl, hR, hB⟩
       have HB7 := Lib.hid (HB6.out.trans (hB.mono HB6.out.size))
       have HG7 := Lib.hid (HG6.out.below hB)
       clear hR hB h6 HG6)
    | (go_at_call 10
       refine (all_any w5 _ _ bk _ HG5.out (show 0 < 1 by decide) (show 1 ≤ 60 by decide)).mono ?_
       rintro e w6 ⟨v6, zs, rfl, hA⟩
       obtain ⟨A6, c6, rfl⟩ := Kd.R_slice hA.row
       have hzl : zs.length = 1 := by simpa using congrArg List.length hA.same
       have HB6 := Lib.hid (HB5.out.trans (hA.below.mono HB5.out.size))
       have HG6 := Lib.hid (HG5.out.below hA.below)
       rw [hzl]
       clear hA hzl)
    | (go_at_call 9
       have h4 := HG4.out
       refine (seal_arg _ _ _ bk _ ⟨⟨1, 2, base % 40, plainL bits⟩, A3, c3⟩ (HG4.out.alloc (.cells #[.slice none 0 0, .slice (some ad4) (plainL (wrap64 (bits + 1))).length c4] 30)) rfl (base % 40 + (1 + by' % 30)) (1 - (1 + by' % 30)) none (some ad4) 0 _ 0 c4 (.inr (kindB_no (by omega)))).mono ?_
       rintro e w5 ⟨rfl, hB⟩
       have HB5 := Lib.hid ((HB4.out.alloc HB4.out.size (.cells #[.slice none 0 0, .slice (some ad4) (plainL (wrap64 (bits + 1))).length c4] 30)).trans (hB.mono (HB4.out.alloc HB4.out.size (.cells #[.slice none 0 0, .slice (some ad4) (plainL (wrap64 (bits + 1))).length c4] 30)).size))
       have HG5 := Lib.hid ((HG4.out.alloc (.cells #[.slice none 0 0, .slice (some ad4) (plainL (wrap64 (bits + 1))).length c4] 30)).below hB)
       clear hB h4 HG4)
    | (go_at_call 8
       have h3 := HG3.out
       refine (plain_lit _ _).mono ?_
       rintro e w4 ⟨ad4, c4, rfl, hC, hB⟩
       have HC4 := Lib.hid hC
       have HB4 := Lib.hid (HB3.out.trans (hB.mono HB3.out.size))
       have HG4 := Lib.hid (HG3.out.below hB)
       clear hC hB h3 HG3)
    | (go_at_call 8
       refine (plain_lit _ _).mono ?_
       rintro e w2 ⟨ad, c1, rfl, hC, hB⟩
       have HC2 := Lib.hid hC
       have HB2 := Lib.hid (HB1.out.trans (hB.mono HB1.out.size))
       clear hC hB)
    | (go_at_call 7
       refine (new_any w2 1 2 (base % 40) (plainL bits) ad c1 (by decide) rfl (by omega) (plainL_fine bits).1 HC2.out (plainL_fine bits).2.1 (plainL_fine bits).2.2).mono ?_
       rintro e w3 ⟨bk, A3, c3, rfl, hG, hB⟩
       have HG3 := Lib.hid hG
       have HB3 := Lib.hid (HB2.out.trans (hB.mono HB2.out.size))
       clear hG hB))
  have hK := Lib.hid (((Keep.of_below HB8.out (fun _ => False)).trans HK9.out (fun k hk => .inr (Nat.le_trans HB2.out.size hk.1))).trans (Keep.of_below HB10.out (fun _ => False)) (fun _ h => h.elim))
  go_ret
  exact ⟨rfl, hK.out.to_below (Nat.le_refl _) (fun _ h => h.elim)⟩
set_option maxHeartbeats 4000000 in
theorem refuses_3 (base bits how by' : Int) (w : World) (hh : how % 6 = 3) : Calls Try.prog 3 #[.int .i64 base, .int .i64 bits, .int .i64 how, .int .i64 by'] w fun e w' => e = .returned (.bool true) ∧ Below w.heap.size w w' := by
  have hb0 : 0 ≤ base % 40 := by omega
  have hb1 : base % 40 < 40 := by omega
  have hy0 : 0 ≤ by' % 30 := by omega
  have hy1 : by' % 30 < 30 := by omega
  have hf0 := Try.field33_0
  go_enter Try.func3, Try.ntmps3
  go_wp2_with (first
    | (go_at_call 5
       refine (known_any _).mono ?_
       rintro e w1 ⟨rfl, hB⟩
       have HB1 := Lib.hid hB
       clear hB)
    | (go_at_call 6
       refine (within_any _ _ _ (by decide) (by decide)).mono ?_
       rintro e w0 ⟨rfl, rfl⟩)
    | (go_at_call 11
       have h9 := HG9.out
       refine (now_lit w9 _ _ bk _ ⟨⟨2, 1, base % 40 + 1, plainL bits⟩, A9, c9⟩ HG9.out rfl).mono ?_
       rintro e w10 ⟨A10, c10, rfl, hR, hB⟩
       have HB10 := Lib.hid hB
       clear hR hB h9 HG9)
    | (go_at_call 9
       have h8 := HG8.out
       refine (seal_ok w8 _ _ bk _ ⟨⟨1, 2, base % 40, plainL bits⟩, A3, c3⟩ HG8.out rfl (base % 40 + 1) 1 ad8 (plainL bits) c8 HC8.out (show ¬ base % 40 + 1 ≤ base % 40 by omega) rfl (plainL_fine bits).1 (show 1 < 60 by decide) (show (0 : Int) ≤ 1 by decide) (show (1 : Int) < 1000000 by decide) (plainL_fine bits).2.1 (plainL_fine bits).2.2).mono ?_
       rintro e w9 ⟨rfl, F9, A9, c9, hG, hF, hK⟩
       have HG9 := Lib.hid hG
       have HK9 := Lib.hid hK
       clear hG hF hK h8 HG8)
    | (go_at_call 8
       have h7 := HG7.out
       refine (plain_lit w7 bits).mono ?_
       rintro e w8 ⟨ad8, c8, rfl, hC, hB⟩
       have HC8 := Lib.hid hC
       have HB8 := Lib.hid (HB7.out.trans (hB.mono HB7.out.size))
       have HG8 := Lib.hid (HG7.out.below hB)
       clear hC hB h7 HG7)
    | (go_at_call 11
       have h6 := HG6.out
       refine (now_lit w6 _ _ bk _ ⟨⟨1, 2, base % 40, plainL bits⟩, A3, c3⟩ HG6.out rfl).mono ?_
       rintro e w7 ⟨A7, c7, rfl, hR, hB⟩
       have HB7 := Lib.hid (HB6.out.trans (hB.mono HB6.out.size))
       have HG7 := Lib.hid (HG6.out.below hB)
       clear hR hB h6 HG6)
    | (go_at_call 10
       refine (all_any w5 _ _ bk _ HG5.out (show 0 < 1 by decide) (show 1 ≤ 60 by decide)).mono ?_
       rintro e w6 ⟨v6, zs, rfl, hA⟩
       obtain ⟨A6, c6, rfl⟩ := Kd.R_slice hA.row
       have hzl : zs.length = 1 := by simpa using congrArg List.length hA.same
       have HB6 := Lib.hid (HB5.out.trans (hA.below.mono HB5.out.size))
       have HG6 := Lib.hid (HG5.out.below hA.below)
       rw [hzl]
       clear hA hzl)
    | (go_at_call 9
       have h4 := HG4.out
       refine (seal_mem_r _ _ _ bk _ ⟨⟨1, 2, base % 40, plainL bits⟩, A3, c3⟩ (HG4.out.alloc (.cells #[.slice none 0 0, .slice none 0 0] 30)) rfl (base % 40 + (1 + by' % 30)) 1 none none [] [] 0 0 0 0 (ReadsInt.nil _ .i64) (ReadsInt.nil _ .i64) (show ¬ base % 40 + (1 + by' % 30) ≤ base % 40 by omega) rfl 2 (by decide) (by decide)).mono ?_
       rintro e w5 ⟨rfl, hB⟩
       have HB5 := Lib.hid ((HB4.out.alloc HB4.out.size (.cells #[.slice none 0 0, .slice none 0 0] 30)).trans (hB.mono (HB4.out.alloc HB4.out.size (.cells #[.slice none 0 0, .slice none 0 0] 30)).size))
       have HG5 := Lib.hid ((HG4.out.alloc (.cells #[.slice none 0 0, .slice none 0 0] 30)).below hB)
       clear hB h4 HG4)
    | (go_at_call 8
       have h3 := HG3.out
       refine (plain_lit _ _).mono ?_
       rintro e w4 ⟨ad4, c4, rfl, hC, hB⟩
       have HC4 := Lib.hid hC
       have HB4 := Lib.hid (HB3.out.trans (hB.mono HB3.out.size))
       have HG4 := Lib.hid (HG3.out.below hB)
       clear hC hB h3 HG3)
    | (go_at_call 8
       refine (plain_lit _ _).mono ?_
       rintro e w2 ⟨ad, c1, rfl, hC, hB⟩
       have HC2 := Lib.hid hC
       have HB2 := Lib.hid (HB1.out.trans (hB.mono HB1.out.size))
       clear hC hB)
    | (go_at_call 7
       refine (new_any w2 1 2 (base % 40) (plainL bits) ad c1 (by decide) rfl (by omega) (plainL_fine bits).1 HC2.out (plainL_fine bits).2.1 (plainL_fine bits).2.2).mono ?_
       rintro e w3 ⟨bk, A3, c3, rfl, hG, hB⟩
       have HG3 := Lib.hid hG
       have HB3 := Lib.hid (HB2.out.trans (hB.mono HB2.out.size))
       clear hG hB))
  have hK := Lib.hid (((Keep.of_below HB8.out (fun _ => False)).trans HK9.out (fun k hk => .inr (Nat.le_trans HB2.out.size hk.1))).trans (Keep.of_below HB10.out (fun _ => False)) (fun _ h => h.elim))
  go_ret
  exact ⟨rfl, hK.out.to_below (Nat.le_refl _) (fun _ h => h.elim)⟩
set_option maxHeartbeats 4000000 in
theorem refuses_4 (base bits how by' : Int) (w : World) (hh : how % 6 = 4) : Calls Try.prog 3 #[.int .i64 base, .int .i64 bits, .int .i64 how, .int .i64 by'] w fun e w' => e = .returned (.bool true) ∧ Below w.heap.size w w' := by
  have hb0 : 0 ≤ base % 40 := by omega
  have hb1 : base % 40 < 40 := by omega
  have hy0 : 0 ≤ by' % 30 := by omega
  have hy1 : by' % 30 < 30 := by omega
  have hf0 := Try.field33_0
  go_enter Try.func3, Try.ntmps3
  go_wp2_with (first
    | (go_at_call 5
       refine (known_any _).mono ?_
       rintro e w1 ⟨rfl, hB⟩
       have HB1 := Lib.hid hB
       clear hB)
    | (go_at_call 6
       refine (within_any _ _ _ (by decide) (by decide)).mono ?_
       rintro e w0 ⟨rfl, rfl⟩)
    | (go_at_call 11
       have h9 := HG9.out
       refine (now_lit w9 _ _ bk _ ⟨⟨2, 1, base % 40 + 1, plainL bits⟩, A9, c9⟩ HG9.out rfl).mono ?_
       rintro e w10 ⟨A10, c10, rfl, hR, hB⟩
       have HB10 := Lib.hid hB
       clear hR hB h9 HG9)
    | (go_at_call 9
       have h8 := HG8.out
       refine (seal_ok w8 _ _ bk _ ⟨⟨1, 2, base % 40, plainL bits⟩, A3, c3⟩ HG8.out rfl (base % 40 + 1) 1 ad8 (plainL bits) c8 HC8.out (show ¬ base % 40 + 1 ≤ base % 40 by omega) rfl (plainL_fine bits).1 (show 1 < 60 by decide) (show (0 : Int) ≤ 1 by decide) (show (1 : Int) < 1000000 by decide) (plainL_fine bits).2.1 (plainL_fine bits).2.2).mono ?_
       rintro e w9 ⟨rfl, F9, A9, c9, hG, hF, hK⟩
       have HG9 := Lib.hid hG
       have HK9 := Lib.hid hK
       clear hG hF hK h8 HG8)
    | (go_at_call 8
       have h7 := HG7.out
       refine (plain_lit w7 bits).mono ?_
       rintro e w8 ⟨ad8, c8, rfl, hC, hB⟩
       have HC8 := Lib.hid hC
       have HB8 := Lib.hid (HB7.out.trans (hB.mono HB7.out.size))
       have HG8 := Lib.hid (HG7.out.below hB)
       clear hC hB h7 HG7)
    | (go_at_call 11
       have h6 := HG6.out
       refine (now_lit w6 _ _ bk _ ⟨⟨1, 2, base % 40, plainL bits⟩, A3, c3⟩ HG6.out rfl).mono ?_
       rintro e w7 ⟨A7, c7, rfl, hR, hB⟩
       have HB7 := Lib.hid (HB6.out.trans (hB.mono HB6.out.size))
       have HG7 := Lib.hid (HG6.out.below hB)
       clear hR hB h6 HG6)
    | (go_at_call 10
       refine (all_any w5 _ _ bk _ HG5.out (show 0 < 1 by decide) (show 1 ≤ 60 by decide)).mono ?_
       rintro e w6 ⟨v6, zs, rfl, hA⟩
       obtain ⟨A6, c6, rfl⟩ := Kd.R_slice hA.row
       have hzl : zs.length = 1 := by simpa using congrArg List.length hA.same
       have HB6 := Lib.hid (HB5.out.trans (hA.below.mono HB5.out.size))
       have HG6 := Lib.hid (HG5.out.below hA.below)
       rw [hzl]
       clear hA hzl)
    | (go_at_call 9
       have h4 := HG4.out
       refine (seal_mem_r _ _ _ bk _ ⟨⟨1, 2, base % 40, plainL bits⟩, A3, c3⟩ ((HG4.out.alloc (.cells #[.slice (some ⟨w4.heap.size + 1, 0, none⟩) 1 1, .slice (some ad4) (plainL (wrap64 (bits + 1))).length c4] 30)).alloc (.cells #[.int .i64 0] 3)) rfl (base % 40 + (1 + by' % 30)) 1 (some ⟨w4.heap.size + 1, 0, none⟩) (some ad4) [0] (plainL (wrap64 (bits + 1))) 1 _ 1 c4 (ri_of_C (lit_one' w4 0 (.cells #[.slice (some ⟨w4.heap.size + 1, 0, none⟩) 1 1, .slice (some ad4) (plainL (wrap64 (bits + 1))).length c4] 30))) (ri_of_C (Kd.C_below HC4.out (((Below.refl _ w4).alloc (Nat.le_refl _) (.cells #[.slice (some ⟨w4.heap.size + 1, 0, none⟩) 1 1, .slice (some ad4) (plainL (wrap64 (bits + 1))).length c4] 30)).alloc (by simp) (.cells #[.int .i64 0] 3)))) (show ¬ base % 40 + (1 + by' % 30) ≤ base % 40 by omega) rfl 1 (joint_fine _) (by decide)).mono ?_
       rintro e w5 ⟨rfl, hB⟩
       have HB5 := Lib.hid (((HB4.out.alloc HB4.out.size (.cells #[.slice (some ⟨w4.heap.size + 1, 0, none⟩) 1 1, .slice (some ad4) (plainL (wrap64 (bits + 1))).length c4] 30)).alloc (HB4.out.alloc HB4.out.size (.cells #[.slice (some ⟨w4.heap.size + 1, 0, none⟩) 1 1, .slice (some ad4) (plainL (wrap64 (bits + 1))).length c4] 30)).size (.cells #[.int .i64 0] 3)).trans (hB.mono ((HB4.out.alloc HB4.out.size (.cells #[.slice (some ⟨w4.heap.size + 1, 0, none⟩) 1 1, .slice (some ad4) (plainL (wrap64 (bits + 1))).length c4] 30)).alloc (HB4.out.alloc HB4.out.size (.cells #[.slice (some ⟨w4.heap.size + 1, 0, none⟩) 1 1, .slice (some ad4) (plainL (wrap64 (bits + 1))).length c4] 30)).size (.cells #[.int .i64 0] 3)).size))
       have HG5 := Lib.hid (((HG4.out.alloc (.cells #[.slice (some ⟨w4.heap.size + 1, 0, none⟩) 1 1, .slice (some ad4) (plainL (wrap64 (bits + 1))).length c4] 30)).alloc (.cells #[.int .i64 0] 3)).below hB)
       clear hB h4 HG4)
    | (go_at_call 8
       have h3 := HG3.out
       refine (plain_lit _ _).mono ?_
       rintro e w4 ⟨ad4, c4, rfl, hC, hB⟩
       have HC4 := Lib.hid hC
       have HB4 := Lib.hid (HB3.out.trans (hB.mono HB3.out.size))
       have HG4 := Lib.hid (HG3.out.below hB)
       clear hC hB h3 HG3)
    | (go_at_call 8
       refine (plain_lit _ _).mono ?_
       rintro e w2 ⟨ad, c1, rfl, hC, hB⟩
       have HC2 := Lib.hid hC
       have HB2 := Lib.hid (HB1.out.trans (hB.mono HB1.out.size))
       clear hC hB)
    | (go_at_call 7
       refine (new_any w2 1 2 (base % 40) (plainL bits) ad c1 (by decide) rfl (by omega) (plainL_fine bits).1 HC2.out (plainL_fine bits).2.1 (plainL_fine bits).2.2).mono ?_
       rintro e w3 ⟨bk, A3, c3, rfl, hG, hB⟩
       have HG3 := Lib.hid hG
       have HB3 := Lib.hid (HB2.out.trans (hB.mono HB2.out.size))
       clear hG hB))
  have hK := Lib.hid (((Keep.of_below HB8.out (fun _ => False)).trans HK9.out (fun k hk => .inr (Nat.le_trans HB2.out.size hk.1))).trans (Keep.of_below HB10.out (fun _ => False)) (fun _ h => h.elim))
  go_ret
  exact ⟨rfl, hK.out.to_below (Nat.le_refl _) (fun _ h => h.elim)⟩
set_option maxHeartbeats 4000000 in
theorem refuses_5 (base bits how by' : Int) (w : World) (hh : how % 6 = 5) : Calls Try.prog 3 #[.int .i64 base, .int .i64 bits, .int .i64 how, .int .i64 by'] w fun e w' => e = .returned (.bool true) ∧ Below w.heap.size w w' := by
  have hb0 : 0 ≤ base % 40 := by omega
  have hb1 : base % 40 < 40 := by omega
  have hy0 : 0 ≤ by' % 30 := by omega
  have hy1 : by' % 30 < 30 := by omega
  have hf0 := Try.field33_0
  go_enter Try.func3, Try.ntmps3
  go_wp2_with (first
    | (go_at_call 5
       refine (known_any _).mono ?_
       rintro e w1 ⟨rfl, hB⟩
       have HB1 := Lib.hid hB
       clear hB)
    | (go_at_call 6
       refine (within_any _ _ _ (by decide) (by decide)).mono ?_
       rintro e w0 ⟨rfl, rfl⟩)
    | (go_at_call 11
       have h9 := HG9.out
       refine (now_lit w9 _ _ bk _ ⟨⟨2, 1, base % 40 + 1, plainL bits⟩, A9, c9⟩ HG9.out rfl).mono ?_
       rintro e w10 ⟨A10, c10, rfl, hR, hB⟩
       have HB10 := Lib.hid hB
       clear hR hB h9 HG9)
    | (go_at_call 9
       have h8 := HG8.out
       refine (seal_ok w8 _ _ bk _ ⟨⟨1, 2, base % 40, plainL bits⟩, A3, c3⟩ HG8.out rfl (base % 40 + 1) 1 ad8 (plainL bits) c8 HC8.out (show ¬ base % 40 + 1 ≤ base % 40 by omega) rfl (plainL_fine bits).1 (show 1 < 60 by decide) (show (0 : Int) ≤ 1 by decide) (show (1 : Int) < 1000000 by decide) (plainL_fine bits).2.1 (plainL_fine bits).2.2).mono ?_
       rintro e w9 ⟨rfl, F9, A9, c9, hG, hF, hK⟩
       have HG9 := Lib.hid hG
       have HK9 := Lib.hid hK
       clear hG hF hK h8 HG8)
    | (go_at_call 8
       have h7 := HG7.out
       refine (plain_lit w7 bits).mono ?_
       rintro e w8 ⟨ad8, c8, rfl, hC, hB⟩
       have HC8 := Lib.hid hC
       have HB8 := Lib.hid (HB7.out.trans (hB.mono HB7.out.size))
       have HG8 := Lib.hid (HG7.out.below hB)
       clear hC hB h7 HG7)
    | (go_at_call 11
       have h6 := HG6.out
       refine (now_lit w6 _ _ bk _ ⟨⟨1, 2, base % 40, plainL bits⟩, A3, c3⟩ HG6.out rfl).mono ?_
       rintro e w7 ⟨A7, c7, rfl, hR, hB⟩
       have HB7 := Lib.hid (HB6.out.trans (hB.mono HB6.out.size))
       have HG7 := Lib.hid (HG6.out.below hB)
       clear hR hB h6 HG6)
    | (go_at_call 10
       refine (all_any w5 _ _ bk _ HG5.out (show 0 < 1 by decide) (show 1 ≤ 60 by decide)).mono ?_
       rintro e w6 ⟨v6, zs, rfl, hA⟩
       obtain ⟨A6, c6, rfl⟩ := Kd.R_slice hA.row
       have hzl : zs.length = 1 := by simpa using congrArg List.length hA.same
       have HB6 := Lib.hid (HB5.out.trans (hA.below.mono HB5.out.size))
       have HG6 := Lib.hid (HG5.out.below hA.below)
       rw [hzl]
       clear hA hzl)
    | (go_at_call 9
       have h4 := HG4.out
       refine (seal_mem_r _ _ _ bk _ ⟨⟨1, 2, base % 40, plainL bits⟩, A3, c3⟩ ((HG4.out.alloc (.cells #[.slice none 0 0, .slice (some ⟨w4.heap.size + 1, 0, none⟩) 1 1] 30)).alloc (.cells #[.int .i64 (-(1 + by' % 30))] 3)) rfl (base % 40 + (1 + by' % 30)) 1 none (some ⟨w4.heap.size + 1, 0, none⟩) [] [-(1 + by' % 30)] 0 1 0 1 (ReadsInt.nil _ .i64) (ri_of_C (lit_one' w4 (-(1 + by' % 30)) (.cells #[.slice none 0 0, .slice (some ⟨w4.heap.size + 1, 0, none⟩) 1 1] 30))) (show ¬ base % 40 + (1 + by' % 30) ≤ base % 40 by omega) rfl 1 (neg_bad (by omega)) (by decide)).mono ?_
       rintro e w5 ⟨rfl, hB⟩
       have HB5 := Lib.hid (((HB4.out.alloc HB4.out.size (.cells #[.slice none 0 0, .slice (some ⟨w4.heap.size + 1, 0, none⟩) 1 1] 30)).alloc (HB4.out.alloc HB4.out.size (.cells #[.slice none 0 0, .slice (some ⟨w4.heap.size + 1, 0, none⟩) 1 1] 30)).size (.cells #[.int .i64 (-(1 + by' % 30))] 3)).trans (hB.mono ((HB4.out.alloc HB4.out.size (.cells #[.slice none 0 0, .slice (some ⟨w4.heap.size + 1, 0, none⟩) 1 1] 30)).alloc (HB4.out.alloc HB4.out.size (.cells #[.slice none 0 0, .slice (some ⟨w4.heap.size + 1, 0, none⟩) 1 1] 30)).size (.cells #[.int .i64 (-(1 + by' % 30))] 3)).size))
       have HG5 := Lib.hid (((HG4.out.alloc (.cells #[.slice none 0 0, .slice (some ⟨w4.heap.size + 1, 0, none⟩) 1 1] 30)).alloc (.cells #[.int .i64 (-(1 + by' % 30))] 3)).below hB)
       clear hB h4 HG4)
    | (go_at_call 8
       have h3 := HG3.out
       refine (plain_lit _ _).mono ?_
       rintro e w4 ⟨ad4, c4, rfl, hC, hB⟩
       have HC4 := Lib.hid hC
       have HB4 := Lib.hid (HB3.out.trans (hB.mono HB3.out.size))
       have HG4 := Lib.hid (HG3.out.below hB)
       clear hC hB h3 HG3)
    | (go_at_call 8
       refine (plain_lit _ _).mono ?_
       rintro e w2 ⟨ad, c1, rfl, hC, hB⟩
       have HC2 := Lib.hid hC
       have HB2 := Lib.hid (HB1.out.trans (hB.mono HB1.out.size))
       clear hC hB)
    | (go_at_call 7
       refine (new_any w2 1 2 (base % 40) (plainL bits) ad c1 (by decide) rfl (by omega) (plainL_fine bits).1 HC2.out (plainL_fine bits).2.1 (plainL_fine bits).2.2).mono ?_
       rintro e w3 ⟨bk, A3, c3, rfl, hG, hB⟩
       have HG3 := Lib.hid hG
       have HB3 := Lib.hid (HB2.out.trans (hB.mono HB2.out.size))
       clear hG hB))
  have hK := Lib.hid (((Keep.of_below HB8.out (fun _ => False)).trans HK9.out (fun k hk => .inr (Nat.le_trans HB2.out.size hk.1))).trans (Keep.of_below HB10.out (fun _ => False)) (fun _ h => h.elim))
  go_ret
  exact ⟨rfl, hK.out.to_below (Nat.le_refl _) (fun _ h => h.elim)⟩
theorem refuses_any (base bits how by' : Int) (w : World) {P0 P1 P2 P3 : Prop} (_ : P0) (_ : P1) (_ : P2) (_ : P3) : Calls Try.prog 3 #[.int .i64 base, .int .i64 bits, .int .i64 how, .int .i64 by'] w fun e w' => e = .returned (.bool true) ∧ Below w.heap.size w w' := by
  have h : how % 6 = 0 ∨ how % 6 = 1 ∨ how % 6 = 2 ∨ how % 6 = 3 ∨ how % 6 = 4 ∨ how % 6 = 5 := by omega
  rcases h with h | h | h | h | h | h
  · exact refuses_0 base bits how by' w h
  · exact refuses_1 base bits how by' w h
  · exact refuses_2 base bits how by' w h
  · exact refuses_3 base bits how by' w h
  · exact refuses_4 base bits how by' w h
  · exact refuses_5 base bits how by' w h
end Go.Proofs.Ytjgdglbfnjjmmaa
