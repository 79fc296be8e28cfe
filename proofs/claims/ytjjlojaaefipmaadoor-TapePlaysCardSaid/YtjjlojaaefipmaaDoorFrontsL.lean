/- The walk of TapeFronts. -/
import Derived.Test.YtjjlojaaefipmaaDoorLawT
import Derived.Deep.RegionHeld3
set_option linter.unusedVariables false
set_option linter.unusedSimpArgs false
namespace Go.Proofs.YtjjlojaaefipmaaDoor
open Go.RowKit Go.Proofs.YtjjlojaaefipmaaDoorW.PrintWords Go.Proofs.Mine

theorem wpAnyH_mono {P : Program} {md : Region.Mode} {ops : Array Oper} {Q : Exit → Act → World → Prop} {S S' : World → Prop} (h : ∀ w, S' w → S w) : ∀ {fuel : Nat} {listed : Array Bool} {a : Act} {w : World}, wpAnyH P md ops Q S' fuel listed a w → wpAnyH P md ops Q S fuel listed a w
  | 0, _, _, _, k => k
  | fuel + 1, _, _, _, k => ⟨k.1, fun i hi => wpOp_mono (fun a' w' h' => ⟨h w' h'.1, wpAnyH_mono h h'.2⟩) (k.2 i hi)⟩
theorem strOf_append (x y : List Int) : strOfNums x ++ strOfNums y = strOfNums (x ++ y) := by
  unfold strOfNums
  rw [ByteArray.mk_append_mk, List.map_append]
theorem take_reads {W : World} {A : Option Addr} {l : List Int} (h : ReadsInt W .u8 A l.length l) (k : Nat) (hk : k ≤ l.length) : ReadsInt W .u8 A k (l.take k) := by
  have hl : (l.take k).length = k := by rw [List.length_take]; omega
  refine ⟨hl, by have := h.2.1; omega, fun hp => ?_⟩
  obtain ⟨ad, ha, hc⟩ := h.2.2 (by omega)
  refine ⟨ad, ha, fun i hi => ?_⟩
  rw [hc i (by omega)]
  simp [List.getD_eq_getElem?_getD, List.getElem?_take, hi]
/-- v[: n]. -/
theorem cut_to (A : Option Addr) (L c k : Nat) (h : k ≤ c) (W : World) : (Instr.slice 22 (.slice A L c) none (some (.int .i64 (k : Int))) none).run Tryd.prog W = .ok (.slice A k c) W := by
  have h1 : ¬ ((c : Int) < (k : Int)) := by omega
  simp [Instr.slice, run_underlying Tryd.underlying22, Instr.sliceBounds, Instr.sliceBound, asIntOf, h1, h]
  intro _
  cases A <;> simp [Addr.add]
theorem may_plain (room ops : Int) (l : List Int) (sy : Nat) (n : Int) (h : n ≤ room) : mayE ⟨room, l, sy, 0, false, ops⟩ n = 0 := by
  unfold mayE; rw [if_neg Bool.false_ne_true, if_neg (show ¬ (room < n) by omega)]
theorem may_full (room left ops : Int) (l : List Int) (sy : Nat) (n : Int) (h : room < n) : mayE ⟨room, l, sy, left, false, ops⟩ n = 14 := by
  unfold mayE; rw [if_neg Bool.false_ne_true, if_pos h]
theorem apd_plain (room ops : Int) (l x : List Int) (sy : Nat) (h : (l.length : Int) + (x.length : Int) ≤ room) : appendE ⟨room, l, sy, 0, false, ops⟩ x = 0 ∧ appendS ⟨room, l, sy, 0, false, ops⟩ x = ⟨room, l ++ x, sy, 0, false, ops + 1⟩ := by
  have hm := may_plain room ops l sy _ h
  exact ⟨(if_pos hm).trans rfl, (if_pos hm).trans rfl⟩
theorem apd_full (room ops : Int) (l x : List Int) (sy : Nat) (h : room < (l.length : Int) + (x.length : Int)) : appendE ⟨room, l, sy, 0, false, ops⟩ x = 14 ∧ appendS ⟨room, l, sy, 0, false, ops⟩ x = ⟨room, l, sy, 0, false, ops⟩ := by
  have hm := may_full room 0 ops l sy _ h
  refine ⟨(if_neg (by rw [hm]; decide)).trans hm, if_neg (by rw [hm]; decide)⟩
theorem syn_plain (room ops : Int) (l : List Int) (sy : Nat) (h : 0 ≤ room) : syncE ⟨room, l, sy, 0, false, ops⟩ = 0 ∧ syncS ⟨room, l, sy, 0, false, ops⟩ = ⟨room, l, l.length, 0, false, ops + 1⟩ := by
  have hm := may_plain room ops l sy 0 h
  exact ⟨(if_pos hm).trans rfl, (if_pos hm).trans rfl⟩
theorem rep_plain (room ops : Int) (l x : List Int) (sy : Nat) (h : (x.length : Int) ≤ room) : replaceE ⟨room, l, sy, 0, false, ops⟩ x = 0 ∧ replaceS ⟨room, l, sy, 0, false, ops⟩ x = ⟨room, x, x.length, 0, false, ops + 1⟩ := by
  have hm := may_plain room ops l sy _ h
  exact ⟨(if_pos hm).trans rfl, (if_pos hm).trans rfl⟩
theorem rep_full (room ops : Int) (l x : List Int) (sy : Nat) (h : room < (x.length : Int)) : replaceE ⟨room, l, sy, 0, false, ops⟩ x = 14 ∧ replaceS ⟨room, l, sy, 0, false, ops⟩ x = ⟨room, l, sy, 0, false, ops⟩ := by
  have hm := may_full room 0 ops l sy _ h
  exact ⟨(if_neg (by rw [hm]; decide)).trans hm, if_neg (by rw [hm]; decide)⟩
theorem rep_stop (room ops : Int) (l x : List Int) (sy : Nat) (h : (x.length : Int) ≤ room) : replaceE ⟨room, l, sy, 1, false, ops⟩ x = 13 ∧ replaceS ⟨room, l, sy, 1, false, ops⟩ x = ⟨room, l, sy, 0, true, ops⟩ := by
  have hm : mayE ⟨room, l, sy, 1, false, ops⟩ (x.length : Int) = 0 := by unfold mayE; rw [if_neg Bool.false_ne_true, if_neg (show ¬ (room < (x.length : Int)) by omega)]
  exact ⟨(if_pos hm).trans rfl, (if_pos hm).trans rfl⟩
theorem crashK_zero (l : List Int) (room left ops : Int) (dead : Bool) (pick : Int) : crashK ⟨room, l, l.length, left, dead, ops⟩ pick = 0 := by
  unfold crashK
  show (pick % (((l.length - l.length : Nat) : Int) + 1)).toNat = 0
  rw [Nat.sub_self]; simp
theorem crash_zero (l : List Int) (room left ops : Int) (dead : Bool) (pick : Int) : crashS ⟨room, l, l.length, left, dead, ops⟩ pick = ⟨room, l, l.length, 0, false, ops⟩ := by
  unfold crashS
  rw [crashK_zero]
  simp
theorem crash_part (room ops : Int) (l0 l1 : List Int) (pick : Int) (k : Nat) (hk : pick % ((l1.length : Int) + 1) = (k : Int)) :
    crashK ⟨room, l0 ++ l1, l0.length, 0, false, ops⟩ pick = k ∧ crashS ⟨room, l0 ++ l1, l0.length, 0, false, ops⟩ pick = ⟨room, l0 ++ l1.take k, (l0 ++ l1.take k).length, 0, false, ops⟩ := by
  have hk1 : k ≤ l1.length := by have := Int.emod_lt_of_pos pick (show (0 : Int) < (l1.length : Int) + 1 by omega); omega
  have hk6 : crashK ⟨room, l0 ++ l1, l0.length, 0, false, ops⟩ pick = k := by
    unfold crashK
    show (pick % ((((l0 ++ l1).length - l0.length : Nat) : Int) + 1)).toNat = k
    rw [List.length_append, Nat.add_sub_cancel_left, hk, Int.toNat_natCast]
  refine ⟨hk6, ?_⟩
  unfold crashS
  rw [hk6]
  show (⟨room, (l0 ++ l1).take (l0.length + k), l0.length + k, 0, false, ops⟩ : TS) = _
  rw [List.take_length_add_append, List.length_append, List.length_take, Nat.min_eq_left hk1]
set_option maxRecDepth 100000 in
set_option maxHeartbeats 600000 in
theorem fronts_any (A0 : Option Addr) (cap0 : Nat) (l0 : List Int) (A1 : Option Addr) (cap1 : Nat) (l1 : List Int) (pick : Int) (w : World) (hg0 : Laid w) (hr0 : ReadsInt w .u8 A0 l0.length l0) (hr1 : ReadsInt w .u8 A1 l1.length l1) (hc1 : l1.length ≤ cap1) (hy0 : l0.length * 1 ≤ 140737488351232) (hy1 : l1.length * 1 ≤ 140737488351232) :
    Calls Tryd.prog 4 #[.slice A0 l0.length cap0, .slice A1 l1.length cap1, .int .i64 pick] w fun e w' => e = .returned (.bool true) ∧ Below w.heap.size w w' := by
  have HG := Lib.hid hg0
  have R0 := Lib.hid hr0
  have R1 := Lib.hid hr1
  have hm0 := hr0.2.1
  have hm1 := hr1.2.1
  clear hg0 hr0 hr1
  by_cases h5 : (500 : Int) < (l0.length : Int) + (l1.length : Int)
  · go_enter Tryd.func4, Tryd.ntmps4
    go_wp2_with (go_at_call 8; refine (known_any w HG.out).mono ?_; rintro e w1 ⟨rfl, hB⟩; have HB1 := Lib.hid hB; clear hB)
    go_ret
    exact ⟨rfl, HB1.out⟩
  · obtain ⟨k, hk⟩ : ∃ k : Nat, pick % ((l1.length : Int) + 1) = (k : Int) := ⟨(pick % ((l1.length : Int) + 1)).toNat, by have := Int.emod_nonneg pick (show (l1.length : Int) + 1 ≠ 0 by omega); omega⟩
    have hk1 : k ≤ l1.length := by have := Int.emod_lt_of_pos pick (show (0 : Int) < (l1.length : Int) + 1 by omega); omega
    have hb0 : l0.length ≤ 500 := by omega
    have hb1 : l1.length ≤ 500 := by omega
    have HK := Lib.hid hk
    clear hk
    go_enter Tryd.func4, Tryd.ntmps4
    have hkc : k ≤ cap1 := by omega
    obtain ⟨SA, hSA⟩ : ∃ z, z = strOfNums l0 := ⟨_, rfl⟩
    obtain ⟨SB, hSB⟩ : ∃ z, z = strOfNums (l1.take k) := ⟨_, rfl⟩
    obtain ⟨L, hL⟩ : ∃ z, z = l0 ++ l1.take k := ⟨_, rfl⟩
    obtain ⟨ST, hST⟩ : ∃ z, z = strOfNums L := ⟨_, rfl⟩
    have hsz1 : SA.size = l0.length := by rw [hSA, strOfNums_size]
    have hsz2 : SB.size = k := by rw [hSB, strOfNums_size, List.length_take]; omega
    have hnc : ¬ (9223372036854775807 < l0.length + k) := by omega
    have heq : (ST.toList == (SA ++ SB).toList) = true := by rw [hST, hSA, hSB, hL, strOf_append]; simp
    have hwr : IntKind.i64.wrap ((l1.length : Int) + 1) = (l1.length : Int) + 1 := IntWalk.i64_in _ (by omega)
    have hsl := cut_to A1 l1.length cap1 k hkc
    have hk0 : ((k : Int) == (k : Int)) = true := by simp
    have HSA := Lib.hid hSA
    have HSB := Lib.hid hSB
    have HST := Lib.hid hST
    have HL := Lib.hid hL
    clear hSA hSB hST hL
    go_wp2_with (first
      | (go_at_call 8; refine (known_any w HG.out).mono ?_; rintro e w1 ⟨rfl, hB⟩; have HB1 := Lib.hid hB; clear hB)
      | (go_at_call 9; refine (new_ok 1000 w1 (by decide) (by decide)).mono ?_; rintro r w2 ⟨rfl, hw2⟩; have HI := in_new HG.out HB1.out 1000 (by decide) (by decide); rw [← hw2] at HI; have HT2 := Lib.hid HI; clear HI hw2; generalize w1.heap.size = b at *)
      | (have hx := HT4.out
         go_at_call 10
         refine (append_arg A1 cap1 l1 w w4 b F4 _ hx (show (2 : Int) < 1000000000 by decide) R1.out (by omega)).mono ?_
         rintro r w5 ⟨rfl, F5, hT5, _, _⟩
         obtain ⟨e5, s5⟩ := apd_plain 1000 2 l0 l1 l0.length (by omega)
         rw [s5] at hT5
         rw [e5]
         have HT5 := Lib.hid (show TapeIn w b ⟨1000, l0 ++ l1, l0.length, 0, false, 3⟩ w5 F5 from hT5)
         clear hT5 e5 s5)
      | (go_at_call 10
         refine (append_arg A0 cap0 l0 w w2 b _ _ HT2.out (show (0 : Int) < 1000000000 by decide) R0.out (by omega)).mono ?_
         rintro r w3 ⟨rfl, F3, hT3, _, _⟩
         obtain ⟨e3, s3⟩ : appendE (new0 1000) l0 = 0 ∧ appendS (new0 1000) l0 = ⟨1000, l0, 0, 0, false, 1⟩ := apd_plain 1000 0 [] l0 0 (by show ((0 : Nat) : Int) + (l0.length : Int) ≤ 1000; omega)
         rw [s3] at hT3
         rw [e3]
         have HT3 := Lib.hid hT3
         clear hT3 e3 s3)
      | (go_at_call 11
         refine (sync_in w w3 b F3 _ HT3.out (show (1 : Int) < 1000000000 by decide)).mono ?_
         rintro r w4 ⟨rfl, F4, hT4, _, _⟩
         obtain ⟨e4, s4⟩ : _ ∧ syncS _ = ⟨1000, l0, l0.length, 0, false, 2⟩ := syn_plain 1000 1 l0 0 (by decide)
         rw [s4] at hT4
         rw [e4]
         have HT4 := Lib.hid hT4
         clear hT4 e4 s4)
      | (have hx := HT6.out
         go_at_call 12
         refine (crash_in pick w w6 b F6 _ hx).mono ?_
         rintro r w7 ⟨rfl, F7, hT7, _, _⟩
         rw [crash_zero] at hT7
         rw [show (crashK ⟨1000, L, L.length, 0, false, 3⟩ pick : Int) = 0 from by rw [crashK_zero]; rfl]
         have ca7 : (convert 22 9 (.slice A0 l0.length cap0)).run Tryd.prog w7.drew = .ok (.string SA) w7.drew := by rw [HSA.out]; exact str_of (W := w7.drew) (R0.out.below hT7.below.drew)
         have cb7 : (convert 22 9 (.slice A1 k cap1)).run Tryd.prog w7.drew = .ok (.string SB) w7.drew := by rw [HSB.out]; exact string_of_reads (w := w7.drew) Tryd.underlying22 Tryd.underlying5 Tryd.underlying9 (take_reads (R1.out.below hT7.below.drew) k hk1)
         have HT7 := Lib.hid (show TapeIn w b ⟨1000, L, L.length, 0, false, 3⟩ w7.drew F7 from ⟨hT7.at_, hT7.below.drew, hT7.laid, hT7.ok⟩)
         clear hT7)
      | (go_at_call 12
         refine (crash_in pick w w5 b F5 _ HT5.out).mono ?_
         rintro r w6 ⟨rfl, F6, hT6, _, _⟩
         go_loud (obtain ⟨hk6, s6⟩ := crash_part 1000 3 l0 l1 pick k HK.out)
         go_loud (rw [← HL.out] at s6)
         go_loud (rw [s6] at hT6)
         go_loud (rw [hk6])
         have HT6 := Lib.hid hT6
         clear hT6 hk6 s6))
    refine wp_region_noPanic ?_
    refine wp_region_held_drew (S := (fun w' => (convert 22 9 (.slice A0 l0.length cap0)).run Tryd.prog w' = .ok (.string SA) w' ∧ (convert 22 9 (.slice A1 k cap1)).run Tryd.prog w' = .ok (.string SB) w')) (by kernel_rfl) ?fs0 (fun hHeld0 => ?fr0)
    case fs0 => (try dsimp only); exact ⟨ca7, cb7⟩
    refine wpAnyH_take (i := 0) (v := ?fv1) (by simp only [List.getElem?_toArray, List.getElem?_cons_zero, List.getElem?_cons_succ]; rfl) (by kernel_rfl) (by kernel_rfl) (by kernel_rfl) (fun _ _ _ h => h) (Or.inl ⟨by rfl, ?fh1⟩) hHeld0 ?fq1
    case fh1 => (intro w hSw; (try dsimp only at hSw); go_simp <;> with_reducible rfl)
    try simp only [Act.put, List.setIfInBounds_toArray, List.set_cons_zero, List.set_cons_succ]
    refine wpAnyH_take (i := 1) (v := ?fv2) (by simp only [List.getElem?_toArray, List.getElem?_cons_zero, List.getElem?_cons_succ]; rfl) (by kernel_rfl) (by kernel_rfl) (by kernel_rfl) (fun _ _ _ h => h) (Or.inl ⟨by rfl, ?fh2⟩) hHeld0 ?fq2
    case fh2 => (intro w hSw; (try dsimp only at hSw); go_simp <;> with_reducible rfl)
    try simp only [Act.put, List.setIfInBounds_toArray, List.set_cons_zero, List.set_cons_succ]
    refine wpAnyH_take (i := 2) (v := ?fv3) (by simp only [List.getElem?_toArray, List.getElem?_cons_zero, List.getElem?_cons_succ]; rfl) (by kernel_rfl) (by kernel_rfl) (by kernel_rfl) (fun _ _ _ h => h) (Or.inl ⟨by rfl, ?fh3⟩) hHeld0 ?fq3
    case fh3 => (intro w hSw; (try dsimp only at hSw); go_simp <;> with_reducible rfl)
    try simp only [Act.put, List.setIfInBounds_toArray, List.set_cons_zero, List.set_cons_succ]
    refine wpAnyH_take (i := 3) (v := ?fv4) (by simp only [List.getElem?_toArray, List.getElem?_cons_zero, List.getElem?_cons_succ]; rfl) (by kernel_rfl) (by kernel_rfl) (by kernel_rfl) (fun _ _ _ h => h) (Or.inl ⟨by rfl, ?fh4⟩) hHeld0 ?fq4
    case fh4 => (intro w hSw; (try dsimp only at hSw); go_simp <;> with_reducible rfl)
    try simp only [Act.put, List.setIfInBounds_toArray, List.set_cons_zero, List.set_cons_succ]
    refine wpAnyH_take (i := 4) (v := ?fv5) (by simp only [List.getElem?_toArray, List.getElem?_cons_zero, List.getElem?_cons_succ]; rfl) (by kernel_rfl) (by kernel_rfl) (by kernel_rfl) (fun _ _ _ h => h) (Or.inl ⟨by rfl, ?fh5⟩) hHeld0 ?fq5
    case fh5 => (intro w hSw; (try dsimp only at hSw); go_simp <;> with_reducible rfl)
    try simp only [Act.put, List.setIfInBounds_toArray, List.set_cons_zero, List.set_cons_succ]
    refine wpAnyH_take (i := 5) (v := ?fv6) (by simp only [List.getElem?_toArray, List.getElem?_cons_zero, List.getElem?_cons_succ]; rfl) (by kernel_rfl) (by kernel_rfl) (by kernel_rfl) (fun _ _ _ h => h) (Or.inl ⟨by rfl, ?fh6⟩) hHeld0 ?fq6
    case fh6 => (intro w hSw; (try dsimp only at hSw); go_simp <;> with_reducible rfl)
    try simp only [Act.put, List.setIfInBounds_toArray, List.set_cons_zero, List.set_cons_succ]
    refine wpAnyH_take (i := 6) (v := ?fv7) (by simp only [List.getElem?_toArray, List.getElem?_cons_zero, List.getElem?_cons_succ]; rfl) (by kernel_rfl) (by kernel_rfl) (by kernel_rfl) (fun _ _ _ h => h) (Or.inl ⟨by rfl, ?fh7⟩) hHeld0 ?fq7
    case fh7 => (intro w hSw; (try dsimp only at hSw); go_simp <;> with_reducible rfl)
    try simp only [Act.put, List.setIfInBounds_toArray, List.set_cons_zero, List.set_cons_succ]
    refine wpAnyH_take (i := 7) (v := ?fv8) (by simp only [List.getElem?_toArray, List.getElem?_cons_zero, List.getElem?_cons_succ]; rfl) (by kernel_rfl) (by kernel_rfl) (by kernel_rfl) (fun _ _ _ h => h) (Or.inl ⟨by rfl, ?fh8⟩) hHeld0 ?fq8
    case fh8 => (intro w hSw; (try dsimp only at hSw); go_simp <;> with_reducible rfl)
    try simp only [Act.put, List.setIfInBounds_toArray, List.set_cons_zero, List.set_cons_succ]
    refine wpAnyH_take (i := 8) (v := ?fv9) (by simp only [List.getElem?_toArray, List.getElem?_cons_zero, List.getElem?_cons_succ]; rfl) (by kernel_rfl) (by kernel_rfl) (by kernel_rfl) (fun _ _ _ h => h) (Or.inl ⟨by rfl, ?fh9⟩) hHeld0 ?fq9
    case fh9 => (intro w hSw; (try dsimp only at hSw); go_simp <;> with_reducible rfl)
    try simp only [Act.put, List.setIfInBounds_toArray, List.set_cons_zero, List.set_cons_succ]
    refine wpAnyH_take (i := 9) (v := ?fv10) (by simp only [List.getElem?_toArray, List.getElem?_cons_zero, List.getElem?_cons_succ]; rfl) (by kernel_rfl) (by kernel_rfl) (by kernel_rfl) (fun _ _ _ h => h) (Or.inl ⟨by rfl, ?fh10⟩) hHeld0 ?fq10
    case fh10 => (intro w hSw; (try dsimp only at hSw); go_simp <;> with_reducible rfl)
    try simp only [Act.put, List.setIfInBounds_toArray, List.set_cons_zero, List.set_cons_succ]
    refine wpAnyH_take (i := 10) (v := ?fv11) (by simp only [List.getElem?_toArray, List.getElem?_cons_zero, List.getElem?_cons_succ]; rfl) (by kernel_rfl) (by kernel_rfl) (by kernel_rfl) (fun _ _ _ h => h) (Or.inl ⟨by rfl, ?fh11⟩) hHeld0 ?fq11
    case fh11 => (intro w hSw; (try dsimp only at hSw); go_simp <;> with_reducible rfl)
    try simp only [Act.put, List.setIfInBounds_toArray, List.set_cons_zero, List.set_cons_succ]
    refine wpAnyH_take (i := 11) (v := ?fv12) (by simp only [List.getElem?_toArray, List.getElem?_cons_zero, List.getElem?_cons_succ]; rfl) (by kernel_rfl) (by kernel_rfl) (by kernel_rfl) (fun _ _ _ h => h) (Or.inl ⟨by rfl, ?fh12⟩) hHeld0 ?fq12
    case fh12 => (intro w hSw; (try dsimp only at hSw); go_simp <;> with_reducible rfl)
    try simp only [Act.put, List.setIfInBounds_toArray, List.set_cons_zero, List.set_cons_succ]
    refine wpAnyH_take (i := 12) (v := ?fv13) (by simp only [List.getElem?_toArray, List.getElem?_cons_zero, List.getElem?_cons_succ]; rfl) (by kernel_rfl) (by kernel_rfl) (by kernel_rfl) (fun _ _ _ h => h) (Or.inl ⟨by rfl, ?fh13⟩) hHeld0 ?fq13
    case fh13 => (intro w hSw; (try dsimp only at hSw); go_simp <;> with_reducible rfl)
    try simp only [Act.put, List.setIfInBounds_toArray, List.set_cons_zero, List.set_cons_succ]
    refine wpAnyH_take (i := 13) (v := ?fv14) (by simp only [List.getElem?_toArray, List.getElem?_cons_zero, List.getElem?_cons_succ]; rfl) (by kernel_rfl) (by kernel_rfl) (by kernel_rfl) (fun _ _ _ h => h) (Or.inl ⟨by rfl, ?fh14⟩) hHeld0 ?fq14
    case fh14 => (intro w hSw; (try dsimp only at hSw); go_simp <;> with_reducible rfl)
    try simp only [Act.put, List.setIfInBounds_toArray, List.set_cons_zero, List.set_cons_succ]
    refine wpAnyH_take (i := 14) (v := ?fv15) (by simp only [List.getElem?_toArray, List.getElem?_cons_zero, List.getElem?_cons_succ]; rfl) (by kernel_rfl) (by kernel_rfl) (by kernel_rfl) (fun _ _ _ h => h) (Or.inl ⟨by rfl, ?fh15⟩) hHeld0 ?fq15
    case fh15 => (intro w hSw; (try dsimp only at hSw); go_simp <;> with_reducible rfl)
    try simp only [Act.put, List.setIfInBounds_toArray, List.set_cons_zero, List.set_cons_succ]
    refine wpAnyH_take (i := 15) (v := ?fv16) (by simp only [List.getElem?_toArray, List.getElem?_cons_zero, List.getElem?_cons_succ]; rfl) (by kernel_rfl) (by kernel_rfl) (by kernel_rfl) (fun _ _ _ h => h) (Or.inl ⟨by rfl, ?fh16⟩) hHeld0 ?fq16
    case fh16 => (intro w hSw; (try dsimp only at hSw); go_simp <;> with_reducible rfl)
    try simp only [Act.put, List.setIfInBounds_toArray, List.set_cons_zero, List.set_cons_succ]
    refine wpAnyH_ready (rs := [16]) (by kernel_rfl) (by simp) ?_
    refine AllReadyH.cons (by simp only [List.getElem?_toArray, List.getElem?_cons_zero, List.getElem?_cons_succ]; rfl) (fun K hK => ?_) AllReadyH.nil
    go_simp
    go_at_call 14; refine (within_any pick ((l1.length : Int) + 1) _ (by omega) (by omega)).mono ?_; rintro r w8 ⟨rfl, rfl⟩; rw [HK.out]
    clear hHeld0
    refine hK.out _ _ ?fs17 (fun hHeld1 => ?fq17)
    case fs17 => (try dsimp only); exact ⟨ca7, cb7⟩
    clear hK K
    try simp only [Act.put, List.setIfInBounds_toArray, List.set_cons_zero, List.set_cons_succ]
    refine wpAnyH_take (i := 17) (v := ?fv18) (by simp only [List.getElem?_toArray, List.getElem?_cons_zero, List.getElem?_cons_succ]; rfl) (by kernel_rfl) (by kernel_rfl) (by kernel_rfl) (fun _ _ _ h => h) (Or.inl ⟨by rfl, ?fh18⟩) hHeld1 ?fq18
    case fh18 => (intro w hSw; (try dsimp only at hSw); go_simp <;> with_reducible rfl)
    try simp only [Act.put, List.setIfInBounds_toArray, List.set_cons_zero, List.set_cons_succ]
    refine wpAnyH_take (i := 18) (v := ?fv19) (by simp only [List.getElem?_toArray, List.getElem?_cons_zero, List.getElem?_cons_succ]; rfl) (by kernel_rfl) (by kernel_rfl) (by kernel_rfl) (fun _ _ _ h => h) (Or.inl ⟨by rfl, ?fh19⟩) hHeld1 ?fq19
    case fh19 => (intro w hSw; (try dsimp only at hSw); go_simp <;> with_reducible rfl)
    try simp only [Act.put, List.setIfInBounds_toArray, List.set_cons_zero, List.set_cons_succ]
    refine wpAnyH_take (i := 19) (v := ?fv20) (by simp only [List.getElem?_toArray, List.getElem?_cons_zero, List.getElem?_cons_succ]; rfl) (by kernel_rfl) (by kernel_rfl) (by kernel_rfl) (fun _ _ _ h => h) (Or.inl ⟨by rfl, ?fh20⟩) hHeld1 ?fq20
    case fh20 => (intro w hSw; (try dsimp only at hSw); go_simp <;> with_reducible rfl)
    try simp only [Act.put, List.setIfInBounds_toArray, List.set_cons_zero, List.set_cons_succ]
    refine wpAnyH_take (i := 20) (v := ?fv21) (by simp only [List.getElem?_toArray, List.getElem?_cons_zero, List.getElem?_cons_succ]; rfl) (by kernel_rfl) (by kernel_rfl) (by kernel_rfl) (fun _ _ _ h => h) (Or.inl ⟨by rfl, ?fh21⟩) hHeld1 ?fq21
    case fh21 => (intro w hSw; (try dsimp only at hSw); go_simp <;> with_reducible rfl)
    try simp only [Act.put, List.setIfInBounds_toArray, List.set_cons_zero, List.set_cons_succ]
    refine wpAnyH_take (i := 21) (v := ?fv22) (by simp only [List.getElem?_toArray, List.getElem?_cons_zero, List.getElem?_cons_succ]; rfl) (by kernel_rfl) (by kernel_rfl) (by kernel_rfl) (fun _ _ _ h => h) (Or.inl ⟨by rfl, ?fh22⟩) hHeld1 ?fq22
    case fh22 => (intro w hSw; (try dsimp only at hSw); go_simp <;> with_reducible rfl)
    try simp only [Act.put, List.setIfInBounds_toArray, List.set_cons_zero, List.set_cons_succ]
    refine wpAnyH_take (i := 22) (v := ?fv23) (by simp only [List.getElem?_toArray, List.getElem?_cons_zero, List.getElem?_cons_succ]; rfl) (by kernel_rfl) (by kernel_rfl) (by kernel_rfl) (fun _ _ _ h => h) (Or.inl ⟨by rfl, ?fh23⟩) hHeld1 ?fq23
    case fh23 => (intro w hSw; (try dsimp only at hSw); go_simp <;> with_reducible rfl)
    try simp only [Act.put, List.setIfInBounds_toArray, List.set_cons_zero, List.set_cons_succ]
    refine wpAnyH_take (i := 23) (v := ?fv24) (by simp only [List.getElem?_toArray, List.getElem?_cons_zero, List.getElem?_cons_succ]; rfl) (by kernel_rfl) (by kernel_rfl) (by kernel_rfl) (fun _ _ _ h => h) (Or.inl ⟨by rfl, ?fh24⟩) hHeld1 ?fq24
    case fh24 => (intro w hSw; (try dsimp only at hSw); go_simp <;> with_reducible rfl)
    try simp only [Act.put, List.setIfInBounds_toArray, List.set_cons_zero, List.set_cons_succ]
    refine wpAnyH_take (i := 24) (v := ?fv25) (by simp only [List.getElem?_toArray, List.getElem?_cons_zero, List.getElem?_cons_succ]; rfl) (by kernel_rfl) (by kernel_rfl) (by kernel_rfl) (fun _ _ _ h => h) (Or.inl ⟨by rfl, ?fh25⟩) hHeld1 ?fq25
    case fh25 => (intro w hSw; (try dsimp only at hSw); go_simp <;> with_reducible rfl)
    try simp only [Act.put, List.setIfInBounds_toArray, List.set_cons_zero, List.set_cons_succ]
    refine wpAnyH_take (i := 27) (v := ?fv26) (by simp only [List.getElem?_toArray, List.getElem?_cons_zero, List.getElem?_cons_succ]; rfl) (by kernel_rfl) (by kernel_rfl) (by kernel_rfl) (fun _ _ _ h => h) (Or.inl ⟨by rfl, ?fh26⟩) hHeld1 ?fq26
    case fh26 => (intro w hSw; (try dsimp only at hSw); go_simp <;> with_reducible rfl)
    try simp only [Act.put, List.setIfInBounds_toArray, List.set_cons_zero, List.set_cons_succ]
    refine wpAnyH_take (i := 28) (v := ?fv27) (by simp only [List.getElem?_toArray, List.getElem?_cons_zero, List.getElem?_cons_succ]; rfl) (by kernel_rfl) (by kernel_rfl) (by kernel_rfl) (fun _ _ _ h => h) (Or.inl ⟨by rfl, ?fh27⟩) hHeld1 ?fq27
    case fh27 => (intro w hSw; (try dsimp only at hSw); go_simp <;> with_reducible rfl)
    try simp only [Act.put, List.setIfInBounds_toArray, List.set_cons_zero, List.set_cons_succ]
    refine wpAnyH_take (i := 29) (v := ?fv28) (by simp only [List.getElem?_toArray, List.getElem?_cons_zero, List.getElem?_cons_succ]; rfl) (by kernel_rfl) (by kernel_rfl) (by kernel_rfl) (fun _ _ _ h => h) (Or.inl ⟨by rfl, ?fh28⟩) hHeld1 ?fq28
    case fh28 => (intro w hSw; (try dsimp only at hSw); go_simp <;> with_reducible rfl)
    try simp only [Act.put, List.setIfInBounds_toArray, List.set_cons_zero, List.set_cons_succ]
    refine wpAnyH_take (i := 30) (v := ?fv29) (by simp only [List.getElem?_toArray, List.getElem?_cons_zero, List.getElem?_cons_succ]; rfl) (by kernel_rfl) (by kernel_rfl) (by kernel_rfl) (fun _ _ _ h => h) (Or.inl ⟨by rfl, ?fh29⟩) hHeld1 ?fq29
    case fh29 => (intro w hSw; (try dsimp only at hSw); go_simp <;> with_reducible rfl)
    try simp only [Act.put, List.setIfInBounds_toArray, List.set_cons_zero, List.set_cons_succ]
    refine wpAnyH_take (i := 31) (v := ?fv30) (by simp only [List.getElem?_toArray, List.getElem?_cons_zero, List.getElem?_cons_succ]; rfl) (by kernel_rfl) (by kernel_rfl) (by kernel_rfl) (fun _ _ _ h => h) (Or.inl ⟨by rfl, ?fh30⟩) hHeld1 ?fq30
    case fh30 => (intro w hSw; (try dsimp only at hSw); go_simp <;> with_reducible rfl)
    try simp only [Act.put, List.setIfInBounds_toArray, List.set_cons_zero, List.set_cons_succ]
    refine wpAnyH_take (i := 32) (v := ?fv31) (by simp only [List.getElem?_toArray, List.getElem?_cons_zero, List.getElem?_cons_succ]; rfl) (by kernel_rfl) (by kernel_rfl) (by kernel_rfl) (fun _ _ _ h => h) (Or.inl ⟨by rfl, ?fh31⟩) hHeld1 ?fq31
    case fh31 => (intro w hSw; (try dsimp only at hSw); go_simp <;> with_reducible rfl)
    try simp only [Act.put, List.setIfInBounds_toArray, List.set_cons_zero, List.set_cons_succ]
    refine wpAnyH_take (i := 33) (v := ?fv32) (by simp only [List.getElem?_toArray, List.getElem?_cons_zero, List.getElem?_cons_succ]; rfl) (by kernel_rfl) (by kernel_rfl) (by kernel_rfl) (fun _ _ _ h => h) (Or.inl ⟨by rfl, ?fh32⟩) hHeld1 ?fq32
    case fh32 => (intro w hSw; (try dsimp only at hSw); go_simp <;> with_reducible rfl)
    try simp only [Act.put, List.setIfInBounds_toArray, List.set_cons_zero, List.set_cons_succ]
    refine wpAnyH_ready (rs := [25]) (by kernel_rfl) (by simp) ?_
    refine AllReadyH.cons (by simp only [List.getElem?_toArray, List.getElem?_cons_zero, List.getElem?_cons_succ]; rfl) (fun K hK => ?_) AllReadyH.nil
    go_simp
    go_at_call 13; refine (bytes_in w w7.drew b F7 _ HT7.out).mono ?_
    rintro r w8 ⟨A8, c8, rfl, hT8, hB8, hv8⟩
    have ct8 : (convert 22 9 (.slice A8 L.length c8)).run Tryd.prog w8 = .ok (.string ST) w8 := by rw [HST.out]; exact str_of (buf_reads hv8)
    have ca8 : (convert 22 9 (.slice A0 l0.length cap0)).run Tryd.prog w8 = .ok (.string SA) w8 := by rw [HSA.out]; exact str_of (R0.out.below hT8.below)
    have cb8 : (convert 22 9 (.slice A1 k cap1)).run Tryd.prog w8 = .ok (.string SB) w8 := by rw [HSB.out]; exact string_of_reads Tryd.underlying22 Tryd.underlying5 Tryd.underlying9 (take_reads (R1.out.below hT8.below) k hk1)
    have HT8 := Lib.hid hT8
    clear hT8 hB8 hv8
    refine hK.out _ _ ?fs33 (fun hHeld2 => ?fq33)
    case fs33 => (try dsimp only); exact ⟨ca8, cb8⟩
    clear hK K
    try simp only [Act.put, List.setIfInBounds_toArray, List.set_cons_zero, List.set_cons_succ]
    refine wpAnyH_mono (S' := (fun w' => (convert 22 9 (.slice A8 L.length c8)).run Tryd.prog w' = .ok (.string ST) w' ∧ (convert 22 9 (.slice A0 l0.length cap0)).run Tryd.prog w' = .ok (.string SA) w' ∧ (convert 22 9 (.slice A1 k cap1)).run Tryd.prog w' = .ok (.string SB) w')) (fun _ h => h.2) ?_
    have hHeld3 := And.intro ct8 hHeld2
    refine wpAnyH_take (i := 26) (v := ?fv34) (by simp only [List.getElem?_toArray, List.getElem?_cons_zero, List.getElem?_cons_succ]; rfl) (by kernel_rfl) (by kernel_rfl) (by kernel_rfl) (fun _ _ _ h => h) (Or.inl ⟨by rfl, ?fh34⟩) hHeld3 ?fq34
    case fh34 => (intro w hSw; (try dsimp only at hSw); go_simp <;> with_reducible rfl)
    try simp only [Act.put, List.setIfInBounds_toArray, List.set_cons_zero, List.set_cons_succ]
    refine wpAnyH_take (i := 34) (v := ?fv35) (by simp only [List.getElem?_toArray, List.getElem?_cons_zero, List.getElem?_cons_succ]; rfl) (by kernel_rfl) (by kernel_rfl) (by kernel_rfl) (fun _ _ _ h => h) (Or.inl ⟨by rfl, ?fh35⟩) hHeld3 ?fq35
    case fh35 => (intro w hSw; (try dsimp only at hSw); go_simp <;> with_reducible rfl)
    try simp only [Act.put, List.setIfInBounds_toArray, List.set_cons_zero, List.set_cons_succ]
    refine wpAnyH_take (i := 35) (v := ?fv36) (by simp only [List.getElem?_toArray, List.getElem?_cons_zero, List.getElem?_cons_succ]; rfl) (by kernel_rfl) (by kernel_rfl) (by kernel_rfl) (fun _ _ _ h => h) (Or.inl ⟨by rfl, ?fh36⟩) hHeld3 ?fq36
    case fh36 => (intro w hSw; (try dsimp only at hSw); go_simp <;> with_reducible rfl)
    try simp only [Act.put, List.setIfInBounds_toArray, List.set_cons_zero, List.set_cons_succ]
    refine wpAnyH_take (i := 36) (v := ?fv37) (by simp only [List.getElem?_toArray, List.getElem?_cons_zero, List.getElem?_cons_succ]; rfl) (by kernel_rfl) (by kernel_rfl) (by kernel_rfl) (fun _ _ _ h => h) (Or.inl ⟨by rfl, ?fh37⟩) hHeld3 ?fq37
    case fh37 => (intro w hSw; (try dsimp only at hSw); go_simp <;> with_reducible rfl)
    try simp only [Act.put, List.setIfInBounds_toArray, List.set_cons_zero, List.set_cons_succ]
    refine wpAnyH_done (by kernel_rfl) ?_ _
    refine NoPanic.normal ?_
    go_wp2
    go_ret
    exact ⟨rfl, HT8.out.below⟩
theorem fronts_row (a0 : Option Addr) (cap0 : Nat) (l0 : List Int) (a1 : Option Addr) (cap1 : Nat) (l1 : List Int) (a2 : Int) (w : World) (hg : Laid w)
    (hr0 : ReadsInt w .u8 a0 l0.length l0) (_ : l0.length ≤ cap0) (y0 : l0.length * 1 ≤ 140737488351232) (_ : ∀ x ∈ l0, (Lit.int .u8 x).wf = true) (hr1 : ReadsInt w .u8 a1 l1.length l1) (hc1 : l1.length ≤ cap1) (y1 : l1.length * 1 ≤ 140737488351232) (_ : ∀ x ∈ l1, (Lit.int .u8 x).wf = true) (_ : (Lit.int .i64 a2).wf = true) :
    Calls Tryd.prog 4 #[.slice a0 l0.length cap0, .slice a1 l1.length cap1, .int .i64 a2] w fun e w' => e = .returned (.bool true) ∧ Below w.heap.size w w' := fronts_any a0 cap0 l0 a1 cap1 l1 a2 w hg hr0 hr1 hc1 y0 y1
end Go.Proofs.YtjjlojaaefipmaaDoor
