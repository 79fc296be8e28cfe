/- The walk of TapeReplaced. -/
import Derived.Test.YtjjlojaaefipmaaDoorFrontsL
set_option linter.unusedVariables false
set_option linter.unusedSimpArgs false
namespace Go.Proofs.YtjjlojaaefipmaaDoor
open Go.RowKit Go.Proofs.YtjjlojaaefipmaaDoorW.PrintWords Go.Proofs.Mine

set_option maxRecDepth 100000 in
set_option maxHeartbeats 1000000 in
theorem replaced_any (A0 : Option Addr) (cap0 : Nat) (l0 : List Int) (A1 : Option Addr) (cap1 : Nat) (l1 : List Int) (cut : Bool) (pick : Int) (w : World) (hg0 : Laid w) (hr0 : ReadsInt w .u8 A0 l0.length l0) (hr1 : ReadsInt w .u8 A1 l1.length l1) (hy0 : l0.length * 1 ≤ 140737488351232) (hy1 : l1.length * 1 ≤ 140737488351232) :
    Calls Tryd.prog 6 #[.slice A0 l0.length cap0, .slice A1 l1.length cap1, .bool cut, .int .i64 pick] w fun e w' => e = .returned (.bool true) ∧ Below w.heap.size w w' := by
  have HG := Lib.hid hg0
  have R0 := Lib.hid hr0
  have R1 := Lib.hid hr1
  clear hg0 hr0 hr1
  by_cases h5 : (500 : Int) < (l0.length : Int) + (l1.length : Int)
  · go_enter Tryd.func6, Tryd.ntmps6
    go_wp2_with (go_at_call 8; refine (known_any w HG.out).mono ?_; rintro e w1 ⟨rfl, hB⟩; have HB1 := Lib.hid hB; clear hB)
    go_ret
    exact ⟨rfl, HB1.out⟩
  have hb0 : l0.length ≤ 500 := by omega
  have hb1 : l1.length ≤ 500 := by omega
  obtain ⟨SA, hSA⟩ : ∃ z, z = strOfNums l0 := ⟨_, rfl⟩
  obtain ⟨SB, hSB⟩ : ∃ z, z = strOfNums l1 := ⟨_, rfl⟩
  have heA : (SA.toList == SA.toList) = true := by simp
  have heB : (SB.toList == SB.toList) = true := by simp
  have HSA := Lib.hid hSA
  have HSB := Lib.hid hSB
  clear hSA hSB
  cases cut
  · go_enter Tryd.func6, Tryd.ntmps6
    go_wp2_with (first
      | (go_at_call 8; refine (known_any w HG.out).mono ?_; rintro e w1 ⟨rfl, hB⟩; have HB1 := Lib.hid hB; clear hB)
      | (go_at_call 9; refine (new_ok 1000 w1 (by decide) (by decide)).mono ?_; rintro r w2 ⟨rfl, hw2⟩; have HI := in_new HG.out HB1.out 1000 (by decide) (by decide); rw [← hw2] at HI; have HT2 := Lib.hid HI; clear HI hw2; generalize w1.heap.size = b at *)
      | (go_at_call 10
         refine (append_arg A0 cap0 l0 w w2 b _ _ HT2.out (show (0 : Int) < 1000000000 by decide) R0.out (by omega)).mono ?_
         rintro r w3 ⟨rfl, F3, hT3, _, _⟩
         obtain ⟨e3, s3⟩ : appendE (new0 1000) l0 = 0 ∧ appendS (new0 1000) l0 = ⟨1000, l0, 0, 0, false, 1⟩ := apd_plain 1000 0 [] l0 0 (by show ((0 : Nat) : Int) + (l0.length : Int) ≤ 1000; omega)
         rw [s3] at hT3
         rw [e3]
         have HT3 := Lib.hid hT3
         clear hT3 e3 s3)
      | (go_at_call 11
         refine (sync_in w w3 b F3 _ HT3.out (show (1 : Int) < 1000000000 by decide)).mono ?_
         rintro r w4 ⟨rfl, F4, hT4, _, _⟩
         obtain ⟨e4, s4⟩ : _ ∧ syncS _ = ⟨1000, l0, l0.length, 0, false, 2⟩ := syn_plain 1000 1 l0 0 (by decide)
         rw [s4] at hT4
         rw [e4]
         have HT4 := Lib.hid hT4
         clear hT4 e4 s4)
      | (go_at_call 15
         refine (replace_arg A1 cap1 l1 w w4 b F4 _ HT4.out (show (2 : Int) < 1000000000 by decide) R1.out).mono ?_
         rintro r w6 ⟨rfl, F6, hT6, _, _⟩
         obtain ⟨e6, s6⟩ := rep_plain 1000 2 l0 l1 l0.length (by omega)
         rw [s6] at hT6
         rw [e6]
         have HT6 := Lib.hid (show TapeIn w b ⟨1000, l1, l1.length, 0, false, 3⟩ w6 F6 from hT6)
         clear hT6 e6 s6)
      | (go_at_call 12
         refine (crash_in pick w w6 b F6 _ HT6.out).mono ?_
         rintro r w7 ⟨rfl, F7, hT7, _, _⟩
         rw [crash_zero] at hT7
         rw [crashK_zero]
         have ca7 : (convert 22 9 (.slice A1 l1.length cap1)).run Tryd.prog w7.drew = .ok (.string SB) w7.drew := by rw [HSB.out]; exact str_of (W := w7.drew) (R1.out.below hT7.below.drew)
         have HT7 := Lib.hid (show TapeIn w b ⟨1000, l1, l1.length, 0, false, 3⟩ w7.drew F7 from ⟨hT7.at_, hT7.below.drew, hT7.laid, hT7.ok⟩)
         clear hT7))
    refine wp_region_noPanic ?_
    refine wp_region_held_drew (S := (fun w' => (convert 22 9 (.slice A1 l1.length cap1)).run Tryd.prog w' = .ok (.string SB) w')) (by kernel_rfl) ?ns0 (fun hHeld0 => ?nr0)
    case ns0 => (try dsimp only); exact ca7
    refine wpAnyH_take (i := 0) (v := ?nv1) (by simp only [List.getElem?_toArray, List.getElem?_cons_zero, List.getElem?_cons_succ]; rfl) (by kernel_rfl) (by kernel_rfl) (by kernel_rfl) (fun _ _ _ h => h) (Or.inl ⟨by rfl, ?nh1⟩) hHeld0 ?nq1
    case nh1 => (intro w hSw; (try dsimp only at hSw); go_simp <;> with_reducible rfl)
    try simp only [Act.put, List.setIfInBounds_toArray, List.set_cons_zero, List.set_cons_succ]
    refine wpAnyH_take (i := 1) (v := ?nv2) (by simp only [List.getElem?_toArray, List.getElem?_cons_zero, List.getElem?_cons_succ]; rfl) (by kernel_rfl) (by kernel_rfl) (by kernel_rfl) (fun _ _ _ h => h) (Or.inl ⟨by rfl, ?nh2⟩) hHeld0 ?nq2
    case nh2 => (intro w hSw; (try dsimp only at hSw); go_simp <;> with_reducible rfl)
    try simp only [Act.put, List.setIfInBounds_toArray, List.set_cons_zero, List.set_cons_succ]
    refine wpAnyH_take (i := 2) (v := ?nv3) (by simp only [List.getElem?_toArray, List.getElem?_cons_zero, List.getElem?_cons_succ]; rfl) (by kernel_rfl) (by kernel_rfl) (by kernel_rfl) (fun _ _ _ h => h) (Or.inl ⟨by rfl, ?nh3⟩) hHeld0 ?nq3
    case nh3 => (intro w hSw; (try dsimp only at hSw); go_simp <;> with_reducible rfl)
    try simp only [Act.put, List.setIfInBounds_toArray, List.set_cons_zero, List.set_cons_succ]
    refine wpAnyH_take (i := 3) (v := ?nv4) (by simp only [List.getElem?_toArray, List.getElem?_cons_zero, List.getElem?_cons_succ]; rfl) (by kernel_rfl) (by kernel_rfl) (by kernel_rfl) (fun _ _ _ h => h) (Or.inl ⟨by rfl, ?nh4⟩) hHeld0 ?nq4
    case nh4 => (intro w hSw; (try dsimp only at hSw); go_simp <;> with_reducible rfl)
    try simp only [Act.put, List.setIfInBounds_toArray, List.set_cons_zero, List.set_cons_succ]
    refine wpAnyH_take (i := 6) (v := ?nv5) (by simp only [List.getElem?_toArray, List.getElem?_cons_zero, List.getElem?_cons_succ]; rfl) (by kernel_rfl) (by kernel_rfl) (by kernel_rfl) (fun _ _ _ h => h) (Or.inl ⟨by rfl, ?nh5⟩) hHeld0 ?nq5
    case nh5 => (intro w hSw; (try dsimp only at hSw); go_simp <;> with_reducible rfl)
    try simp only [Act.put, List.setIfInBounds_toArray, List.set_cons_zero, List.set_cons_succ]
    refine wpAnyH_take (i := 7) (v := ?nv6) (by simp only [List.getElem?_toArray, List.getElem?_cons_zero, List.getElem?_cons_succ]; rfl) (by kernel_rfl) (by kernel_rfl) (by kernel_rfl) (fun _ _ _ h => h) (Or.inl ⟨by rfl, ?nh6⟩) hHeld0 ?nq6
    case nh6 => (intro w hSw; (try dsimp only at hSw); go_simp <;> with_reducible rfl)
    try simp only [Act.put, List.setIfInBounds_toArray, List.set_cons_zero, List.set_cons_succ]
    refine wpAnyH_ready (rs := [4]) (by kernel_rfl) (by simp) ?_
    refine AllReadyH.cons (by simp only [List.getElem?_toArray, List.getElem?_cons_zero, List.getElem?_cons_succ]; rfl) (fun K hK => ?_) AllReadyH.nil
    go_simp
    go_at_call 13; refine (bytes_in w w7.drew b F7 _ HT7.out).mono ?_
    rintro r w8 ⟨A8, c8, rfl, hT8, hB8, hv8⟩
    have ct8 : (convert 22 9 (.slice A8 l1.length c8)).run Tryd.prog w8 = .ok (.string SB) w8 := by rw [HSB.out]; exact str_of (buf_reads hv8)
    have ca8 : (convert 22 9 (.slice A1 l1.length cap1)).run Tryd.prog w8 = .ok (.string SB) w8 := by rw [HSB.out]; exact str_of (R1.out.below hT8.below)
    have HT8 := Lib.hid hT8
    clear hT8 hB8 hv8
    refine hK.out _ _ ?ns7 (fun hHeld1 => ?nq7)
    case ns7 => (try dsimp only); exact ca8
    clear hK K
    try simp only [Act.put, List.setIfInBounds_toArray, List.set_cons_zero, List.set_cons_succ]
    refine wpAnyH_mono (S' := (fun w' => (convert 22 9 (.slice A8 l1.length c8)).run Tryd.prog w' = .ok (.string SB) w' ∧ (convert 22 9 (.slice A1 l1.length cap1)).run Tryd.prog w' = .ok (.string SB) w')) (fun _ h => h.2) ?_
    have hHeld2 := And.intro ct8 ca8
    refine wpAnyH_take (i := 5) (v := ?nv8) (by simp only [List.getElem?_toArray, List.getElem?_cons_zero, List.getElem?_cons_succ]; rfl) (by kernel_rfl) (by kernel_rfl) (by kernel_rfl) (fun _ _ _ h => h) (Or.inl ⟨by rfl, ?nh8⟩) hHeld2 ?nq8
    case nh8 => (intro w hSw; (try dsimp only at hSw); go_simp <;> with_reducible rfl)
    try simp only [Act.put, List.setIfInBounds_toArray, List.set_cons_zero, List.set_cons_succ]
    refine wpAnyH_take (i := 8) (v := ?nv9) (by simp only [List.getElem?_toArray, List.getElem?_cons_zero, List.getElem?_cons_succ]; rfl) (by kernel_rfl) (by kernel_rfl) (by kernel_rfl) (fun _ _ _ h => h) (Or.inl ⟨by rfl, ?nh9⟩) hHeld2 ?nq9
    case nh9 => (intro w hSw; (try dsimp only at hSw); go_simp <;> with_reducible rfl)
    try simp only [Act.put, List.setIfInBounds_toArray, List.set_cons_zero, List.set_cons_succ]
    refine wpAnyH_take (i := 9) (v := ?nv10) (by simp only [List.getElem?_toArray, List.getElem?_cons_zero, List.getElem?_cons_succ]; rfl) (by kernel_rfl) (by kernel_rfl) (by kernel_rfl) (fun _ _ _ h => h) (Or.inl ⟨by rfl, ?nh10⟩) hHeld2 ?nq10
    case nh10 => (intro w hSw; (try dsimp only at hSw); go_simp <;> with_reducible rfl)
    try simp only [Act.put, List.setIfInBounds_toArray, List.set_cons_zero, List.set_cons_succ]
    refine wpAnyH_take (i := 10) (v := ?nv11) (by simp only [List.getElem?_toArray, List.getElem?_cons_zero, List.getElem?_cons_succ]; rfl) (by kernel_rfl) (by kernel_rfl) (by kernel_rfl) (fun _ _ _ h => h) (Or.inl ⟨by rfl, ?nh11⟩) hHeld2 ?nq11
    case nh11 => (intro w hSw; (try dsimp only at hSw); go_simp <;> with_reducible rfl)
    try simp only [Act.put, List.setIfInBounds_toArray, List.set_cons_zero, List.set_cons_succ]
    refine wpAnyH_done (by kernel_rfl) ?_ _
    refine NoPanic.normal ?_
    go_wp2
    go_ret
    exact ⟨rfl, HT8.out.below⟩
  · go_enter Tryd.func6, Tryd.ntmps6
    go_wp2_with (first
      | (go_at_call 8; refine (known_any w HG.out).mono ?_; rintro e w1 ⟨rfl, hB⟩; have HB1 := Lib.hid hB; clear hB)
      | (go_at_call 9; refine (new_ok 1000 w1 (by decide) (by decide)).mono ?_; rintro r w2 ⟨rfl, hw2⟩; have HI := in_new HG.out HB1.out 1000 (by decide) (by decide); rw [← hw2] at HI; have HT2 := Lib.hid HI; clear HI hw2; generalize w1.heap.size = b at *)
      | (go_at_call 10
         refine (append_arg A0 cap0 l0 w w2 b _ _ HT2.out (show (0 : Int) < 1000000000 by decide) R0.out (by omega)).mono ?_
         rintro r w3 ⟨rfl, F3, hT3, _, _⟩
         obtain ⟨e3, s3⟩ : appendE (new0 1000) l0 = 0 ∧ appendS (new0 1000) l0 = ⟨1000, l0, 0, 0, false, 1⟩ := apd_plain 1000 0 [] l0 0 (by show ((0 : Nat) : Int) + (l0.length : Int) ≤ 1000; omega)
         rw [s3] at hT3
         rw [e3]
         have HT3 := Lib.hid hT3
         clear hT3 e3 s3)
      | (go_at_call 11
         refine (sync_in w w3 b F3 _ HT3.out (show (1 : Int) < 1000000000 by decide)).mono ?_
         rintro r w4 ⟨rfl, F4, hT4, _, _⟩
         obtain ⟨e4, s4⟩ : _ ∧ syncS _ = ⟨1000, l0, l0.length, 0, false, 2⟩ := syn_plain 1000 1 l0 0 (by decide)
         rw [s4] at hT4
         rw [e4]
         have HT4 := Lib.hid hT4
         clear hT4 e4 s4)
      | (go_at_call 16
         refine (stop_in 1 w w4 b F4 _ HT4.out (by decide)).mono ?_
         rintro r w5 ⟨rfl, F5, hT5, _, _⟩
         have HT5 := Lib.hid (show TapeIn w b ⟨1000, l0, l0.length, 1, false, 2⟩ w5 F5 from hT5)
         clear hT5)
      | (go_at_call 15
         refine (replace_arg A1 cap1 l1 w w5 b F5 _ HT5.out (show (2 : Int) < 1000000000 by decide) R1.out).mono ?_
         rintro r w6 ⟨rfl, F6, hT6, _, _⟩
         obtain ⟨e6, s6⟩ := rep_stop 1000 2 l0 l1 l0.length (by omega)
         rw [s6] at hT6
         rw [e6]
         have HT6 := Lib.hid (show TapeIn w b ⟨1000, l0, l0.length, 0, true, 2⟩ w6 F6 from hT6)
         clear hT6 e6 s6)
      | (go_at_call 12
         refine (crash_in pick w w6 b F6 _ HT6.out).mono ?_
         rintro r w7 ⟨rfl, F7, hT7, _, _⟩
         rw [crash_zero] at hT7
         rw [crashK_zero]
         have ca7 : (convert 22 9 (.slice A0 l0.length cap0)).run Tryd.prog w7.drew = .ok (.string SA) w7.drew := by rw [HSA.out]; exact str_of (W := w7.drew) (R0.out.below hT7.below.drew)
         have HT7 := Lib.hid (show TapeIn w b ⟨1000, l0, l0.length, 0, false, 2⟩ w7.drew F7 from ⟨hT7.at_, hT7.below.drew, hT7.laid, hT7.ok⟩)
         clear hT7))
    refine wp_region_noPanic ?_
    refine wp_region_held_drew (S := (fun w' => (convert 22 9 (.slice A0 l0.length cap0)).run Tryd.prog w' = .ok (.string SA) w')) (by kernel_rfl) ?cs0 (fun hHeld0 => ?cr0)
    case cs0 => (try dsimp only); exact ca7
    refine wpAnyH_take (i := 0) (v := ?cv1) (by simp only [List.getElem?_toArray, List.getElem?_cons_zero, List.getElem?_cons_succ]; rfl) (by kernel_rfl) (by kernel_rfl) (by kernel_rfl) (fun _ _ _ h => h) (Or.inl ⟨by rfl, ?ch1⟩) hHeld0 ?cq1
    case ch1 => (intro w hSw; (try dsimp only at hSw); go_simp <;> with_reducible rfl)
    try simp only [Act.put, List.setIfInBounds_toArray, List.set_cons_zero, List.set_cons_succ]
    refine wpAnyH_take (i := 1) (v := ?cv2) (by simp only [List.getElem?_toArray, List.getElem?_cons_zero, List.getElem?_cons_succ]; rfl) (by kernel_rfl) (by kernel_rfl) (by kernel_rfl) (fun _ _ _ h => h) (Or.inl ⟨by rfl, ?ch2⟩) hHeld0 ?cq2
    case ch2 => (intro w hSw; (try dsimp only at hSw); go_simp <;> with_reducible rfl)
    try simp only [Act.put, List.setIfInBounds_toArray, List.set_cons_zero, List.set_cons_succ]
    refine wpAnyH_take (i := 2) (v := ?cv3) (by simp only [List.getElem?_toArray, List.getElem?_cons_zero, List.getElem?_cons_succ]; rfl) (by kernel_rfl) (by kernel_rfl) (by kernel_rfl) (fun _ _ _ h => h) (Or.inl ⟨by rfl, ?ch3⟩) hHeld0 ?cq3
    case ch3 => (intro w hSw; (try dsimp only at hSw); go_simp <;> with_reducible rfl)
    try simp only [Act.put, List.setIfInBounds_toArray, List.set_cons_zero, List.set_cons_succ]
    refine wpAnyH_take (i := 3) (v := ?cv4) (by simp only [List.getElem?_toArray, List.getElem?_cons_zero, List.getElem?_cons_succ]; rfl) (by kernel_rfl) (by kernel_rfl) (by kernel_rfl) (fun _ _ _ h => h) (Or.inl ⟨by rfl, ?ch4⟩) hHeld0 ?cq4
    case ch4 => (intro w hSw; (try dsimp only at hSw); go_simp <;> with_reducible rfl)
    try simp only [Act.put, List.setIfInBounds_toArray, List.set_cons_zero, List.set_cons_succ]
    refine wpAnyH_take (i := 6) (v := ?cv5) (by simp only [List.getElem?_toArray, List.getElem?_cons_zero, List.getElem?_cons_succ]; rfl) (by kernel_rfl) (by kernel_rfl) (by kernel_rfl) (fun _ _ _ h => h) (Or.inl ⟨by rfl, ?ch5⟩) hHeld0 ?cq5
    case ch5 => (intro w hSw; (try dsimp only at hSw); go_simp <;> with_reducible rfl)
    try simp only [Act.put, List.setIfInBounds_toArray, List.set_cons_zero, List.set_cons_succ]
    refine wpAnyH_take (i := 7) (v := ?cv6) (by simp only [List.getElem?_toArray, List.getElem?_cons_zero, List.getElem?_cons_succ]; rfl) (by kernel_rfl) (by kernel_rfl) (by kernel_rfl) (fun _ _ _ h => h) (Or.inl ⟨by rfl, ?ch6⟩) hHeld0 ?cq6
    case ch6 => (intro w hSw; (try dsimp only at hSw); go_simp <;> with_reducible rfl)
    try simp only [Act.put, List.setIfInBounds_toArray, List.set_cons_zero, List.set_cons_succ]
    refine wpAnyH_ready (rs := [4]) (by kernel_rfl) (by simp) ?_
    refine AllReadyH.cons (by simp only [List.getElem?_toArray, List.getElem?_cons_zero, List.getElem?_cons_succ]; rfl) (fun K hK => ?_) AllReadyH.nil
    go_simp
    go_at_call 13; refine (bytes_in w w7.drew b F7 _ HT7.out).mono ?_
    rintro r w8 ⟨A8, c8, rfl, hT8, hB8, hv8⟩
    have ct8 : (convert 22 9 (.slice A8 l0.length c8)).run Tryd.prog w8 = .ok (.string SA) w8 := by rw [HSA.out]; exact str_of (buf_reads hv8)
    have ca8 : (convert 22 9 (.slice A0 l0.length cap0)).run Tryd.prog w8 = .ok (.string SA) w8 := by rw [HSA.out]; exact str_of (R0.out.below hT8.below)
    have HT8 := Lib.hid hT8
    clear hT8 hB8 hv8
    refine hK.out _ _ ?cs7 (fun hHeld1 => ?cq7)
    case cs7 => (try dsimp only); exact ca8
    clear hK K
    try simp only [Act.put, List.setIfInBounds_toArray, List.set_cons_zero, List.set_cons_succ]
    refine wpAnyH_mono (S' := (fun w' => (convert 22 9 (.slice A8 l0.length c8)).run Tryd.prog w' = .ok (.string SA) w' ∧ (convert 22 9 (.slice A0 l0.length cap0)).run Tryd.prog w' = .ok (.string SA) w')) (fun _ h => h.2) ?_
    have hHeld2 := And.intro ct8 ca8
    refine wpAnyH_take (i := 5) (v := ?cv8) (by simp only [List.getElem?_toArray, List.getElem?_cons_zero, List.getElem?_cons_succ]; rfl) (by kernel_rfl) (by kernel_rfl) (by kernel_rfl) (fun _ _ _ h => h) (Or.inl ⟨by rfl, ?ch8⟩) hHeld2 ?cq8
    case ch8 => (intro w hSw; (try dsimp only at hSw); go_simp <;> with_reducible rfl)
    try simp only [Act.put, List.setIfInBounds_toArray, List.set_cons_zero, List.set_cons_succ]
    refine wpAnyH_take (i := 8) (v := ?cv9) (by simp only [List.getElem?_toArray, List.getElem?_cons_zero, List.getElem?_cons_succ]; rfl) (by kernel_rfl) (by kernel_rfl) (by kernel_rfl) (fun _ _ _ h => h) (Or.inl ⟨by rfl, ?ch9⟩) hHeld2 ?cq9
    case ch9 => (intro w hSw; (try dsimp only at hSw); go_simp <;> with_reducible rfl)
    try simp only [Act.put, List.setIfInBounds_toArray, List.set_cons_zero, List.set_cons_succ]
    refine wpAnyH_take (i := 9) (v := ?cv10) (by simp only [List.getElem?_toArray, List.getElem?_cons_zero, List.getElem?_cons_succ]; rfl) (by kernel_rfl) (by kernel_rfl) (by kernel_rfl) (fun _ _ _ h => h) (Or.inl ⟨by rfl, ?ch10⟩) hHeld2 ?cq10
    case ch10 => (intro w hSw; (try dsimp only at hSw); go_simp <;> with_reducible rfl)
    try simp only [Act.put, List.setIfInBounds_toArray, List.set_cons_zero, List.set_cons_succ]
    refine wpAnyH_take (i := 10) (v := ?cv11) (by simp only [List.getElem?_toArray, List.getElem?_cons_zero, List.getElem?_cons_succ]; rfl) (by kernel_rfl) (by kernel_rfl) (by kernel_rfl) (fun _ _ _ h => h) (Or.inl ⟨by rfl, ?ch11⟩) hHeld2 ?cq11
    case ch11 => (intro w hSw; (try dsimp only at hSw); go_simp <;> with_reducible rfl)
    try simp only [Act.put, List.setIfInBounds_toArray, List.set_cons_zero, List.set_cons_succ]
    refine wpAnyH_done (by kernel_rfl) ?_ _
    refine NoPanic.normal ?_
    go_wp2
    go_ret
    exact ⟨rfl, HT8.out.below⟩
theorem replaced_row (a0 : Option Addr) (cap0 : Nat) (l0 : List Int) (a1 : Option Addr) (cap1 : Nat) (l1 : List Int) (a2 : Bool) (a3 : Int) (w : World) (hg : Laid w)
    (hr0 : ReadsInt w .u8 a0 l0.length l0) (_ : l0.length ≤ cap0) (y0 : l0.length * 1 ≤ 140737488351232) (_ : ∀ x ∈ l0, (Lit.int .u8 x).wf = true) (hr1 : ReadsInt w .u8 a1 l1.length l1) (hc1 : l1.length ≤ cap1) (y1 : l1.length * 1 ≤ 140737488351232) (_ : ∀ x ∈ l1, (Lit.int .u8 x).wf = true) (_ : (Lit.int .i64 a3).wf = true) :
    Calls Tryd.prog 6 #[.slice a0 l0.length cap0, .slice a1 l1.length cap1, .bool a2, .int .i64 a3] w fun e w' => e = .returned (.bool true) ∧ Below w.heap.size w w' := replaced_any a0 cap0 l0 a1 cap1 l1 a2 a3 w hg hr0 hr1 y0 y1
end Go.Proofs.YtjjlojaaefipmaaDoor
