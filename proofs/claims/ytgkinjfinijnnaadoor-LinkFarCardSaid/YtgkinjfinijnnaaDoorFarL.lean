/- The walk of LinkFar. -/
import Derived.Test.YtgkinjfinijnnaaDoorFarP
set_option linter.unusedVariables false
set_option linter.unusedSimpArgs false
namespace Go.Proofs.YtgkinjfinijnnaaDoor
open Go.RowKit Go.Proofs.YtgkinjfinijnnaaDoorW.PrintWords Go.Proofs.Mine

set_option maxRecDepth 100000 in
set_option maxHeartbeats 1000000 in
theorem far_low (top back : Int) (w : World) (hg : Laid w) {a v E : Int} (ha : top % 100000 = a) (hv : back % 600 = v) (ha0 : 0 ≤ a) (ha1 : a < 100000) (hv0 : 0 ≤ v) (hv1 : v < 600) (hE : mayE ((far2 (1 + a)).peers 5) 3 (1 + a - v) = E)
    (h1 : 1 + a - v < 1) (he : E = 1) :
    Calls Tryd.prog 3 #[.int .i64 top, .int .i64 back] w fun e w' => e = .returned (.bool true) ∧ Below w.heap.size w w' := by
  have HG := Lib.hid hg
  have HA := Lib.hid ha
  have HV := Lib.hid hv
  have ht : 1 ≤ 1 + a := by omega
  have ht2 : 1 + a ≤ 1000000 := by omega
  have M1 := Lib.hid (far_take1 ht)
  have ME := Lib.hid hE
  have hnt : 1 + a - v ≤ 1 + a := by omega
  have K2 := Lib.hid (far_keys (n := 1 + a - v) ht hnt)
  have h20 : 0 ≤ ((far2 (1 + a)).peers 5).most ∧ ((far2 (1 + a)).peers 5).most ≤ 1000000 := by
    rw [far_peer2, pF_eq ht]; exact ⟨by show (0 : Int) ≤ 1 + a; omega, ht2⟩
  have H20 := Lib.hid h20
  have hn2 : 1 + a - v ≤ 1000000 := by omega
  clear hg ha hv hE h20 hnt
  subst he
  go_enter Tryd.func3, Tryd.ntmps3
  go_wp2_with (first
      | (go_at_call 7; refine (known_any _ HG.out).mono ?_; rintro e w1 ⟨rfl, hB⟩; have HB1 := Lib.hid hB; clear hB)
      | (go_at_call 8; refine (within_any _ _ _ (by decide) (by decide)).mono ?_; rintro e W' ⟨rfl, rfl⟩; first | rw [HA.out] | rw [HV.out])
      | (go_at_call 9; refine (new_link 0 1 _).mono ?_; rintro e w2 ⟨rfl, hw1⟩; have T1 := Lib.hid (link_new 0 1 HB1.out); rw [← hw1] at T1; clear hw1)
      | (have t3 := T2.out; go_at_call 10; refine (take_in 5 3 (1 + a - v) HG.out t3 H20.out.1 H20.out.2 (show (0 : Int) ≤ 0 by decide) (show (0 : Int) ≤ 1000000 by decide) hn2 (fun _ => by rw [far_peer2]; exact K2.out)).mono ?_; rintro e w4 ⟨rfl, F4, hT4, _, _⟩; have T4 := Lib.hid hT4; clear hT4 t3; rw [ME.out])
      | (go_at_call 10; refine (take_in 5 3 (1 + a) HG.out T1.out (by decide) (by decide) (by decide) (by decide) ht2 (fun _ x v h => by cases h)).mono ?_; rintro e w3 ⟨rfl, F3, hT3, _, _⟩; rw [M1.out.2] at hT3; have T2 := Lib.hid hT3; clear hT3; rw [M1.out.1]))
  go_ret
  exact ⟨rfl, T4.out.2⟩
set_option maxRecDepth 100000 in
set_option maxHeartbeats 1000000 in
theorem far_top (top back : Int) (w : World) (hg : Laid w) {a v E : Int} (ha : top % 100000 = a) (hv : back % 600 = v) (ha0 : 0 ≤ a) (ha1 : a < 100000) (hv0 : 0 ≤ v) (hv1 : v < 600) (hE : mayE ((far2 (1 + a)).peers 5) 3 (1 + a - v) = E)
    (h1 : 1 ≤ 1 + a - v) (h2 : v = 0) (he : E = 7) :
    Calls Tryd.prog 3 #[.int .i64 top, .int .i64 back] w fun e w' => e = .returned (.bool true) ∧ Below w.heap.size w w' := by
  have HG := Lib.hid hg
  have HA := Lib.hid ha
  have HV := Lib.hid hv
  have ht : 1 ≤ 1 + a := by omega
  have ht2 : 1 + a ≤ 1000000 := by omega
  have M1 := Lib.hid (far_take1 ht)
  have ME := Lib.hid hE
  have hnt : 1 + a - v ≤ 1 + a := by omega
  have K2 := Lib.hid (far_keys (n := 1 + a - v) ht hnt)
  have h20 : 0 ≤ ((far2 (1 + a)).peers 5).most ∧ ((far2 (1 + a)).peers 5).most ≤ 1000000 := by
    rw [far_peer2, pF_eq ht]; exact ⟨by show (0 : Int) ≤ 1 + a; omega, ht2⟩
  have H20 := Lib.hid h20
  have hn2 : 1 + a - v ≤ 1000000 := by omega
  clear hg ha hv hE h20 hnt
  subst he
  have hz : (v == 0) = true := by simp [h2]
  clear h2
  go_enter Tryd.func3, Tryd.ntmps3
  go_wp2_with (first
      | (go_at_call 7; refine (known_any _ HG.out).mono ?_; rintro e w1 ⟨rfl, hB⟩; have HB1 := Lib.hid hB; clear hB)
      | (go_at_call 8; refine (within_any _ _ _ (by decide) (by decide)).mono ?_; rintro e W' ⟨rfl, rfl⟩; first | rw [HA.out] | rw [HV.out])
      | (go_at_call 9; refine (new_link 0 1 _).mono ?_; rintro e w2 ⟨rfl, hw1⟩; have T1 := Lib.hid (link_new 0 1 HB1.out); rw [← hw1] at T1; clear hw1)
      | (have t3 := T2.out; go_at_call 10; refine (take_in 5 3 (1 + a - v) HG.out t3 H20.out.1 H20.out.2 (show (0 : Int) ≤ 0 by decide) (show (0 : Int) ≤ 1000000 by decide) hn2 (fun _ => by rw [far_peer2]; exact K2.out)).mono ?_; rintro e w4 ⟨rfl, F4, hT4, _, _⟩; have T4 := Lib.hid hT4; clear hT4 t3; rw [ME.out])
      | (go_at_call 10; refine (take_in 5 3 (1 + a) HG.out T1.out (by decide) (by decide) (by decide) (by decide) ht2 (fun _ x v h => by cases h)).mono ?_; rintro e w3 ⟨rfl, F3, hT3, _, _⟩; rw [M1.out.2] at hT3; have T2 := Lib.hid hT3; clear hT3; rw [M1.out.1]))
  go_ret
  exact ⟨rfl, T4.out.2⟩
set_option maxRecDepth 100000 in
set_option maxHeartbeats 1000000 in
theorem far_deep (top back : Int) (w : World) (hg : Laid w) {a v E : Int} (ha : top % 100000 = a) (hv : back % 600 = v) (ha0 : 0 ≤ a) (ha1 : a < 100000) (hv0 : 0 ≤ v) (hv1 : v < 600) (hE : mayE ((far2 (1 + a)).peers 5) 3 (1 + a - v) = E)
    (h1 : 1 ≤ 1 + a - v) (h2 : 256 ≤ v) (he : E = 7) :
    Calls Tryd.prog 3 #[.int .i64 top, .int .i64 back] w fun e w' => e = .returned (.bool true) ∧ Below w.heap.size w w' := by
  have HG := Lib.hid hg
  have HA := Lib.hid ha
  have HV := Lib.hid hv
  have ht : 1 ≤ 1 + a := by omega
  have ht2 : 1 + a ≤ 1000000 := by omega
  have M1 := Lib.hid (far_take1 ht)
  have ME := Lib.hid hE
  have hnt : 1 + a - v ≤ 1 + a := by omega
  have K2 := Lib.hid (far_keys (n := 1 + a - v) ht hnt)
  have h20 : 0 ≤ ((far2 (1 + a)).peers 5).most ∧ ((far2 (1 + a)).peers 5).most ≤ 1000000 := by
    rw [far_peer2, pF_eq ht]; exact ⟨by show (0 : Int) ≤ 1 + a; omega, ht2⟩
  have H20 := Lib.hid h20
  have hn2 : 1 + a - v ≤ 1000000 := by omega
  clear hg ha hv hE h20 hnt
  subst he
  have hz : (v == 0) = false := by simp; omega
  have hd : decide (256 ≤ v) = true := by simp [h2]
  go_enter Tryd.func3, Tryd.ntmps3
  go_wp2_with (first
      | (go_at_call 7; refine (known_any _ HG.out).mono ?_; rintro e w1 ⟨rfl, hB⟩; have HB1 := Lib.hid hB; clear hB)
      | (go_at_call 8; refine (within_any _ _ _ (by decide) (by decide)).mono ?_; rintro e W' ⟨rfl, rfl⟩; first | rw [HA.out] | rw [HV.out])
      | (go_at_call 9; refine (new_link 0 1 _).mono ?_; rintro e w2 ⟨rfl, hw1⟩; have T1 := Lib.hid (link_new 0 1 HB1.out); rw [← hw1] at T1; clear hw1)
      | (have t3 := T2.out; go_at_call 10; refine (take_in 5 3 (1 + a - v) HG.out t3 H20.out.1 H20.out.2 (show (0 : Int) ≤ 0 by decide) (show (0 : Int) ≤ 1000000 by decide) hn2 (fun _ => by rw [far_peer2]; exact K2.out)).mono ?_; rintro e w4 ⟨rfl, F4, hT4, _, _⟩; have T4 := Lib.hid hT4; clear hT4 t3; rw [ME.out])
      | (go_at_call 10; refine (take_in 5 3 (1 + a) HG.out T1.out (by decide) (by decide) (by decide) (by decide) ht2 (fun _ x v h => by cases h)).mono ?_; rintro e w3 ⟨rfl, F3, hT3, _, _⟩; rw [M1.out.2] at hT3; have T2 := Lib.hid hT3; clear hT3; rw [M1.out.1]))
  go_ret
  exact ⟨rfl, T4.out.2⟩
set_option maxRecDepth 100000 in
set_option maxHeartbeats 1000000 in
theorem far_near (top back : Int) (w : World) (hg : Laid w) {a v E : Int} (ha : top % 100000 = a) (hv : back % 600 = v) (ha0 : 0 ≤ a) (ha1 : a < 100000) (hv0 : 0 ≤ v) (hv1 : v < 600) (hE : mayE ((far2 (1 + a)).peers 5) 3 (1 + a - v) = E)
    (h1 : 1 ≤ 1 + a - v) (h2 : 1 ≤ v) (h3 : v < 256) (he : E = 0) :
    Calls Tryd.prog 3 #[.int .i64 top, .int .i64 back] w fun e w' => e = .returned (.bool true) ∧ Below w.heap.size w w' := by
  have HG := Lib.hid hg
  have HA := Lib.hid ha
  have HV := Lib.hid hv
  have ht : 1 ≤ 1 + a := by omega
  have ht2 : 1 + a ≤ 1000000 := by omega
  have M1 := Lib.hid (far_take1 ht)
  have ME := Lib.hid hE
  have hnt : 1 + a - v ≤ 1 + a := by omega
  have K2 := Lib.hid (far_keys (n := 1 + a - v) ht hnt)
  have h20 : 0 ≤ ((far2 (1 + a)).peers 5).most ∧ ((far2 (1 + a)).peers 5).most ≤ 1000000 := by
    rw [far_peer2, pF_eq ht]; exact ⟨by show (0 : Int) ≤ 1 + a; omega, ht2⟩
  have H20 := Lib.hid h20
  have hn2 : 1 + a - v ≤ 1000000 := by omega
  clear hg ha hv hE h20 hnt
  subst he
  have M3 := Lib.hid (far_take2 ME.out)
  have M4 := Lib.hid (far_take3 ht h1)
  have K3 := Lib.hid (far_keys2 ht (show 1 + a - v ≤ 1 + a by omega) (show 1 + a < 1 + a - v + 256 by omega))
  have h30 : 0 ≤ ((far3 (1 + a) (1 + a - v)).peers 5).most ∧ ((far3 (1 + a) (1 + a - v)).peers 5).most ≤ 1000000 := by
    rw [far_peer3, far_most ht (show 1 + a - v ≤ 1 + a by omega)]; exact ⟨by show (0 : Int) ≤ 1 + a; omega, ht2⟩
  have H30 := Lib.hid h30
  have h4 : takeL (far3 (1 + a) (1 + a - v)) 5 3 (1 + a - v) = refuseL (far3 (1 + a) (1 + a - v)) := by
    unfold takeL; rw [if_neg (by rw [M4.out]; decide)]
  have H4 := Lib.hid h4
  have h5 : (refuseL (far3 (1 + a) (1 + a - v))).peers 6 = pr0 := far_peer6 (1 + a) (1 + a - v)
  have H5 := Lib.hid h5
  have h6 : mayE ((refuseL (far3 (1 + a) (1 + a - v))).peers 6) 1 (1 + a - v) = 0 := by rw [h5]; exact may_new (by decide) h1
  have H6 := Lib.hid h6
  have hz : (v == 0) = false := by simp; omega
  have hd : decide (256 ≤ v) = false := by simp; omega
  clear h30 h4 h5 h6
  go_enter Tryd.func3, Tryd.ntmps3
  go_wp2_with (first
      | (go_at_call 7; refine (known_any _ HG.out).mono ?_; rintro e w1 ⟨rfl, hB⟩; have HB1 := Lib.hid hB; clear hB)
      | (go_at_call 8; refine (within_any _ _ _ (by decide) (by decide)).mono ?_; rintro e W' ⟨rfl, rfl⟩; first | rw [HA.out] | rw [HV.out])
      | (go_at_call 9; refine (new_link 0 1 _).mono ?_; rintro e w2 ⟨rfl, hw1⟩; have T1 := Lib.hid (link_new 0 1 HB1.out); rw [← hw1] at T1; clear hw1)
      | (have t5 := T5.out; go_at_call 10; refine (take_in 6 1 (1 + a - v) HG.out t5 (by rw [H5.out]; decide) (by rw [H5.out]; decide) (show (0 : Int) ≤ 1 by decide) (show (1 : Int) ≤ 1000000 by decide) hn2 (fun _ => by rw [H5.out]; exact fun x v h => by cases h)).mono ?_; rintro e w6 ⟨rfl, F6, hT6, _, _⟩; have T6 := Lib.hid hT6; clear hT6 t5; rw [H6.out])
      | (have t4 := T4.out; go_at_call 10; rw [M3.out] at t4; refine (take_in 5 3 (1 + a - v) HG.out t4 H30.out.1 H30.out.2 (show (0 : Int) ≤ 0 by decide) (show (0 : Int) ≤ 1000000 by decide) hn2 (fun _ => K3.out)).mono ?_; rintro e w5 ⟨rfl, F5, hT5, _, _⟩; rw [H4.out] at hT5; have T5 := Lib.hid hT5; clear hT5 t4; rw [M4.out])
      | (have t3 := T2.out; go_at_call 10; refine (take_in 5 3 (1 + a - v) HG.out t3 H20.out.1 H20.out.2 (show (0 : Int) ≤ 0 by decide) (show (0 : Int) ≤ 1000000 by decide) hn2 (fun _ => by rw [far_peer2]; exact K2.out)).mono ?_; rintro e w4 ⟨rfl, F4, hT4, _, _⟩; have T4 := Lib.hid hT4; clear hT4 t3; rw [ME.out])
      | (go_at_call 10; refine (take_in 5 3 (1 + a) HG.out T1.out (by decide) (by decide) (by decide) (by decide) ht2 (fun _ x v h => by cases h)).mono ?_; rintro e w3 ⟨rfl, F3, hT3, _, _⟩; rw [M1.out.2] at hT3; have T2 := Lib.hid hT3; clear hT3; rw [M1.out.1]))
  go_ret
  exact ⟨rfl, T6.out.2⟩
theorem linkFar_any (top back : Int) (w : World) (hg : Laid w) :
    Calls Tryd.prog 3 #[.int .i64 top, .int .i64 back] w fun e w' => e = .returned (.bool true) ∧ Below w.heap.size w w' := by
  have ha0 := Int.emod_nonneg top (show (100000 : Int) ≠ 0 by decide)
  have ha1 := Int.emod_lt_of_pos top (show (0 : Int) < 100000 by decide)
  have hv0 := Int.emod_nonneg back (show (600 : Int) ≠ 0 by decide)
  have hv1 := Int.emod_lt_of_pos back (show (0 : Int) < 600 by decide)
  obtain ⟨a, ha⟩ : ∃ a, top % 100000 = a := ⟨_, rfl⟩
  obtain ⟨v, hv⟩ : ∃ v, back % 600 = v := ⟨_, rfl⟩
  rw [ha] at ha0 ha1
  rw [hv] at hv0 hv1
  have hm := may_far (t := 1 + a) (n := 1 + a - v) (by omega) (by omega)
  rw [← far_peer2] at hm
  by_cases c1 : 1 + a - v < 1
  · exact far_low top back w hg ha hv ha0 ha1 hv0 hv1 hm c1 (if_pos c1)
  · rw [if_neg c1] at hm
    by_cases c2 : v = 0
    · exact far_top top back w hg ha hv ha0 ha1 hv0 hv1 hm (by omega) c2 (if_pos (.inl (by omega)))
    · by_cases c3 : 256 ≤ v
      · exact far_deep top back w hg ha hv ha0 ha1 hv0 hv1 hm (by omega) c3 (if_pos (.inr (by omega)))
      · exact far_near top back w hg ha hv ha0 ha1 hv0 hv1 hm (by omega) (by omega) (by omega) (if_neg (by omega))
theorem linkFar_row (a0 a1 : Int) (W : World) (hg : Laid W) (_ : (Lit.int .i64 a0).wf = true) (_ : (Lit.int .i64 a1).wf = true) :
    Calls Tryd.prog 3 #[.int .i64 a0, .int .i64 a1] W fun e W' => e = .returned (.bool true) ∧ Below W.heap.size W W' := linkFar_any a0 a1 W hg
end Go.Proofs.YtgkinjfinijnnaaDoor
