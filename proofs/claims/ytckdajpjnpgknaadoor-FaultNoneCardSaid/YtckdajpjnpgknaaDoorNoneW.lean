/- The walk of FaultNone. -/
import Derived.Test.YtckdajpjnpgknaaDoorLawF
set_option linter.unusedVariables false
set_option linter.unusedSimpArgs false
namespace Go.Proofs.YtckdajpjnpgknaaDoor
open Go.RowKit Go.Proofs.Mine Go.Proofs.YtckdajpjnpgknaaDoorW.PrintWords

set_option maxHeartbeats 1000000 in
theorem isf_nil (m : Int) (w : World) : Calls Tryd.prog 18 #[.nilIface, .int .i64 m] w fun r w' => r = .returned (.bool (0 == m)) ∧ w = w' := by
  go_enter Tryd.func18, Tryd.ntmps18
  go_wp2_with (go_at_call 14
               refine (kind_nil _).mono ?_
               rintro r w1 ⟨rfl, rfl⟩)
  go_ret
  exact ⟨rfl, rfl⟩
set_option maxHeartbeats 2000000 in
theorem none_any (s : ByteArray) (wraps : Int) (w : World) (hg0 : Laid w) {P0 P1 : Prop} (hs : P0) (_ : P1) : Calls Tryd.prog 6 #[.string s, .int .i64 wraps] w fun e w' => e = .returned (.bool true) ∧ Below w.heap.size w w' := by
  have hg := Lib.hid hg0
  have h0 : 0 ≤ wraps % 20 := by omega
  have h1 : wraps % 20 < 20 := by omega
  clear hg0 hs
  by_cases hlong : 100 < s.size
  · go_enter Tryd.func6, Tryd.ntmps6
    go_wp2_with (go_at_call 9
                 refine (known_any _ hg.out).mono ?_
                 rintro e w1 ⟨rfl, hB⟩
                 have HB1 := Lib.hid hB
                 clear hB)
    go_ret
    exact ⟨rfl, HB1.out⟩
  · go_enter Tryd.func6, Tryd.ntmps6
    go_wp2_with (first
      | (go_at_call 9
         refine (known_any _ hg.out).mono ?_
         rintro e w1 ⟨rfl, hB⟩
         have HB1 := Lib.hid hB
         clear hB)
      | (go_at_call 10
         refine (new_zero _ _).mono ?_
         rintro e w2 ⟨rfl, rfl⟩))
    go_loopw [5, 6] (fun ev iv wr => ∃ k : Nat, k ≤ 20 ∧ iv = .int .i64 k ∧ ev = .nilIface ∧ Below w.heap.size w wr) (fun _ iv _ => 20 - (intOf iv).toNat)
    case atStart => exact ⟨0, by omega, rfl, rfl, HB1.out⟩
    case round =>
      obtain ⟨k, hk, rfl, rfl, hB⟩ := hrel
      have HB3 := Lib.hid hB
      clear hB HB1
      by_cases hlt : (k : Int) < wraps % 20
      · skip
        go_wp2_with (first
          | (go_at_call 15
             refine (within_any wraps 20 _ (by decide) (by decide)).mono ?_
             rintro e w3 ⟨rfl, rfl⟩)
          | (go_at_call 12
             refine (wrap_nil _ _).mono ?_
             rintro e w3 ⟨rfl, rfl⟩))
        exact ⟨⟨k + 1, by omega, by simp, rfl, HB3.out⟩, by simp [intOf]; omega⟩
      · skip
        go_wp2_with (first
          | (go_at_call 15
             refine (within_any wraps 20 _ (by decide) (by decide)).mono ?_
             rintro e w3 ⟨rfl, rfl⟩)
          | (go_at_call 14
             refine (kind_nil _).mono ?_
             rintro e w3 ⟨rfl, rfl⟩)
          | (go_at_call 13
             refine (where_nil _).mono ?_
             rintro e w4 ⟨rfl, hB⟩
             have HB4 := Lib.hid (HB3.out.trans (hB.mono HB3.out.size))
             clear hB)
          | (go_at_call 18
             refine (isf_nil _ _).mono ?_
             rintro e w5 ⟨rfl, rfl⟩))
        go_ret
        exact ⟨rfl, HB4.out⟩
end Go.Proofs.YtckdajpjnpgknaaDoor
