/- The walk of FaultBare. -/
import Derived.Test.YtckdajpjnpgknaaDoorWordsL
set_option linter.unusedVariables false
set_option linter.unusedSimpArgs false
namespace Go.Proofs.YtckdajpjnpgknaaDoor
open Go.RowKit Go.Proofs.Mine Go.Proofs.YtckdajpjnpgknaaDoorW.PrintWords

set_option maxHeartbeats 1000000 in
theorem esnew_any (t : ByteArray) (w : World) : Calls Tryd.prog 19 #[.string t] w fun e w' => ∃ a, e = .returned (.iface 63 (.pointer (some a))) ∧ Below w.heap.size w w' := by
  have HB := Lib.hid ((Below.refl w.heap.size w).alloc (Nat.le_refl _) (.cells #[.string t] 65))
  go_enter Tryd.func19, Tryd.ntmps19
  go_wp2
  go_ret
  exact ⟨_, rfl, HB.out⟩
set_option maxHeartbeats 4000000 in
theorem bare_any (n : Int) (t s : ByteArray) (w : World) (hg0 : Laid w) {P0 : Prop} (_ : P0) (ht : t.size ≤ 140737488351232) (hs : s.size ≤ 140737488351232) : Calls Tryd.prog 8 #[.int .i64 n, .string t, .string s] w fun e w' => e = .returned (.bool true) ∧ Below w.heap.size w w' := by
  have hg := Lib.hid hg0
  clear hg0
  by_cases hlong : 200 < t.size + s.size
  · have hl' : (200 : Int) < (t.size : Int) + s.size := by omega
    go_enter Tryd.func8, Tryd.ntmps8
    go_wp2_with (go_at_call 9
                 refine (known_any _ hg.out).mono ?_
                 rintro e w1 ⟨rfl, hB⟩
                 have HB := Lib.hid hB
                 replace hg := Lib.hid (hg.out.below hB)
                 clear hB)
    go_ret
    exact ⟨rfl, HB.out⟩
  · have hl' : ¬ (200 : Int) < (t.size : Int) + s.size := by omega
    go_enter Tryd.func8, Tryd.ntmps8
    go_wp2_with (first
      | (go_at_call 9
         refine (known_any _ hg.out).mono ?_
         rintro e w1 ⟨rfl, hB⟩
         have HB := Lib.hid hB
         replace hg := Lib.hid (hg.out.below hB)
         clear hB)
      | (go_at_call 11
         refine (number_any _ _).mono ?_
         rintro e w2 ⟨rfl, rfl⟩)
      | (go_at_call 19
         refine (esnew_any _ _).mono ?_
         rintro e w2 ⟨ea, rfl, hB⟩
         replace hg := Lib.hid (hg.out.below hB)
         replace HB := Lib.hid (HB.out.trans (hB.mono HB.out.size))
         clear hB)
      | (go_at_call 13
         have cm0 := cm
         refine (where_num (numb n) _ hg.out).mono ?_
         rintro e w7 ⟨rfl, hB⟩
         replace hg := Lib.hid (hg.out.below hB)
         replace HB := Lib.hid (HB.out.trans (hB.mono HB.out.size))
         replace cl := pw_cell_below hB cl
         replace cm := pw_cell_below hB cm
         clear hB cm0)
      | (go_at_call 13
         have hy0 := HY.out
         refine (where_at by_ [s] (.es ea) _ hg.out HY.out (by simp) (by simp)).mono ?_
         rintro e w6 ⟨v6, rfl, hR, hB⟩
         obtain ⟨gm, cpm, rfl, _, _, _, hc⟩ := str_row hR (by simp)
         have cm := (hc 0 (by simp)).1
         replace hg := Lib.hid (hg.out.below hB)
         replace HB := Lib.hid (HB.out.trans (hB.mono HB.out.size))
         replace cl := pw_cell_below hB cl
         clear hR hB hc HY hy0)
      | (go_at_call 13
         refine (where_at bx [s] (.num (numb n)) _ hg.out HX.out (by simp) (by simp)).mono ?_
         rintro e w4 ⟨v4, rfl, hR, hB⟩
         obtain ⟨gl, cpl, rfl, _, _, _, hc⟩ := str_row hR (by simp)
         have cl := (hc 0 (by simp)).1
         replace hg := Lib.hid (hg.out.below hB)
         replace HB := Lib.hid (HB.out.trans (hB.mono HB.out.size))
         clear hR hB hc HX)
      | (go_at_call 12
         have cm0 := cm
         refine (wrap_es s ea _ hg.out trivial).mono ?_
         rintro e w8 ⟨bz, rfl, hA, hB⟩
         replace hg := Lib.hid (hg.out.below hB)
         replace HB := Lib.hid (HB.out.trans (hB.mono HB.out.size))
         replace cl := pw_cell_below hB cl
         replace cm := pw_cell_below hB cm
         have HZ := Lib.hid hA
         clear hA hB cm0)
      | (go_at_call 12
         have cl0 := cl
         refine (wrap_es s ea _ hg.out trivial).mono ?_
         rintro e w5 ⟨by_, rfl, hA, hB⟩
         replace hg := Lib.hid (hg.out.below hB)
         replace HB := Lib.hid (HB.out.trans (hB.mono HB.out.size))
         replace cl := pw_cell_below hB cl
         have HY := Lib.hid hA
         clear hA hB cl0)
      | (go_at_call 12
         refine (wrap_num s (numb n) _ hg.out (numb_ne n)).mono ?_
         rintro e w3 ⟨bx, rfl, hA, hB⟩
         replace hg := Lib.hid (hg.out.below hB)
         replace HB := Lib.hid (HB.out.trans (hB.mono HB.out.size))
         have HX := Lib.hid hA
         clear hA hB)
      | (go_at_call 14
         have hz0 := HZ.out
         refine (kind_v (Er.at bz [s] (.es ea)) 12 _ _ hg.out hz0 rfl (by rfl)).mono ?_
         rintro e w9 ⟨rfl, hB⟩
         replace hg := Lib.hid (hg.out.below hB)
         replace HB := Lib.hid (HB.out.trans (hB.mono HB.out.size))
         replace cl := pw_cell_below hB cl
         replace cm := pw_cell_below hB cm
         clear hB hz0)
      | (go_at_call 14
         first | refine (kind_v (Er.base (.num (numb n))) (numb n) _ _ hg.out (numb_ne n) rfl (by rfl)).mono ?_ | refine (kind_v (Er.base (.es ea)) 12 _ _ hg.out trivial rfl (by rfl)).mono ?_
         rintro e w9 ⟨rfl, hB⟩
         replace hg := Lib.hid (hg.out.below hB)
         replace HB := Lib.hid (HB.out.trans (hB.mono HB.out.size))
         replace cl := pw_cell_below hB cl
         replace cm := pw_cell_below hB cm
         clear hB)
      | (go_at_call 18
         refine (isf_v (Er.base (.es ea)) 12 _ _ _ hg.out trivial rfl (by rfl)).mono ?_
         rintro e w9 ⟨rfl, hB⟩
         replace hg := Lib.hid (hg.out.below hB)
         replace HB := Lib.hid (HB.out.trans (hB.mono HB.out.size))
         clear hB))
    go_ret
    exact ⟨rfl, HB.out⟩
end Go.Proofs.YtckdajpjnpgknaaDoor
