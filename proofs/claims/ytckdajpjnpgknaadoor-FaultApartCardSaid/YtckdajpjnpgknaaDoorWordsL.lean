/- The same contracts for a walk that meets several errors; the walk of FaultWords. -/
import Derived.Test.YtckdajpjnpgknaaDoorLawF
set_option linter.unusedVariables false
set_option linter.unusedSimpArgs false
namespace Go.Proofs.YtckdajpjnpgknaaDoor
open Go.RowKit Go.Proofs.Mine Go.Proofs.YtckdajpjnpgknaaDoorW.PrintWords

theorem kind_v (e : Er) (r : Int) (v : Value) (w : World) (hg : Laid w) (he : e.ok w) (hr : e.k.kind = r) (hv : v = e.v) : Calls Tryd.prog 14 #[v] w fun e w' => e = .returned (.int .i64 r) ∧ Below w.heap.size w w' := by
  subst hv
  subst hr
  exact kind_er e w hg he
theorem isf_v (e : Er) (r : Int) (v : Value) (m : Int) (w : World) (hg : Laid w) (he : e.ok w) (hr : e.k.kind = r) (hv : v = e.v) : Calls Tryd.prog 18 #[v, .int .i64 m] w fun e w' => e = .returned (.bool (r == m)) ∧ Below w.heap.size w w' := by
  subst hv
  subst hr
  exact isf_er e m w hg he
set_option maxHeartbeats 4000000 in
theorem words_any (n m : Int) (a b : ByteArray) (w : World) (hg0 : Laid w) {P0 P1 : Prop} (_ : P0) (_ : P1) (ha : a.size ≤ 140737488351232) (hb : b.size ≤ 140737488351232) : Calls Tryd.prog 7 #[.int .i64 n, .int .i64 m, .string a, .string b] w fun e w' => e = .returned (.bool true) ∧ Below w.heap.size w w' := by
  have hg := Lib.hid hg0
  clear hg0
  have hn0 : (numb n == 0) = false := by simp [numb_ne n]
  have hm0 : (numb m == 0) = false := by simp [numb_ne m]
  by_cases hlong : 200 < a.size + b.size
  · have hl' : (200 : Int) < (a.size : Int) + b.size := by omega
    go_enter Tryd.func7, Tryd.ntmps7
    go_wp2_with (go_at_call 9
                 refine (known_any _ hg.out).mono ?_
                 rintro e w1 ⟨rfl, hB⟩
                 have HB := Lib.hid hB
                 replace hg := Lib.hid (hg.out.below hB)
                 clear hB)
    go_ret
    exact ⟨rfl, HB.out⟩
  · have hl' : ¬ (200 : Int) < (a.size : Int) + b.size := by omega
    go_enter Tryd.func7, Tryd.ntmps7
    go_wp2_with (first
      | (go_at_call 9
         refine (known_any _ hg.out).mono ?_
         rintro e w1 ⟨rfl, hB⟩
         have HB := Lib.hid hB
         replace hg := Lib.hid (hg.out.below hB)
         clear hB)
      | (go_at_call 11
         refine (number_any _ _).mono ?_
         rintro e w2 ⟨rfl, rfl⟩)
      | (go_at_call 10
         have hx := HX.out
         refine (new_any a (numb m) _ (numb_ne m)).mono ?_
         rintro e w3 ⟨b1, rfl, hA, hB⟩
         replace HX := Lib.hid (AtIs.below HX.out hB)
         have HZ := Lib.hid hA
         replace hg := Lib.hid (hg.out.below hB)
         replace HB := Lib.hid (HB.out.trans (hB.mono HB.out.size))
         clear hA hB hx)
      | (go_at_call 10
         refine (new_any a (numb n) _ (numb_ne n)).mono ?_
         rintro e w3 ⟨bx, rfl, hA, hB⟩
         have HX := Lib.hid hA
         replace hg := Lib.hid (hg.out.below hB)
         replace HB := Lib.hid (HB.out.trans (hB.mono HB.out.size))
         clear hA hB)
      | (go_at_call 12
         refine (wrap_er b (Er.at b1 [a] (.num (numb m))) _ hg.out HZ.out).mono ?_
         rintro e w4 ⟨b2, rfl, hA, hB⟩
         replace HX := Lib.hid (AtIs.below HX.out hB)
         have HY := Lib.hid (show AtIs w4 b2 [b, a] (.num (numb m)) from hA)
         replace hg := Lib.hid (hg.out.below hB)
         replace HB := Lib.hid (HB.out.trans (hB.mono HB.out.size))
         clear hA hB HZ)
      | (go_at_call 14
         first | refine (kind_v (Er.at bx [a] (.num (numb n))) (numb n) _ _ hg.out HX.out rfl (by rfl)).mono ?_ | refine (kind_v (Er.at b2 [b, a] (.num (numb m))) (numb m) _ _ hg.out HY.out rfl (by rfl)).mono ?_
         rintro e w5 ⟨rfl, hB⟩
         replace HX := Lib.hid (AtIs.below HX.out hB)
         replace HY := Lib.hid (AtIs.below HY.out hB)
         replace hg := Lib.hid (hg.out.below hB)
         replace HB := Lib.hid (HB.out.trans (hB.mono HB.out.size))
         clear hB)
      | (go_at_call 18
         first | refine (isf_v (Er.at bx [a] (.num (numb n))) (numb n) _ _ _ hg.out HX.out rfl (by rfl)).mono ?_ | refine (isf_v (Er.at b2 [b, a] (.num (numb m))) (numb m) _ _ _ hg.out HY.out rfl (by rfl)).mono ?_
         rintro e w5 ⟨rfl, hB⟩
         replace HX := Lib.hid (AtIs.below HX.out hB)
         replace HY := Lib.hid (AtIs.below HY.out hB)
         replace hg := Lib.hid (hg.out.below hB)
         replace HB := Lib.hid (HB.out.trans (hB.mono HB.out.size))
         clear hB))
    go_ret
    exact ⟨rfl, HB.out⟩
end Go.Proofs.YtckdajpjnpgknaaDoor
