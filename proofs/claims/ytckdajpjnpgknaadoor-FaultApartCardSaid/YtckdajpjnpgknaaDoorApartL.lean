/- The walk of FaultApart. -/
import Derived.Test.YtckdajpjnpgknaaDoorOwnE
import Derived.Deep.QuietTactic
import Derived.BigQuiet
set_option linter.unusedVariables false
set_option linter.unusedSimpArgs false
namespace Go.Proofs.YtckdajpjnpgknaaDoor
open Go.RowKit Go.Proofs.Mine Go.Proofs.YtckdajpjnpgknaaDoorW.PrintWords

theorem wf_rev (l : List ByteArray) (k : Nat) (hk : k ≤ l.length) (h16 : k ≤ 16) : wf l k = (l.take k).reverse := by
  induction k with
  | zero => rfl
  | succ k ih =>
    rw [wf_succ l k (by omega), ih (by omega) (by omega), List.take_succ_eq_append_getElem (by omega), List.reverse_append]
    unfold wrapP
    rw [if_pos (by rw [List.length_reverse, List.length_take]; omega)]
    rfl
set_option maxHeartbeats 8000000 in
theorem apart_any (n : Int) (A : Option Addr) (cap : Nat) (l : List ByteArray) (y : ByteArray) (w : World) (hg0 : Laid w) {P0 P1 : Prop} (_ : P0) (hr : Kd.string.C w A l.length l) (_ : P1) (hy : y.size ≤ 140737488351232) : Calls Tryd.prog 3 #[.int .i64 n, .slice A l.length cap, .string y] w fun e w' => e = .returned (.bool true) ∧ Below w.heap.size w w' := by
  have hg := Lib.hid hg0
  have HG0 := Lib.hid hg0
  have HR := Lib.hid hr
  clear hg0 hr
  by_cases hz : l.length = 0
  · have hb0 : (l.length == 0) = true := by simp [hz]
    rw [hz]
    go_enter Tryd.func3, Tryd.ntmps3
    go_wp2_with (go_at_call 9
                 refine (known_any _ hg.out).mono ?_
                 rintro e w1 ⟨rfl, hB⟩
                 have HB := Lib.hid hB
                 clear hB)
    go_ret
    exact ⟨rfl, HB.out⟩
  · have hzi : ((l.length : Int) == 0) = false := beq_eq_false_iff_ne.mpr (by omega)
    by_cases h30 : 10 < l.length
    · have h30i : (10 : Int) < l.length := by omega
      go_enter Tryd.func3, Tryd.ntmps3
      go_wp2_with (go_at_call 9
                   refine (known_any _ hg.out).mono ?_
                   rintro e w1 ⟨rfl, hB⟩
                   have HB := Lib.hid hB
                   clear hB)
      go_ret
      exact ⟨rfl, HB.out⟩
    · have h30i : ¬ (10 : Int) < l.length := by omega
      have hpos : 0 < l.length := by omega
      have hW1 : wf l 1 = [l[0]] := by rw [wf_succ l 0 (by omega)]; rfl
      obtain ⟨ad, hA, c0⟩ := str_at HR.out 0 (by omega)
      subst hA
      rw [show ad.add 0 = ad from by simp [Addr.add]] at c0
      have HW1 := Lib.hid hW1
      clear hW1
      generalize l[0] = p0 at *
      go_enter Tryd.func3, Tryd.ntmps3
      go_wp2_with (go_at_call 9
                   refine (known_any _ hg.out).mono ?_
                   rintro e w1 ⟨rfl, hB⟩
                   have HB := Lib.hid hB
                   replace hg := Lib.hid (hg.out.below hB)
                   have c1 := pw_cell_below hB c0
                   clear hB)
      have c1d : w1.drew.cell? ad = some (.string p0) := c1
      go_region_law (first
        | (go_simp
           go_at_call 11
           refine (number_any _ _).mono ?_
           rintro e w2 ⟨rfl, rfl⟩)
        | (go_simp
           go_at_call 10
           refine (new_any p0 (numb n) _ (numb_ne n)).mono ?_
           rintro e w3 ⟨b1, rfl, hA, hB⟩
           have HA := Lib.hid hA
           have HB3 := Lib.hid (show Below w.heap.size w w3 from HB.out.trans (show Below w.heap.size w1 w3 from Below.mono (show Below w1.heap.size w1 w3 from ⟨hB.os, hB.tape, hB.output, hB.size, hB.block⟩) HB.out.size))
           clear hA hB))
      all_goals
        clear c0 c1 c1d
        go_wp2
        go_loopw [7, 8] (fun ev iv wr => ∃ (k b : Nat), 1 ≤ k ∧ k ≤ l.length ∧ iv = .int .i64 k ∧ ev = .iface 44 (.pointer (some ⟨b, 0, none⟩)) ∧ AtIs wr b (wf l k) (.num (numb n)) ∧ Below w.heap.size w wr) (fun _ iv _ => l.length - (intOf iv).toNat)
        case atStart => exact ⟨1, b1, by omega, by omega, rfl, rfl, by rw [HW1.out]; exact HA.out, HB3.out⟩
        case round =>
          obtain ⟨k, b, hk1, hk, rfl, rfl, hA, hB⟩ := hrel
          clear HB HB3 HA hg
          have HA := Lib.hid hA
          have HB := Lib.hid hB
          have hg := Lib.hid (HG0.out.below hB)
          have hw0 := (wf_len l k hk).2 (by omega)
          have hwl : (wf l k).length = k := by rw [wf_rev l k hk (by omega), List.length_reverse, List.length_take]; omega
          clear hA
          by_cases hlt : k < l.length
          · obtain ⟨ad2, hAd, ck⟩ := str_at HR.out k hlt
            cases hAd
            have ck1 := pw_cell_below HB.out ck
            have hsucc := Lib.hid (wf_succ l k hlt)
            clear ck hB
            generalize l[k] = p at *
            have hlti : (k : Int) < l.length := by omega
            generalize hWk : wf l k = W at *
            go_wp2_with (go_at_call 12
                         refine (wrap_er p (Er.at b W (.num (numb n))) _ hg.out HA.out).mono ?_
                         rintro e w4 ⟨b2, rfl, hA, hB⟩
                         have HA4 := Lib.hid hA
                         have HB4 := Lib.hid (HB.out.trans (hB.mono HB.out.size))
                         clear hA hB)
            exact ⟨⟨k + 1, b2, by omega, by omega, by simp, rfl, by rw [hsucc.out]; exact HA4.out, HB4.out⟩, by simp [intOf]; omega⟩
          · obtain rfl : k = l.length := by omega
            have hrev := Lib.hid (wf_rev l l.length (Nat.le_refl _) (by omega))
            generalize hWk : wf l l.length = W at *
            go_wp2_with (first
              | (go_at_call 13
                 refine (where_at b W (.num (numb n)) _ hg.out HA.out hw0 (by omega)).mono ?_
                 rintro e w6 ⟨v6, rfl, hR, hB⟩
                 obtain ⟨gl, cl, rfl, hgl, _, hgl2, hc⟩ := str_row hR hw0
                 have HV6 := Lib.hid hR
                 have HB6 := Lib.hid (HB.out.trans (hB.mono HB.out.size))
                 have HBX := Lib.hid hB
                 have HA6 := Lib.hid (AtIs.below HA.out hB)
                 have hg6 := Lib.hid (hg.out.below hB)
                 clear hR hB hc)
              | (go_at_call 12
                 refine (wrap_own y b W (.num (numb n)) _ hg6.out HA6.out (by omega)).mono ?_
                 rintro e w7 ⟨b7, rfl, hA, hB⟩
                 have HO7 := Lib.hid hA
                 have HB7 := Lib.hid (HB6.out.trans (hB.mono HB6.out.size))
                 have HV7 := Lib.hid (Kd.R_below HV6.out hB)
                 have HBX7 := Lib.hid (HBX.out.trans (hB.mono HBX.out.size))
                 clear hA hB))
            have hglw : w.heap.size ≤ gl := Nat.le_trans HB.out.size hgl
            have HV7' := Lib.hid (show Kd.string.R 9 w7 wr.heap.size (fun k => wr.heap.size ≤ k) (.slice (some ⟨gl, 0, none⟩) W.length cl) W from HV7.out)
            go_loopw [11] (fun iv w2 => ∃ (q : Nat) (zs : List ByteArray), q ≤ l.length ∧ iv = .int .i64 q ∧ zs.length = l.length ∧ Kd.string.R 9 w2 wr.heap.size (fun k => wr.heap.size ≤ k) (.slice (some ⟨gl, 0, none⟩) zs.length cl) zs ∧ Keep (fun j => j = gl) w7 w2) (fun iv _ => l.length - (intOf iv).toNat)
            case atStart => exact ⟨0, W, by omega, rfl, hwl, HV7'.out, Keep.refl _ _⟩
            case round =>
              obtain ⟨q, zs, hq, rfl, hzl, hZ, hK⟩ := hrel
              by_cases hqt : q < l.length
              · have hcell := Kd.R_cell ByteArray.empty hZ (q : Int) (by omega) (by omega)
                have hput := Kd.R_put hZ (q : Int) (y ++ ⟨#[120]⟩)
                rw [Int.toNat_natCast] at hcell hput
                have HP := Lib.hid hput.1
                have HK2 := Lib.hid hK
                obtain ⟨hc1, hc2⟩ := hcell
                have hqti : (q : Int) < l.length := by omega
                clear hput hZ hK
                go_wp2
                refine ⟨⟨q + 1, zs.set q (y ++ ⟨#[120]⟩), by omega, by simp, by rw [List.length_set]; exact hzl, ?_, HK2.out.setCell _ _ (.inl rfl)⟩, by simp [intOf]; omega⟩
                have := HP.out
                rw [List.length_set]
                exact this
              · obtain rfl : q = l.length := by omega
                have hA8 := Lib.hid (AtIs.below HA.out (HBX7.out.trans (hK.to_below HBX7.out.size (fun j hj => by rw [hj]; exact hgl))))
                have hO8 := Lib.hid ((HO7.out.keep hK (fun j hj => by rw [hj]; exact hgl2)).is)
                have hB8 := Lib.hid (HB7.out.trans (hK.to_below HB7.out.size (fun j hj => by rw [hj]; exact hglw)))
                have hg8 := Lib.hid (HG0.out.below hB8.out)
                clear hZ hK
                go_wp2_with (first
                  | (go_at_call 13
                     have h9 := hg9.out
                     refine (where_at b7 (y :: W) (.num (numb n)) _ hg9.out hO9.out (by simp) (by simp; omega)).mono ?_
                     rintro e w10 ⟨v10, rfl, hR, hB⟩
                     obtain ⟨gk, ck, rfl, _, _, _, hc⟩ := str_row hR (by simp)
                     have HK10 := Lib.hid (fun i hi => (hc i hi).1)
                     have HM10 := Lib.hid (fun i hi => pw_cell_below hB (HM9.out i hi))
                     have hB10 := Lib.hid (hB9.out.trans (hB.mono hB9.out.size))
                     have k0 : w10.cell? ⟨gk, 0, none⟩ = some (.string y) := (hc 0 (by simp)).1
                     clear hR hB hc h9)
                  | (go_at_call 13
                     refine (where_at b W (.num (numb n)) _ hg8.out hA8.out hw0 (by omega)).mono ?_
                     rintro e w9 ⟨v9, rfl, hR, hB⟩
                     obtain ⟨gm, cm, rfl, _, _, _, hc⟩ := str_row hR hw0
                     have HM9 := Lib.hid (fun i hi => (hc i hi).1)
                     have hB9 := Lib.hid (hB8.out.trans (hB.mono hB8.out.size))
                     have hO9 := Lib.hid (AtIs.below hO8.out hB)
                     have hg9 := Lib.hid (hg8.out.below hB)
                     clear hR hB hc))
                go_loopw [14] (fun iv w3 => ∃ q : Nat, q ≤ l.length ∧ iv = .int .i64 q ∧ Below w10.heap.size w10 w3) (fun iv _ => l.length - (intOf iv).toNat)
                case atStart => exact ⟨0, by omega, rfl, Below.refl _ _⟩
                case round =>
                  obtain ⟨q, hq2, rfl, hBr⟩ := hrel
                  have HBr := Lib.hid hBr
                  by_cases hqt2 : q < l.length
                  · obtain ⟨ad3, hAd3, x2⟩ := str_at HR.out (l.length - 1 - q) (by omega)
                    cases hAd3
                    have x2 := pw_cell_below hBr (pw_cell_below hB10.out x2)
                    have hwq : l[l.length - 1 - q] = W[q]'(by omega) := by
                      have e := hrev.out
                      subst e
                      rw [List.getElem_reverse, List.getElem_take]
                      congr 1
                      rw [List.length_take]
                      omega
                    rw [hwq] at x2
                    have x1 := pw_cell_below hBr (HM10.out q (by omega))
                    have x3 := pw_cell_below hBr (HK10.out (q + 1) (by simp; omega))
                    rw [List.getElem_cons_succ] at x3
                    have hqi : (q : Int) < l.length := by omega
                    have hwr1 : IntKind.i64.wrap ((l.length : Int) - 1) = (l.length : Int) - 1 := IntWalk.i64_in _ (by omega)
                    have hwr2 : IntKind.i64.wrap ((l.length : Int) - 1 - q) = (l.length : Int) - 1 - q := IntWalk.i64_in _ (by omega)
                    have hwr3 : IntKind.i64.wrap ((q : Int) + 1) = (q : Int) + 1 := IntWalk.i64_in _ (by omega)
                    have hi0 : 0 ≤ (l.length : Int) - 1 - q := by omega
                    have hi1 : (l.length : Int) - 1 - q < l.length := by omega
                    have hi2 : (q : Int) + 1 < (l.length : Int) + 1 := by omega
                    have htn : ((l.length : Int) - 1 - q).toNat = l.length - 1 - q := by omega
                    clear hBr hwq
                    generalize W[q]'(by omega) = z at *
                    go_wp2
                    go_quiet (fail)
                    go_wp2
                    exact ⟨⟨q + 1, by omega, by simp, pw_below_drewN HBr.out _⟩, by simp [intOf]; omega⟩
                  · obtain rfl : q = l.length := by omega
                    clear hBr
                    go_wp2
                    go_ret
                    exact ⟨rfl, hB10.out.trans (HBr.out.mono hB10.out.size)⟩
end Go.Proofs.YtckdajpjnpgknaaDoor
