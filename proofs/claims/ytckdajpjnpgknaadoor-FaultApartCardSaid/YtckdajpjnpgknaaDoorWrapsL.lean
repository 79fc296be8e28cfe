/- The walk of FaultWraps. -/
import Derived.Test.YtckdajpjnpgknaaDoorWordsL
import Derived.Deep.QuietTactic
import Derived.BigQuiet
set_option linter.unusedVariables false
set_option linter.unusedSimpArgs false
namespace Go.Proofs.YtckdajpjnpgknaaDoor
open Go.RowKit Go.Proofs.Mine Go.Proofs.YtckdajpjnpgknaaDoorW.PrintWords

/-- The places of an error that was wrapped in the first k of a row, one by one. -/
def wf (l : List ByteArray) (k : Nat) : List ByteArray := (l.take k).foldl (fun a p => wrapP p a) []
theorem wf_succ (l : List ByteArray) (k : Nat) (hk : k < l.length) : wf l (k + 1) = wrapP l[k] (wf l k) := by
  unfold wf
  rw [List.take_succ_eq_append_getElem hk, List.foldl_append]
  rfl
theorem wrapP_len (p : ByteArray) (a : List ByteArray) (h : a.length ≤ 16) : (wrapP p a).length ≤ 16 ∧ 0 < (wrapP p a).length := by
  unfold wrapP
  split
  · simp; omega
  · omega
theorem wf_len (l : List ByteArray) (k : Nat) (hk : k ≤ l.length) : (wf l k).length ≤ 16 ∧ (0 < k → 0 < (wf l k).length) := by
  induction k with
  | zero => simp [wf]
  | succ k ih =>
    rw [wf_succ l k (by omega)]
    have := wrapP_len l[k] (wf l k) (ih (by omega)).1
    exact ⟨this.1, fun _ => this.2⟩
theorem str_at {w : World} {A : Option Addr} {l : List ByteArray} (h : Kd.string.C w A l.length l) (k : Nat) (hk : k < l.length) : ∃ ad, A = some ad ∧ w.cell? (ad.add k) = some (.string l[k]) := by
  obtain ⟨ad, hA, hc⟩ := Kd.at_string h (k : Int) (by omega) (by omega)
  rw [Int.toNat_natCast] at hc
  rw [show rdOf ByteArray.empty l (k : Int) = l[k] from by simp [rdOf, hk]] at hc
  exact ⟨ad, hA, hc⟩
set_option maxHeartbeats 4000000 in
theorem wraps_any (n : Int) (A : Option Addr) (cap : Nat) (l : List ByteArray) (w : World) (hg0 : Laid w) {P0 P1 : Prop} (_ : P0) (hr : Kd.string.C w A l.length l) (_ : P1) : Calls Tryd.prog 4 #[.int .i64 n, .slice A l.length cap] w fun e w' => e = .returned (.bool true) ∧ Below w.heap.size w w' := by
  have hg := Lib.hid hg0
  have HG0 := Lib.hid hg0
  have HR := Lib.hid hr
  clear hg0 hr
  by_cases hz : l.length = 0
  · have hb0 : (l.length == 0) = true := by simp [hz]
    rw [hz]
    go_enter Tryd.func4, Tryd.ntmps4
    go_wp2_with (go_at_call 9
                 refine (known_any _ hg.out).mono ?_
                 rintro e w1 ⟨rfl, hB⟩
                 have HB := Lib.hid hB
                 clear hB)
    go_ret
    exact ⟨rfl, HB.out⟩
  · have hzi : ((l.length : Int) == 0) = false := beq_eq_false_iff_ne.mpr (by omega)
    by_cases h30 : 30 < l.length
    · have h30i : (30 : Int) < l.length := by omega
      go_enter Tryd.func4, Tryd.ntmps4
      go_wp2_with (go_at_call 9
                   refine (known_any _ hg.out).mono ?_
                   rintro e w1 ⟨rfl, hB⟩
                   have HB := Lib.hid hB
                   clear hB)
      go_ret
      exact ⟨rfl, HB.out⟩
    · have h30i : ¬ (30 : Int) < l.length := by omega
      have hW1 : wf l 1 = [l[0]] := by rw [wf_succ l 0 (by omega)]; rfl
      obtain ⟨ad, hA, c0⟩ := str_at HR.out 0 (by omega)
      subst hA
      rw [show ad.add 0 = ad from by simp [Addr.add]] at c0
      have HW1 := Lib.hid hW1
      clear hW1
      generalize l[0] = p0 at *
      go_enter Tryd.func4, Tryd.ntmps4
      go_wp2_with (first
        | (go_at_call 9
           refine (known_any _ hg.out).mono ?_
           rintro e w1 ⟨rfl, hB⟩
           have HB := Lib.hid hB
           replace hg := Lib.hid (hg.out.below hB)
           have c1 := pw_cell_below hB c0
           clear hB)
        | (go_at_call 11
           refine (number_any _ _).mono ?_
           rintro e w2 ⟨rfl, rfl⟩)
        | (go_at_call 10
           refine (new_any p0 (numb n) _ (numb_ne n)).mono ?_
           rintro e w3 ⟨b1, rfl, hA, hB⟩
           replace hg := Lib.hid (hg.out.below hB)
           replace HB := Lib.hid (HB.out.trans (hB.mono HB.out.size))
           have c2 := pw_cell_below hB c1
           have HA := Lib.hid (hA.alloc (.cells #[.string p0] 9))
           have HL := Lib.hid (lit_row w3 p0)
           clear hA hB))
      go_loopw [6, 7, 8] (fun ev wv iv wr => ∃ (k b : Nat), 1 ≤ k ∧ k ≤ l.length ∧ iv = .int .i64 k ∧ ev = .iface 44 (.pointer (some ⟨b, 0, none⟩)) ∧ AtIs wr b (wf l k) (.num (numb n)) ∧ Kd.string.R 9 wr w.heap.size (fun j => w.heap.size ≤ j) wv (wf l k) ∧ Below w.heap.size w wr) (fun _ _ iv _ => l.length - (intOf iv).toNat)
      case atStart =>
        have hle := HB.out.size
        refine ⟨1, b1, by omega, by omega, rfl, rfl, ?_, ?_, HB.out.alloc HB.out.size _⟩
        · rw [HW1.out]; exact HA.out
        · rw [HW1.out]; exact Kd.R_mono (Kd.R_lower HL.out HB.out.size) (fun j hj => Nat.le_trans hle hj)
      case round =>
        obtain ⟨k, b, hk1, hk, rfl, rfl, hA, hR, hB⟩ := hrel
        clear HB HL HA hg c0 c1 c2
        have HA := Lib.hid hA
        have HV := Lib.hid hR
        have HB := Lib.hid hB
        have hg := Lib.hid (HG0.out.below hB)
        obtain ⟨hw16, hw0⟩ := wf_len l k hk
        have hw0 := hw0 (by omega)
        obtain ⟨gW, cW, rfl, _, _, _, hcw⟩ := str_row hR hw0
        have HCW := Lib.hid hcw
        clear hA hR hcw
        by_cases hlt : k < l.length
        · obtain ⟨ad2, hAd, ck⟩ := str_at HR.out k hlt
          cases hAd
          have ck1 := pw_cell_below HB.out ck
          have hsucc := Lib.hid (wf_succ l k hlt)
          clear ck
          generalize l[k] = p at *
          have hlti : (k : Int) < l.length := by omega
          by_cases h16 : (wf l k).length < 16
          · have h16i : ((wf l k).length : Int) < 16 := by omega
            have hwp := Lib.hid (show wrapP p (wf l k) = p :: wf l k from if_pos h16)
            generalize hWk : wf l k = W at *
            go_wp2_with (first
              | (go_at_call 12
                 refine (wrap_er p (Er.at b W (.num (numb n))) _ hg.out HA.out).mono ?_
                 rintro e w4 ⟨b2, rfl, hA, hB⟩
                 have HA4 := Lib.hid hA
                 have HB4 := Lib.hid (HB.out.trans (hB.mono HB.out.size))
                 have ck2 := pw_cell_below hB ck1
                 have HV4 := Lib.hid (Kd.R_below HV.out hB)
                 clear hA hB)
              | (at_builtin
                 refine Kd.R_append_row Value.string ByteArray.empty (h1 := fun _ => rfl) (w0 := w4) w4.heap.size rfl _ _ 22 9 (.string ByteArray.empty) 16 rfl Tryd.underlying22 F.info9 rfl (by decide) (.slice (some ⟨w4.heap.size, 0, none⟩) 1 1) [p] W (some ⟨gW, 0, none⟩) W.length cW (fun j => w4.heap.size ≤ j) rfl rfl (fun j hj => by simp at hj; omega) (lit_row w4 p) (Kd.C_below (Kd.R_reads' HV4.out).2.2 ((Below.refl _ _).alloc (Nat.le_refl _) _)) ((Below.refl _ _).alloc (Nat.le_refl _) _) (by simp) (by simp; omega) ?_
                 intro v5 w5 hR5 hB5 hg5 hat5
                 have HB5 := Lib.hid (HB4.out.trans (hB5.mono HB4.out.size))
                 have HA5 := Lib.hid (AtIs.below HA4.out hB5)
                 have hle4 := HB4.out.size
                 have HV5 := Lib.hid (Kd.R_mono (Kd.R_lower hR5 HB4.out.size) (ok' := fun j => w.heap.size ≤ j) (fun j hj => Nat.le_trans hle4 hj))
                 clear hR5 hB5 hg5 hat5 hle4))
            refine ⟨⟨k + 1, b2, by omega, by omega, by simp, rfl, ?_, ?_, HB5.out⟩, by simp [intOf]; omega⟩
            · rw [hsucc.out]; exact HA5.out
            · rw [hsucc.out, hwp.out]; exact HV5.out
          · have h16i : ¬ ((wf l k).length : Int) < 16 := by omega
            have hwp := Lib.hid (show wrapP p (wf l k) = wf l k from if_neg h16)
            generalize hWk : wf l k = W at *
            go_wp2_with (go_at_call 12
                         refine (wrap_er p (Er.at b W (.num (numb n))) _ hg.out HA.out).mono ?_
                         rintro e w4 ⟨b2, rfl, hA, hB⟩
                         have HA4 := Lib.hid hA
                         have HB4 := Lib.hid (HB.out.trans (hB.mono HB.out.size))
                         have ck2 := pw_cell_below hB ck1
                         have HV4 := Lib.hid (Kd.R_below HV.out hB)
                         clear hA hB)
            refine ⟨⟨k + 1, b2, by omega, by omega, by simp, rfl, ?_, ?_, HB4.out⟩, by simp [intOf]; omega⟩
            · rw [hsucc.out]; exact HA4.out
            · rw [hsucc.out, hwp.out]; exact HV4.out
        · obtain rfl : k = l.length := by omega
          generalize hWk : wf l l.length = W at *
          go_wp2_with (first
            | (go_at_call 13
               refine (where_at b W (.num (numb n)) _ hg.out HA.out hw0 hw16).mono ?_
               rintro e w6 ⟨v6, rfl, hR, hB⟩
               obtain ⟨gl, cl, rfl, _, _, _, hc⟩ := str_row hR hw0
               have HC6 := Lib.hid (fun i hi => (hc i hi).1)
               have HB6 := Lib.hid (HB.out.trans (hB.mono HB.out.size))
               have HCW6 := Lib.hid (fun i hi => pw_cell_below hB (HCW.out i hi).1)
               have HA6 := Lib.hid (AtIs.below HA.out hB)
               have hg6 := Lib.hid (hg.out.below hB)
               clear hR hB hc)
            | (go_at_call 14
               refine (kind_v (Er.at b W (.num (numb n))) (numb n) _ _ hg6.out HA6.out rfl (by rfl)).mono ?_
               rintro e w7 ⟨rfl, hB⟩
               have HC7 := Lib.hid (fun i hi => pw_cell_below hB (HC6.out i hi))
               have HCW7 := Lib.hid (fun i hi => pw_cell_below hB (HCW6.out i hi))
               have HB7 := Lib.hid (HB6.out.trans (hB.mono HB6.out.size))
               clear hB))
          go_loopw [10] (fun iv wr2 => ∃ q : Nat, q ≤ W.length ∧ iv = .int .i64 q ∧ Below w7.heap.size w7 wr2) (fun iv _ => W.length - (intOf iv).toNat)
          case atStart => exact ⟨0, by omega, rfl, Below.refl _ _⟩
          case round =>
            obtain ⟨q, hq, rfl, hB2⟩ := hrel
            have HB2 := Lib.hid hB2
            by_cases hqt : q < W.length
            · have x1 := pw_cell_below hB2 (HC7.out q hqt)
              have x2 := pw_cell_below hB2 (HCW7.out q hqt)
              clear hB2
              generalize W[q] = y at *
              go_wp2
              go_quiet (fail)
              go_wp2
              exact ⟨⟨q + 1, by omega, by simp, pw_below_drewN HB2.out _⟩, by simp [intOf]; omega⟩
            · obtain rfl : q = W.length := by omega
              clear hB2
              go_wp2
              go_ret
              exact ⟨rfl, HB7.out.trans (HB2.out.mono HB7.out.size)⟩
end Go.Proofs.YtckdajpjnpgknaaDoor
