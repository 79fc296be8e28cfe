/- The walk of FaultIs. -/
import Derived.Test.YtckdajpjnpgknaaDoorWordsL
set_option linter.unusedVariables false
set_option linter.unusedSimpArgs false
namespace Go.Proofs.YtckdajpjnpgknaaDoor
open Go.RowKit Go.Proofs.Mine Go.Proofs.YtckdajpjnpgknaaDoorW.PrintWords

/-- errors.As(e, *Errno), e a number, with places or without. -/
theorem as_no_er (e : Er) (n : Int) (hk : e.k = .num n) (v : Value) (hv : v = e.v) (tb : Nat) (old : Value) (w : World) (hg : Laid w) (he : e.ok w) (ht0 : w.cell? ⟨tb, 0, none⟩ = some old) (hf0 : w.frozen? ⟨tb, 0, none⟩ = false) :
    Calls Tryd.prog 16 #[v, .iface 36 (.pointer (some ⟨tb, 0, none⟩))] w fun ev w' => ev = .returned (.bool true) ∧ AsSet w w' ⟨tb, 0, none⟩ (.int .i64 n) := by
  subst hv
  cases e with
  | base k =>
    cases k with
    | num n' => cases hk; exact as_no_num n tb old w hg ht0 hf0
    | es a => cases hk
  | «at» b ps k =>
    cases k with
    | num n' => cases hk; exact as_no_at_num b n tb old w hg ht0 hf0 (AtIs.err he)
    | es a => cases hk
theorem is_er (e : Er) (n : Int) (hk : e.k = .num n) (v : Value) (hv : v = e.v) (m : Int) (w : World) (he : e.ok w) : Calls Tryd.prog 17 #[v, .iface 27 (.int .i64 m)] w fun ev w' => ev = .returned (.bool (n == m)) ∧ w = w' := by
  subst hv
  cases e with
  | base k =>
    cases k with
    | num n' => cases hk; exact is_num n m w
    | es a => cases hk
  | «at» b ps k =>
    cases k with
    | num n' => cases hk; exact is_at_num b n m w (AtIs.err he)
    | es a => cases hk
set_option maxHeartbeats 4000000 in
theorem isl_new (n m wraps : Int) (w : World) (hg0 : Laid w) : Calls Tryd.prog 5 #[.int .i64 n, .int .i64 m, .int .i64 wraps, .bool false] w fun e w' => e = .returned (.bool true) ∧ Below w.heap.size w w' := by
  have hg := Lib.hid hg0
  have HG0 := Lib.hid hg0
  clear hg0
  have h0 : 0 ≤ wraps % 20 := by omega
  have h1 : wraps % 20 < 20 := by omega
  go_enter Tryd.func5, Tryd.ntmps5
  go_wp2_with (first
    | (go_at_call 9
       refine (known_any _ hg.out).mono ?_
       rintro e w1 ⟨rfl, hB⟩
       have HB := Lib.hid hB
       replace hg := Lib.hid (hg.out.below hB)
       clear hB)
    | (go_at_call 11
       refine (number_any _ _).mono ?_
       rintro e w2 ⟨rfl, rfl⟩)
    | (go_at_call 10
       refine (new_any _ (numb n) _ (numb_ne n)).mono ?_
       rintro e w3 ⟨bx, rfl, hA, hB⟩
       have HX := Lib.hid hA
       replace hg := Lib.hid (hg.out.below hB)
       replace HB := Lib.hid (HB.out.trans (hB.mono HB.out.size))
       clear hA hB))
  go_loopw [11, 12] (fun ev iv wr => ∃ (k : Nat) (er : Er), k ≤ 20 ∧ iv = .int .i64 k ∧ ev = er.v ∧ er.k = .num (numb n) ∧ er.ok wr ∧ Below w.heap.size w wr) (fun _ iv _ => 20 - (intOf iv).toNat)
  case atStart => exact ⟨0, Er.at bx [⟨#[120]⟩] (.num (numb n)), by omega, rfl, rfl, rfl, HX.out, HB.out⟩
  case round =>
    obtain ⟨k, er, hk20, rfl, rfl, hk, hE, hB⟩ := hrel
    clear HB HX hg
    have HE := Lib.hid hE
    have HB := Lib.hid hB
    have hg := Lib.hid (HG0.out.below hB)
    clear hE hB
    by_cases hlt : (k : Int) < wraps % 20
    · skip
      go_wp2_with (first
        | (go_at_call 15
           refine (within_any wraps 20 _ (by decide) (by decide)).mono ?_
           rintro e w3 ⟨rfl, rfl⟩)
        | (go_at_call 12
           refine (wrap_er _ er _ hg.out HE.out).mono ?_
           rintro e w4 ⟨b2, rfl, hA, hB⟩
           have HA := Lib.hid hA
           have HB4 := Lib.hid (HB.out.trans (hB.mono HB.out.size))
           have hg4 := Lib.hid (hg.out.below hB)
           clear hA hB))
      exact ⟨⟨k + 1, Er.at b2 _ er.k, by omega, by simp, rfl, hk, HA.out, HB4.out⟩, by simp [intOf]; omega⟩
    · skip
      go_wp2_with (first
        | (go_at_call 15
           refine (within_any wraps 20 _ (by decide) (by decide)).mono ?_
           rintro e w3 ⟨rfl, rfl⟩)
        | (go_at_call 16
           refine (as_no_er er (numb n) hk er.v rfl wr.heap.size (.int .i64 0) (wr.alloc (.cells #[.int .i64 0] 27)) (hg.out.alloc _) (Er.ok_below HE.out ((Below.refl _ _).alloc (Nat.le_refl _) _)) (by simp) (by simp)).mono ?_
           rintro e w5 ⟨rfl, hK, ht, hf⟩
           have hK0 : Keep (fun _ => False) wr w5 := ⟨hK.os, hK.tape, hK.output, by have := hK.size; simp at this; omega, fun k hk _ => (hK.block k (by simp; omega) (by show k ≠ wr.heap.size; omega)).trans (Below.heap_alloc wr _ k hk)⟩
           have hB := hK0.to_below (Nat.le_refl _) (fun _ h => h.elim)
           have ht5 := ht
           replace HE := Lib.hid (Er.ok_below HE.out hB)
           replace hg := Lib.hid (hg.out.below hB)
           replace HB := Lib.hid (HB.out.trans (hB.mono HB.out.size))
           clear hB
           clear hK hK0)
        | (go_at_call 17
           refine (is_er er (numb n) hk er.v rfl _ _ HE.out).mono ?_
           rintro e w6 ⟨rfl, rfl⟩)
        | (go_at_call 18
           refine (isf_v er (numb n) er.v _ _ hg.out HE.out (by rw [hk]; rfl) rfl).mono ?_
           rintro e w6 ⟨rfl, hB⟩
           replace HE := Lib.hid (Er.ok_below HE.out hB)
           replace hg := Lib.hid (hg.out.below hB)
           replace HB := Lib.hid (HB.out.trans (hB.mono HB.out.size))
           clear hB))
      go_ret
      exact ⟨rfl, HB.out⟩
set_option maxHeartbeats 4000000 in
theorem isl_bare (n m wraps : Int) (w : World) (hg0 : Laid w) : Calls Tryd.prog 5 #[.int .i64 n, .int .i64 m, .int .i64 wraps, .bool true] w fun e w' => e = .returned (.bool true) ∧ Below w.heap.size w w' := by
  have hg := Lib.hid hg0
  have HG0 := Lib.hid hg0
  clear hg0
  have h0 : 0 ≤ wraps % 20 := by omega
  have h1 : wraps % 20 < 20 := by omega
  go_enter Tryd.func5, Tryd.ntmps5
  go_wp2_with (first
    | (go_at_call 9
       refine (known_any _ hg.out).mono ?_
       rintro e w1 ⟨rfl, hB⟩
       have HB := Lib.hid hB
       replace hg := Lib.hid (hg.out.below hB)
       clear hB)
    | (go_at_call 11
       refine (number_any _ _).mono ?_
       rintro e w2 ⟨rfl, rfl⟩)
    | (go_at_call 10
       refine (new_any _ (numb n) _ (numb_ne n)).mono ?_
       rintro e w3 ⟨bx, rfl, hA, hB⟩
       have HX := Lib.hid hA
       replace hg := Lib.hid (hg.out.below hB)
       replace HB := Lib.hid (HB.out.trans (hB.mono HB.out.size))
       clear hA hB))
  go_loopw [11, 12] (fun ev iv wr => ∃ (k : Nat) (er : Er), k ≤ 20 ∧ iv = .int .i64 k ∧ ev = er.v ∧ er.k = .num (numb n) ∧ er.ok wr ∧ Below w.heap.size w wr) (fun _ iv _ => 20 - (intOf iv).toNat)
  case atStart => exact ⟨0, Er.base (.num (numb n)), by omega, rfl, rfl, rfl, numb_ne n, HB.out⟩
  case round =>
    obtain ⟨k, er, hk20, rfl, rfl, hk, hE, hB⟩ := hrel
    clear HB HX hg
    have HE := Lib.hid hE
    have HB := Lib.hid hB
    have hg := Lib.hid (HG0.out.below hB)
    clear hE hB
    by_cases hlt : (k : Int) < wraps % 20
    · skip
      go_wp2_with (first
        | (go_at_call 15
           refine (within_any wraps 20 _ (by decide) (by decide)).mono ?_
           rintro e w3 ⟨rfl, rfl⟩)
        | (go_at_call 12
           refine (wrap_er _ er _ hg.out HE.out).mono ?_
           rintro e w4 ⟨b2, rfl, hA, hB⟩
           have HA := Lib.hid hA
           have HB4 := Lib.hid (HB.out.trans (hB.mono HB.out.size))
           have hg4 := Lib.hid (hg.out.below hB)
           clear hA hB))
      exact ⟨⟨k + 1, Er.at b2 _ er.k, by omega, by simp, rfl, hk, HA.out, HB4.out⟩, by simp [intOf]; omega⟩
    · skip
      go_wp2_with (first
        | (go_at_call 15
           refine (within_any wraps 20 _ (by decide) (by decide)).mono ?_
           rintro e w3 ⟨rfl, rfl⟩)
        | (go_at_call 16
           refine (as_no_er er (numb n) hk er.v rfl wr.heap.size (.int .i64 0) (wr.alloc (.cells #[.int .i64 0] 27)) (hg.out.alloc _) (Er.ok_below HE.out ((Below.refl _ _).alloc (Nat.le_refl _) _)) (by simp) (by simp)).mono ?_
           rintro e w5 ⟨rfl, hK, ht, hf⟩
           have hK0 : Keep (fun _ => False) wr w5 := ⟨hK.os, hK.tape, hK.output, by have := hK.size; simp at this; omega, fun k hk _ => (hK.block k (by simp; omega) (by show k ≠ wr.heap.size; omega)).trans (Below.heap_alloc wr _ k hk)⟩
           have hB := hK0.to_below (Nat.le_refl _) (fun _ h => h.elim)
           have ht5 := ht
           replace HE := Lib.hid (Er.ok_below HE.out hB)
           replace hg := Lib.hid (hg.out.below hB)
           replace HB := Lib.hid (HB.out.trans (hB.mono HB.out.size))
           clear hB
           clear hK hK0)
        | (go_at_call 17
           refine (is_er er (numb n) hk er.v rfl _ _ HE.out).mono ?_
           rintro e w6 ⟨rfl, rfl⟩)
        | (go_at_call 18
           refine (isf_v er (numb n) er.v _ _ hg.out HE.out (by rw [hk]; rfl) rfl).mono ?_
           rintro e w6 ⟨rfl, hB⟩
           replace HE := Lib.hid (Er.ok_below HE.out hB)
           replace hg := Lib.hid (hg.out.below hB)
           replace HB := Lib.hid (HB.out.trans (hB.mono HB.out.size))
           clear hB))
      go_ret
      exact ⟨rfl, HB.out⟩
theorem is_any (n m wraps : Int) (bare : Bool) (w : World) (hg : Laid w) {P0 P1 P2 : Prop} (_ : P0) (_ : P1) (_ : P2) : Calls Tryd.prog 5 #[.int .i64 n, .int .i64 m, .int .i64 wraps, .bool bare] w fun e w' => e = .returned (.bool true) ∧ Below w.heap.size w w' := by
  cases bare with
  | false => exact isl_new n m wraps w hg
  | true => exact isl_bare n m wraps w hg
end Go.Proofs.YtckdajpjnpgknaaDoor
