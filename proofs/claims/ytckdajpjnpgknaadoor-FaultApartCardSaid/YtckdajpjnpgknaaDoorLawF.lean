/- What the laws of errors share: within, number, known. -/
import Derived.Test.YtckdajpjnpgknaaDoorKindW
set_option linter.unusedVariables false
set_option linter.unusedSimpArgs false
namespace Go.Proofs.YtckdajpjnpgknaaDoor
open Go.RowKit Go.Proofs.Mine Go.Proofs.YtckdajpjnpgknaaDoorW.PrintWords

theorem tmod_fix (a n : Int) (hn : 0 < n) : (if a.tmod n < 0 then a.tmod n + n else a.tmod n) = a % n := by
  have h1 := Int.tmod_add_mul_tdiv a n
  have h2 := Int.emod_add_mul_ediv a n
  rw [Int.tmod_eq_emod]
  have h3 := Int.emod_nonneg a (show n ≠ 0 by omega)
  have h4 := Int.emod_lt_of_pos a hn
  split <;> split <;> omega
set_option maxHeartbeats 400000 in
theorem within_any (a n : Int) (w : World) (hn : 0 < n) (hn2 : n ≤ 4611686018427387904) :
    Calls Tryd.prog 15 #[.int .i64 a, .int .i64 n] w fun e w' => e = .returned (.int .i64 (a % n)) ∧ w = w' := by
  have H := Lib.hid (tmod_fix a n hn)
  have h1 : -n < a.tmod n := by
    have := Int.tmod_eq_emod (a := a) (b := n)
    have h3 := Int.emod_nonneg a (show n ≠ 0 by omega)
    have h4 := Int.emod_lt_of_pos a hn
    split at this <;> omega
  have h0 : (n == 0) = false := by simp; omega
  by_cases hs : a.tmod n < 0
  · have hf : a.tmod n + n = a % n := by have := H.out; rwa [if_pos hs] at this
    have HF := Lib.hid hf
    clear hf H
    go_enter Tryd.func15, Tryd.ntmps15
    go_wp2
    go_ret
    exact ⟨by rw [HF.out]; rfl, rfl⟩
  · have hf : a.tmod n = a % n := by have := H.out; rwa [if_neg hs] at this
    have HF := Lib.hid hf
    clear hf H
    go_enter Tryd.func15, Tryd.ntmps15
    go_wp2
    go_ret
    exact ⟨by rw [HF.out]; rfl, rfl⟩

/-- number: one of an error. -/
def numb (n : Int) : Int := 1 + n % 19
theorem numb_ne (n : Int) : numb n ≠ 0 := by unfold numb; omega
set_option maxHeartbeats 1000000 in
theorem number_any (n : Int) (w : World) : Calls Tryd.prog 11 #[.int .i64 n] w fun e w' => e = .returned (.int .i64 (numb n)) ∧ w = w' := by
  have h0 : 0 ≤ n % 19 := by omega
  have h1 : n % 19 < 19 := by omega
  unfold numb
  go_enter Tryd.func11, Tryd.ntmps11
  go_wp2_with (go_at_call 15
               refine (within_any n 19 _ (by decide) (by decide)).mono ?_
               rintro e w1 ⟨rfl, rfl⟩)
  go_ret
  exact ⟨rfl, rfl⟩
theorem str_row {w : World} {e base : Nat} {ok : Nat → Prop} {v : Value} {xs : List ByteArray} (h : Kd.string.R e w base ok v xs) (h0 : 0 < xs.length) : ∃ g cap, v = .slice (some ⟨g, 0, none⟩) xs.length cap ∧ ok g ∧ base ≤ g ∧ g < w.heap.size ∧
    ∀ i (hi : i < xs.length), w.cell? ⟨g, i, none⟩ = some (.string xs[i]) ∧ w.frozen? ⟨g, i, none⟩ = false := by
  have h' := h
  obtain ⟨hok, inner, ⟨hl, ho⟩, hr⟩ := h'
  rcases ho with ⟨rfl, hx⟩ | ⟨g, cap, cur, rfl, hb, hh, h2, h3, h4, h5⟩
  · omega
  · refine ⟨g, cap, rfl, hok g rfl, hb, blk_lt hh, fun i hi => ?_⟩
    have hc := Kd.R_cell ByteArray.empty h (i : Int) (by omega) (by omega)
    rw [Int.toNat_natCast] at hc
    rw [show rdOf ByteArray.empty xs (i : Int) = xs[i] from by simp [rdOf, hi]] at hc
    exact hc
set_option maxHeartbeats 1000000 in
theorem known_any (w : World) (hg0 : Laid w) : Calls Tryd.prog 9 #[] w fun e w' => e = .returned (.bool true) ∧ Below w.heap.size w w' := by
  have hg := Lib.hid hg0
  clear hg0
  go_enter Tryd.func9, Tryd.ntmps9
  go_wp2_with (first
    | (go_at_call 10
       refine (new_any ⟨#[98]⟩ 14 w (by decide)).mono ?_
       rintro e w1 ⟨b1, rfl, hA, hB⟩
       have HA1 := Lib.hid hA
       have HB1 := Lib.hid hB
       have hg1 := Lib.hid (hg.out.below hB)
       clear hA hB)
    | (go_at_call 12
       refine (wrap_er ⟨#[97]⟩ (Er.at b1 [⟨#[98]⟩] (.num 14)) w1 hg1.out HA1.out).mono ?_
       rintro e w2 ⟨b2, rfl, hA, hB⟩
       have HA2 := Lib.hid (show AtIs w2 b2 [⟨#[97]⟩, ⟨#[98]⟩] (.num 14) from hA)
       have HB2 := Lib.hid (HB1.out.trans (hB.mono HB1.out.size))
       have hg2 := Lib.hid (hg1.out.below hB)
       clear hA hB)
    | (go_at_call 13
       refine (where_at b2 [⟨#[97]⟩, ⟨#[98]⟩] (.num 14) w2 hg2.out HA2.out (by decide) (by decide)).mono ?_
       rintro e w3 ⟨v, rfl, hR, hB⟩
       obtain ⟨g, cap, rfl, _, _, _, hc⟩ := str_row hR (by decide)
       have HB3 := Lib.hid (HB2.out.trans (hB.mono HB2.out.size))
       have c0 : w3.cell? ⟨g, 0, none⟩ = some (.string ⟨#[97]⟩) := (hc 0 (by decide)).1
       have c1 : w3.cell? ⟨g, 1, none⟩ = some (.string ⟨#[98]⟩) := (hc 1 (by decide)).1
       clear hR hB hc))
  go_ret
  exact ⟨rfl, HB3.out⟩
end Go.Proofs.YtckdajpjnpgknaaDoor
