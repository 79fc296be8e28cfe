/- Fence and At, where nothing is; ref.Same of two that are the same. -/
import Derived.Test.YtjgdglbfnjjmmaaDoorLawS
import Derived.Test.YtjgdglbfnjjmmaaDoorKindW
set_option linter.unusedVariables false
set_option linter.unusedSimpArgs false
namespace Go.Proofs.YtjgdglbfnjjmmaaDoor
open Go.RowKit Go.Proofs.YtjgdglbfnjjmmaaDoorW.PrintWords Go.Proofs.Mine

theorem fld0 (x0 x1 x2 x3 x4 : Value) (w : World) : (Instr.field 32 (.agg #[x0, x1, x2, x3, x4]) 0).run Tryd.prog w = .ok x0 w := by kernel_rfl
theorem fld2 (x0 x1 x2 x3 x4 : Value) (w : World) : (Instr.field 32 (.agg #[x0, x1, x2, x3, x4]) 2).run Tryd.prog w = .ok x2 w := by kernel_rfl
def fenceE (n gen : Int) : Int := if gen < n then 18 else if n < gen then 2 else 0
set_option maxRecDepth 100000 in
set_option maxHeartbeats 1000000 in
theorem is_nil (m : Int) (w : World) : Calls Tryd.prog 32 #[.nilIface, .iface 25 (.int .i64 m)] w fun e w' => e = .returned (.bool false) ∧ w = w' := by
  have he : ∀ W : World, (binOp .eql 68 .nilIface (.iface 25 (.int .i64 m))).run Tryd.prog W = .ok (.bool false) W := by
    intro W
    have h : ∀ d : Nat, (Op.equalIn (d + 2) 68 .nilIface (.iface 25 (.int .i64 m))).run Tryd.prog W = .ok false W := fun d => by
      simp [Op.equalIn, run_underlying Tryd.underlying68, run_underlying Tryd.underlying25]
    simp only [binOp]
    simp [Op.equal, Op.maxDepth, h 9998]
  go_enter Tryd.func32, Tryd.ntmps32
  go_wp2
  go_ret
  exact ⟨rfl, rfl⟩
set_option maxRecDepth 100000 in
set_option maxHeartbeats 1000000 in
theorem fence1_any (gen : Int) (w : World) (base : Nat) (F : Nat → Prop) (b : Nat) (xs : List Ge) (x : Ge) (h : GensAt w base F b xs) (hx : xs.getLast? = some x) :
    Calls Tryd.prog 31 #[.pointer (some ⟨b, 0, none⟩), .int .i64 gen] w fun r w' => Below w.heap.size w w' ∧ ((fenceE x.g.n gen = 0 ∧ r = .returned .nilIface) ∨ (fenceE x.g.n gen ≠ 0 ∧ ∃ bb s, r = .returned (.iface 90 (.pointer (some ⟨bb, 0, none⟩))) ∧ AtIs w' bb [s] (.num (fenceE x.g.n gen)))) := by
  have HH := Lib.hid h
  obtain ⟨n, hn⟩ : ∃ n, n = x.g.n := ⟨_, rfl⟩
  have HN := Lib.hid hn
  have hfl := fld0
  rw [← hn]
  clear h hn
  unfold fenceE
  by_cases h1 : gen < n
  · rw [if_pos h1]
    go_enter Tryd.func31, Tryd.ntmps31
    go_wp2_with (first
      | (go_at_call 10; refine (now_lit w base F b xs x HH.out hx).mono ?_; rintro r w1 ⟨A, c, rfl, _, hB⟩; rw [← HN.out]; have HB1 := Lib.hid hB; clear hB)
      | (go_at_call 51; refine (fnew_any _ 18 w1 (by decide)).mono ?_; rintro r w2 ⟨bb, rfl, hA, hB⟩; have HA := Lib.hid hA; have HB2 := Lib.hid (HB1.out.trans (hB.mono HB1.out.size)); clear hA hB))
    go_ret
    exact ⟨HB2.out, .inr ⟨by decide, _, _, rfl, HA.out⟩⟩
  · rw [if_neg h1]
    by_cases h2 : n < gen
    · rw [if_pos h2]
      go_enter Tryd.func31, Tryd.ntmps31
      go_wp2_with (first
        | (go_at_call 10; refine (now_lit w base F b xs x HH.out hx).mono ?_; rintro r w1 ⟨A, c, rfl, _, hB⟩; rw [← HN.out]; have HB1 := Lib.hid hB; clear hB)
        | (go_at_call 51; refine (fnew_any _ 2 w1 (by decide)).mono ?_; rintro r w2 ⟨bb, rfl, hA, hB⟩; have HA := Lib.hid hA; have HB2 := Lib.hid (HB1.out.trans (hB.mono HB1.out.size)); clear hA hB))
      go_ret
      exact ⟨HB2.out, .inr ⟨by decide, _, _, rfl, HA.out⟩⟩
    · rw [if_neg h2]
      go_enter Tryd.func31, Tryd.ntmps31
      go_wp2_with (go_at_call 10; refine (now_lit w base F b xs x HH.out hx).mono ?_; rintro r w1 ⟨A, c, rfl, _, hB⟩; rw [← HN.out]; have HB1 := Lib.hid hB; clear hB)
      go_ret
      exact ⟨HB1.out, .inl ⟨by first | rfl | trivial, rfl⟩⟩
set_option maxRecDepth 100000 in
set_option maxHeartbeats 1000000 in
theorem fence_any (gen : Int) (w : World) (base : Nat) (F : Nat → Prop) (b : Nat) (xs : List Ge) (x : Ge) (hg0 : Laid w) (h : GensAt w base F b xs) (hx : xs.getLast? = some x) :
    Calls Tryd.prog 16 #[.pointer (some ⟨b, 0, none⟩), .int .i64 gen] w fun r w' => r = .returned (.int .i64 (fenceE x.g.n gen)) ∧ Below w.heap.size w w' := by
  have HG := Lib.hid hg0
  have hs16 : ∀ s : ByteArray, [s].length < 16 := fun _ => by simp
  have HF := Lib.hid (fence1_any gen w base F b xs x h hx)
  have h3 : fenceE x.g.n gen = 0 ∨ fenceE x.g.n gen = 18 ∨ fenceE x.g.n gen = 2 := by
    unfold fenceE
    split
    · simp
    · split <;> simp
  generalize fenceE x.g.n gen = e at *
  clear hg0 h
  by_cases he : e = 0
  · subst he
    go_enter Tryd.func16, Tryd.ntmps16
    go_wp2_with (first
      | (go_at_call 31; refine HF.out.mono ?_; rintro r w1 ⟨hB, (⟨_, rfl⟩ | ⟨h0, _⟩)⟩; rotate_left; exact absurd rfl h0; have HB1 := Lib.hid hB; clear hB)
      | (go_at_call 30; refine (wrap_nil _ w1).mono ?_; rintro r w2 ⟨rfl, rfl⟩)
      | (go_at_call 32; refine (is_nil 18 w1).mono ?_; rintro r w2 ⟨rfl, rfl⟩)
      | (go_at_call 33; refine (kind_nil w1).mono ?_; rintro r w2 ⟨rfl, rfl⟩))
    go_ret
    exact ⟨rfl, HB1.out⟩
  · rcases h3 with h3 | h3 | h3
    · exact absurd h3 he
    · subst h3
      go_enter Tryd.func16, Tryd.ntmps16
      go_wp2_with (first
        | (go_at_call 31; refine HF.out.mono ?_; rintro r w1 ⟨hB, (⟨h0, _⟩ | ⟨_, bb, s, rfl, hA⟩)⟩; exact absurd h0 (by decide); have HB1 := Lib.hid hB; have HA1 := Lib.hid hA; clear hB hA)
        | (go_at_call 30; refine (wrap_more _ bb [s] (.num 18) w1 (HG.out.below HB1.out) HA1.out (hs16 s)).mono ?_; rintro r w2 ⟨b2, rfl, hA, hB⟩; have HA2 := Lib.hid hA; have HB2 := Lib.hid (HB1.out.trans (hB.mono HB1.out.size)); clear hA hB)
        | (go_at_call 32; refine (is_at_num b2 18 18 w2 HA2.out.err).mono ?_; rintro r w3 ⟨rfl, rfl⟩))
      go_ret
      exact ⟨rfl, HB2.out⟩
    · subst h3
      go_enter Tryd.func16, Tryd.ntmps16
      go_wp2_with (first
        | (go_at_call 31; refine HF.out.mono ?_; rintro r w1 ⟨hB, (⟨h0, _⟩ | ⟨_, bb, s, rfl, hA⟩)⟩; exact absurd h0 (by decide); have HB1 := Lib.hid hB; have HA1 := Lib.hid hA; clear hB hA)
        | (go_at_call 30; refine (wrap_more _ bb [s] (.num 2) w1 (HG.out.below HB1.out) HA1.out (hs16 s)).mono ?_; rintro r w2 ⟨b2, rfl, hA, hB⟩; have HA2 := Lib.hid hA; have HB2 := Lib.hid (HB1.out.trans (hB.mono HB1.out.size)); clear hA hB)
        | (go_at_call 32; refine (is_at_num b2 2 18 w2 HA2.out.err).mono ?_; rintro r w3 ⟨rfl, rfl⟩)
        | (go_at_call 33; refine (kind_at_num b2 2 w2 (HG.out.below HB2.out) HA2.out.err (by decide)).mono ?_; rintro r w4 ⟨rfl, hB⟩; have HB4 := Lib.hid (HB2.out.trans (hB.mono HB2.out.size)); clear hB))
      go_ret
      exact ⟨rfl, HB4.out⟩
end Go.Proofs.YtjgdglbfnjjmmaaDoor
