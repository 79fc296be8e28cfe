/- The walks of conf.Check, members. -/
import Derived.Test.YtjgdglbfnjjmmaaDoorPlainW
set_option linter.unusedVariables false
set_option linter.unusedSimpArgs false
namespace Go.Proofs.YtjgdglbfnjjmmaaDoor
open Go.RowKit Go.Proofs.YtjgdglbfnjjmmaaDoorW.PrintWords Go.Proofs.Mine

theorem listE_cases (l : List Int) : listE l = 0 ∨ listE l = 1 ∨ listE l = 2 ∨ listE l = 3 := by
  unfold listE
  split
  · exact .inr (.inl rfl)
  · split
    · split
      · exact .inr (.inr (.inr rfl))
      · exact .inl rfl
    · exact .inr (.inr (.inl rfl))
def checkE (o n : List Int) : Int := if listE o = 1 then 4 else if listE o = 2 then 1 else if listE n = 1 then 4 else if listE n = 2 then 1 else if listE n = 3 then 2 else 0
set_option maxHeartbeats 2000000 in
theorem check_any (w : World) (A B : Option Addr) (c d : Nat) (o n : List Int) (ho : ReadsInt w .i64 A o.length o) (hn : ReadsInt w .i64 B n.length n) :
    Calls Tryd.prog 47 #[.agg #[.slice A o.length c, .slice B n.length d]] w fun e w' => e = .returned (.int .i64 (checkE o n)) ∧ Below w.heap.size w w' := by
  have HO := Lib.hid ho
  have HN := Lib.hid hn
  clear ho hn
  have HB := Lib.hid (((Below.refl w.heap.size w).alloc (Nat.le_refl _) (.cells #[.slice A o.length c, .slice B n.length d] 29)).alloc (by simp) (.cells #[.slice A o.length c, .slice B n.length d] 22))
  rcases listE_cases o with e1 | e1 | e1 | e1
  case inr.inl | inr.inr.inl =>
    go_enter Tryd.func47, Tryd.ntmps47
    go_wp2
    refine wp_loop_rounds 3 ?_
    rw [rounds_succ]
    go_wp2_with (go_at_call 62; refine (list_any _ _ _ _ (HO.out.below HB.out)).mono ?_; rintro e w' ⟨rfl, rfl⟩; rw [e1])
    go_ret
    exact ⟨by simp [checkE, e1], HB.out⟩
  all_goals
    rcases listE_cases n with e2 | e2 | e2 | e2
    all_goals
      go_enter Tryd.func47, Tryd.ntmps47
      go_wp2
      refine wp_loop_rounds 3 ?_
      rw [rounds_succ]
      go_wp2_with (go_at_call 62; refine (list_any _ _ _ _ (HO.out.below HB.out)).mono ?_; rintro e w' ⟨rfl, rfl⟩; rw [e1])
      rw [rounds_succ]
      go_wp2_with (go_at_call 62; refine (list_any _ _ _ _ (HN.out.below HB.out)).mono ?_; rintro e w' ⟨rfl, rfl⟩; rw [e2])
      try rw [rounds_succ]
      try go_wp2
      go_ret
      exact ⟨by simp [checkE, e1, e2], HB.out⟩
set_option maxHeartbeats 1000000 in
/-- members, of a configuration that is not joint, and of one that is. -/
theorem members_any (w : World) (A B : Option Addr) (c d : Nat) (o n : List Int) (ho : ReadsInt w .i64 A o.length o) (hn : ReadsInt w .i64 B n.length n) :
    Calls Tryd.prog 26 #[.agg #[.slice A o.length c, .slice B n.length d]] w fun e w' => e = .returned (.int .i64 (if checkE o n = 0 then (if 0 < o.length then 1 else 0) else checkE o n)) ∧ Below w.heap.size w w' := by
  have HB := Lib.hid ((Below.refl w.heap.size w).alloc (Nat.le_refl _) (.cells #[.slice A o.length c, .slice B n.length d] 29))
  have HO := Lib.hid ho
  have HN := Lib.hid hn
  clear ho hn
  obtain ⟨r, hr⟩ : ∃ r, r = checkE o n := ⟨_, rfl⟩
  have HR := Lib.hid hr
  rw [← hr]
  clear hr
  have hb0 := heap_alloc_new w (.cells #[.slice A o.length c, .slice B n.length d] 29)
  by_cases h0 : r = 0
  · subst h0
    by_cases hj : 0 < o.length
    all_goals
      go_enter Tryd.func26, Tryd.ntmps26
      go_wp2_with (go_at_call 47; refine (check_any _ A B c d o n (HO.out.below HB.out) (HN.out.below HB.out)).mono ?_; rintro e w1 ⟨rfl, hB⟩; rw [← HR.out]; have HB1 := Lib.hid (HB.out.trans (hB.mono (by simp))); have hb1 := blk_below hb0 hB; have hc0 := blk_cell hb1 0; have hc1 := blk_cell hb1 1; clear hB hb1)
      go_wp2_with (go_at_call 48; refine (joint_any _ A B o.length c n.length d).mono ?_; rintro e w2 ⟨rfl, hB⟩; have HB2 := Lib.hid (HB1.out.trans (hB.mono HB1.out.size)); clear hB; try rw [decide_eq_true hj]; try rw [decide_eq_false hj])
      go_ret
      exact ⟨by simp [hj], HB2.out⟩
  · have hr0 : (r == 0) = false := by simp [h0]
    go_enter Tryd.func26, Tryd.ntmps26
    go_wp2_with (go_at_call 47; refine (check_any _ A B c d o n (HO.out.below HB.out) (HN.out.below HB.out)).mono ?_; rintro e w1 ⟨rfl, hB⟩; rw [← HR.out]; have HB1 := Lib.hid (HB.out.trans (hB.mono (by simp))); clear hB)
    go_ret
    exact ⟨by simp [h0], HB1.out⟩
end Go.Proofs.YtjgdglbfnjjmmaaDoor
