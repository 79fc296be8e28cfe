/- The statement AcceptChosen: for every input the call returns true, and each argument reads as it read. No condition. From the walk to the row. -/
import Derived.Test.YtgkhkcoojfjofaaDoorRows
import Derived.Test.YtgkhkcoojfjofaaDoorChoR
import Derived.Test.YtgkhkcoojfjofaaDoorWSized
import Derived.Test.YtgkhkcoojfjofaaDoorOpen
import Derived.Test.YtgkhkcoojfjofaaDoorLaidH
import Derived.Test.YtgkhkcoojfjofaaDoorTie
import Derived.Test.YtgkhkcoojfjofaaDoorCards
import Derived.WalkKit
import Derived.ProofKit
import Derived.OpenShut
import Derived.ShutString
import Derived.ChangeOld
import Derived.Below
import Derived.SizedLaws
set_option linter.unusedVariables false
set_option linter.unusedSimpArgs false
namespace Go.Proofs.YtgkhkcoojfjofaaDoor.acceptChosen
open Go.ChangeShapes Go.WideShapes Go.ChangeAt Go.RowKit
open Go.ChangeMaps (open_string shut_string)
open Go.Proofs.YtgkhkcoojfjofaaDoorW.PrintWords
theorem own : ownKnob Tryd.prog.godebug = none := by kernel_rfl
theorem laidOut : laidOutB Tryd.prog = true := by kernel_rfl
set_option maxRecDepth 100000 in
theorem lifted (os : Os) (started : os.Started) (H : Type) (enc : TypeId × Value → H) :
    ReturnsInHanded {} Tryd.checked os 7 .any (fun w args => (Rows.acceptChosenSpec.pre enc Tryd.prog Tryd.f7 Rows.acceptChosenRow.domain false w args ∧ laidMetH Tryd.prog LaidH.laid w) ∧ sizedMet enc Tryd.prog Tryd.f7 (OpenSpec.ofChange Rows.acceptChosenSpec) false w args) (Rows.acceptChosenSpec.post enc Tryd.prog Tryd.f7 false true false false) := by
  refine returnsInHanded_of_change_and (C := Tryd.checked) (X := fun w _ => laidMetH Tryd.prog LaidH.laid w) (fun _ _ _ hh h => h.of_heap hh) own started (by kernel_rfl) Tryd.func7
    (ChangeSpec.witness_at (enc := enc) (C := Tryd.checked) (os := os) (X := fun w _ => laidMetH Tryd.prog LaidH.laid w) false (LaidH.laidWorld os) #[.int .i64 0, .slice none 0 0, .slice none 0 0, .slice none 0 0] 8 rfl (by kernel_rfl) (by kernel_rfl) (by kernel_rfl) (by kernel_rfl) (by kernel_rfl) (LaidH.laidWorld_met os _)) ?_
  intro W base args ds gs before hval0 hW hcnd hsz0 hL _
  have hg := LaidH.handle_of_laid hL
  have hsz : (DataW.weightsEach Tryd.prog (Tryd.f7.params.toList ++ Rows.acceptChosenSpec.plain.varTypes Tryd.prog) (ds ++ gs)).all (· ≤ reachBytes) = true := hsz0
  have hval : ∀ (j : Nat) t v, Tryd.f7.params[j]? = some t → args[j]? = some v → Value.okWide Tryd.prog W .any base t v := hval0
  have hW' := hW
  obtain ⟨p, q, hA0, hV, rfl, hfz, hnd⟩ := hW
  have hA : DataW.TrodAll enc Tryd.prog W 0 (fun _ => true) true Tryd.f7.params.toList args.toList ds p := hA0
  rw [Tryd.params7] at hA hval hsz
  obtain ⟨v0, vs0, d0, ds0, p0, q0, hargs, rfl, rfl, h0, r0⟩ := trodAll_cons hA
  obtain ⟨v1, vs1, d1, ds1, p1, q1, rfl, rfl, rfl, h1, r1⟩ := trodAll_cons r0
  obtain ⟨v2, vs2, d2, ds2, p2, q2, rfl, rfl, rfl, h2, r2⟩ := trodAll_cons r1
  obtain ⟨v3, vs3, d3, ds3, p3, q3, rfl, rfl, rfl, h3, r3⟩ := trodAll_cons r2
  obtain ⟨rfl, rfl, rfl⟩ := trodAll_nil r3
  obtain rfl : args = #[v0, v1, v2, v3] := by cases args; simp_all
  obtain ⟨rfl, rfl⟩ := trodVars_none hV
  obtain ⟨a0, rfl, rfl, rfl, w0⟩ := open_int Tryd.underlying3 (hval 0 3 v0 rfl rfl) h0
  obtain ⟨a1, len1, cap1, rfl⟩ := okWide_slice Tryd.underlying27 (hval 1 27 v1 rfl rfl)
  have k1 := h1
  have lt1 : ∀ x ∈ p1, x.block < W.heap.size := by obtain ⟨m, hm⟩ := k1; exact DataW.trod_lt m _ _ _ hm
  have y1 : len1 * 8 ≤ 140737488351232 := sized_ints hsz (j := 1) (t := 27) rfl rfl Tryd.underlying27 Tryd.underlying3 (by kernel_rfl) (by kernel_rfl) h1
  obtain ⟨l1, rfl, hr1, hc1, hw1⟩ := Mine.ints_of_trod Tryd.underlying27 Tryd.underlying3 (by kernel_rfl) h1
  obtain ⟨a2, len2, cap2, rfl⟩ := okWide_slice Tryd.underlying27 (hval 2 27 v2 rfl rfl)
  have k2 := h2
  have lt2 : ∀ x ∈ p2, x.block < W.heap.size := by obtain ⟨m, hm⟩ := k2; exact DataW.trod_lt m _ _ _ hm
  have y2 : len2 * 8 ≤ 140737488351232 := sized_ints hsz (j := 2) (t := 27) rfl rfl Tryd.underlying27 Tryd.underlying3 (by kernel_rfl) (by kernel_rfl) h2
  obtain ⟨l2, rfl, hr2, hc2, hw2⟩ := Mine.ints_of_trod Tryd.underlying27 Tryd.underlying3 (by kernel_rfl) h2
  obtain ⟨a3, len3, cap3, rfl⟩ := okWide_slice Tryd.underlying27 (hval 3 27 v3 rfl rfl)
  have k3 := h3
  have lt3 : ∀ x ∈ p3, x.block < W.heap.size := by obtain ⟨m, hm⟩ := k3; exact DataW.trod_lt m _ _ _ hm
  have y3 : len3 * 8 ≤ 140737488351232 := sized_ints hsz (j := 3) (t := 27) rfl rfl Tryd.underlying27 Tryd.underlying3 (by kernel_rfl) (by kernel_rfl) h3
  obtain ⟨l3, rfl, hr3, hc3, hw3⟩ := Mine.ints_of_trod Tryd.underlying27 Tryd.underlying3 (by kernel_rfl) h3
  clear hA0 hval0 hsz0 hsz
  refine (chosen_row a0 a1 cap1 l1 a2 cap2 l2 a3 cap3 l3 W hg w0 hr1 hc1 y1 hw1 hr2 hc2 y2 hw2 hr3 hc3 y3 hw3).mono fun e W' ⟨he, bel⟩ => ?_
  subst he
  exact ⟨_, rfl, _, _, _, [], _, [], hW', trodAll_mk1 (shut_bool Tryd.underlying4 _), (trodAll_cons_mk (shut_int Tryd.underlying3 w0) (trodAll_cons_mk (Below.trod laidOut (by kernel_rfl) (of_decide_eq_true (by kernel_rfl)) k1 bel lt1) (trodAll_cons_mk (Below.trod laidOut (by kernel_rfl) (of_decide_eq_true (by kernel_rfl)) k2 bel lt2) (trodAll_cons_mk (Below.trod laidOut (by kernel_rfl) (of_decide_eq_true (by kernel_rfl)) k3 bel lt3) trodAll_mk0)))), rfl, bel.frame _, fun h => by cases h⟩
theorem over : Rows.acceptChosenRow.holds Tryd.pinned (OpenSpec.ofChange Rows.acceptChosenSpec) :=
  OpenClaim.holds_of_wide 7 Tryd.f7 rfl rfl rfl rfl rfl rfl rfl ⟨rfl, rfl, rfl, rfl, rfl⟩ rfl rfl rfl rfl rfl (by kernel_rfl) Tryd.func7 (by kernel_rfl)
    (of_decide_eq_true (by kernel_rfl)) (by unfold Func.isWrapper; first | (rw [if_pos (by decide +kernel)]; kernel_rfl) | (rw [if_neg (by decide +kernel)]; exact ⟨rfl, rfl⟩))
    (fun os started H enc _ => lifted os started H enc)
end Go.Proofs.YtgkhkcoojfjofaaDoor.acceptChosen
namespace Go.Proofs.YtgkhkcoojfjofaaDoor
theorem acceptChosen_holds : Rows.AcceptChosenSaid := acceptChosen.over
theorem acceptChosen_card : Rows.AcceptChosenCardSaid :=
  Claim7.holds_tied_plain_at .later [] [.handle] true (true, "bd88729e739a071b730520ecf50148d3539346b64f37e39cf94b01af7b6ac129") true
    acceptChosen_holds (fun _ h => by cases h) (by kernel_rfl) (fun _ h => by cases h) acceptChosen_row_tie rfl ⟨rfl, rfl⟩ (by kernel_rfl) rfl
    (fun f fn hf hfn => by
      obtain rfl : f = 7 := Option.some.inj ((show Tryd.prog.funcNamed Rows.acceptChosenRow.func = some 7 by kernel_rfl).symm.trans hf) |>.symm
      obtain rfl : fn = Tryd.f7 := (Option.some.inj (Tryd.func7.symm.trans hfn)).symm
      exact ⟨by kernel_rfl, fun j t ht => by
        rw [Tryd.params7] at ht
        have hw : ∀ t ∈ [27, 3], Tryd.prog.wantsStandIn t = false := by
          intro t h
          simp only [List.mem_cons, List.not_mem_nil, or_false] at h
          rcases h with rfl | rfl
          all_goals kernel_rfl
        apply hw
        have hm := List.mem_of_getElem? (by simpa using ht)
        simp only [List.mem_cons, List.not_mem_nil, or_false] at hm
        rcases hm with rfl | rfl | rfl | rfl <;> simp⟩)
    (by kernel_rfl)
#print axioms acceptChosen_card
end Go.Proofs.YtgkhkcoojfjofaaDoor

