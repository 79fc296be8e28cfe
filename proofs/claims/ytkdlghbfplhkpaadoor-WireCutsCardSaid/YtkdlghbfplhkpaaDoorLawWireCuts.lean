/- The statement WireCuts: for every input the call returns true, and each argument reads as it read. No condition. From the walk to the row. -/
import Derived.Test.YtkdlghbfplhkpaaDoorRows
import Derived.Test.YtkdlghbfplhkpaaDoorCutR
import Derived.Test.YtkdlghbfplhkpaaDoorWSized
import Derived.Test.YtkdlghbfplhkpaaDoorOpen
import Derived.Test.YtkdlghbfplhkpaaDoorLaidH
import Derived.Test.YtkdlghbfplhkpaaDoorTie
import Derived.Test.YtkdlghbfplhkpaaDoorCards
import Derived.WalkKit
import Derived.ProofKit
import Derived.OpenShut
import Derived.ShutString
import Derived.ChangeOld
import Derived.Below
import Derived.SizedLaws
set_option linter.unusedVariables false
set_option linter.unusedSimpArgs false
namespace Go.Proofs.YtkdlghbfplhkpaaDoor.wireCuts
open Go.ChangeShapes Go.WideShapes Go.ChangeAt Go.RowKit
open Go.ChangeMaps (open_string shut_string)
open Go.Proofs.YtkdlghbfplhkpaaDoorW.PrintWords
theorem own : ownKnob Tryd.prog.godebug = none := by kernel_rfl
theorem laidOut : laidOutB Tryd.prog = true := by kernel_rfl
set_option maxRecDepth 100000 in
theorem lifted (os : Os) (started : os.Started) (H : Type) (enc : TypeId × Value → H) :
    ReturnsInHanded {} Tryd.checked os 4 .any (fun w args => (Rows.wireCutsSpec.pre enc Tryd.prog Tryd.f4 Rows.wireCutsRow.domain false w args ∧ laidMetH Tryd.prog LaidH.laid w) ∧ sizedMet enc Tryd.prog Tryd.f4 (OpenSpec.ofChange Rows.wireCutsSpec) false w args) (Rows.wireCutsSpec.post enc Tryd.prog Tryd.f4 false true false false) := by
  refine returnsInHanded_of_change_and (C := Tryd.checked) (X := fun w _ => laidMetH Tryd.prog LaidH.laid w) (fun _ _ _ hh h => h.of_heap hh) own started (by kernel_rfl) Tryd.func4
    (ChangeSpec.witness_at (enc := enc) (C := Tryd.checked) (os := os) (X := fun w _ => laidMetH Tryd.prog LaidH.laid w) false (LaidH.laidWorld os) #[.agg #[.int .i64 0, .int .i64 0, .int .i64 0, .int .i64 0, .int .i64 0, .int .i64 0, .int .i64 0, .int .i64 0, .bool false, .slice none 0 0, .slice none 0 0, .slice none 0 0, .slice none 0 0], .agg #[.int .i64 0, .int .i64 0, .int .i64 0, .string ByteArray.empty, .slice none 0 0, .int .i64 0]] 8 rfl (by kernel_rfl) (by kernel_rfl) (by kernel_rfl) (by kernel_rfl) (by kernel_rfl) (LaidH.laidWorld_met os _)) ?_
  intro W base args ds gs before hval0 hW hcnd hsz0 hL _
  have hg := LaidH.handle_of_laid hL
  have hsz : (DataW.weightsEach Tryd.prog (Tryd.f4.params.toList ++ Rows.wireCutsSpec.plain.varTypes Tryd.prog) (ds ++ gs)).all (· ≤ reachBytes) = true := hsz0
  have hval : ∀ (j : Nat) t v, Tryd.f4.params[j]? = some t → args[j]? = some v → Value.okWide Tryd.prog W .any base t v := hval0
  have hW' := hW
  obtain ⟨p, q, hA0, hV, rfl, hfz, hnd⟩ := hW
  have hA : DataW.TrodAll enc Tryd.prog W 0 (fun _ => true) true Tryd.f4.params.toList args.toList ds p := hA0
  rw [Tryd.params4] at hA hval hsz
  obtain ⟨v0, vs0, d0, ds0, p0, q0, hargs, rfl, rfl, h0, r0⟩ := trodAll_cons hA
  obtain ⟨v1, vs1, d1, ds1, p1, q1, rfl, rfl, rfl, h1, r1⟩ := trodAll_cons r0
  obtain ⟨rfl, rfl, rfl⟩ := trodAll_nil r1
  obtain rfl : args = #[v0, v1] := by cases args; simp_all
  obtain ⟨rfl, rfl⟩ := trodVars_none hV
  obtain ⟨cs0, rfl, _⟩ := okWide_struct Tryd.underlying32 (hval 0 32 v0 rfl rfl)
  have k0 := h0
  have lt0 : ∀ x ∈ p0, x.block < W.heap.size := by obtain ⟨m, hm⟩ := k0; exact DataW.trod_lt m _ _ _ hm
  obtain ⟨fu0, hf0⟩ := h0
  have hf0' : DataW.trod enc Tryd.prog W 0 (fun _ => true) true fu0 32 cs0.toList = some (d0, p0) := hf0
  obtain ⟨m0, At0, Ae0, Ao0, An0, ct0, ce0, co0, cn0, em0, hm0, ha0, hb0, hc0, hd0⟩ := openMsg hf0'
  rw [Array.toArray_toList] at em0
  have em0' := em0
  unfold msgV at em0'
  injection em0' with em0'
  subst em0'
  obtain ⟨cs1, rfl, _⟩ := okWide_struct Tryd.underlying27 (hval 1 27 v1 rfl rfl)
  have k1 := h1
  have lt1 : ∀ x ∈ p1, x.block < W.heap.size := by obtain ⟨m, hm⟩ := k1; exact DataW.trod_lt m _ _ _ hm
  obtain ⟨fu1, hf1⟩ := h1
  have hf1' : DataW.trod enc Tryd.prog W 0 (fun _ => true) true fu1 27 cs1.toList = some (d1, p1) := hf1
  obtain ⟨x1, Ax1, cx1, ex1, hx1, hy1⟩ := openEnt hf1'
  have ex1' : cs1 = (x1.cells (.slice Ax1 x1.mem.length cx1)).toArray := by rw [← ex1, Array.toArray_toList]
  subst ex1'
  clear hA0 hval0 hsz0 hsz
  refine (cuts_row m0 At0 Ae0 Ao0 An0 ct0 ce0 co0 cn0 x1 Ax1 cx1 W hg hm0 ha0 hb0 hc0 hd0 hx1 hy1).mono fun e W' ⟨he, bel⟩ => ?_
  subst he
  exact ⟨_, rfl, _, _, _, [], _, [], hW', trodAll_mk1 (shut_bool Tryd.underlying4 _), (trodAll_cons_mk (Below.trod laidOut (by kernel_rfl) (of_decide_eq_true (by kernel_rfl)) k0 bel lt0) (trodAll_cons_mk (Below.trod laidOut (by kernel_rfl) (of_decide_eq_true (by kernel_rfl)) k1 bel lt1) trodAll_mk0)), rfl, bel.frame _, fun h => by cases h⟩
theorem over : Rows.wireCutsRow.holds Tryd.pinned (OpenSpec.ofChange Rows.wireCutsSpec) :=
  OpenClaim.holds_of_wide 4 Tryd.f4 rfl rfl rfl rfl rfl rfl rfl ⟨rfl, rfl, rfl, rfl, rfl⟩ rfl rfl rfl rfl rfl (by kernel_rfl) Tryd.func4 (by kernel_rfl)
    (of_decide_eq_true (by kernel_rfl)) (by unfold Func.isWrapper; first | (rw [if_pos (by decide +kernel)]; kernel_rfl) | (rw [if_neg (by decide +kernel)]; exact ⟨rfl, rfl⟩))
    (fun os started H enc _ => lifted os started H enc)
end Go.Proofs.YtkdlghbfplhkpaaDoor.wireCuts
namespace Go.Proofs.YtkdlghbfplhkpaaDoor
theorem wireCuts_holds : Rows.WireCutsSaid := wireCuts.over
theorem wireCuts_card : Rows.WireCutsCardSaid :=
  Claim7.holds_tied_plain_at .later [] [.handle] true (true, "c52a760a935911d8b160848c5c7a87d41a0e55f36c61bbe8b0de1678aed1d398") true
    wireCuts_holds (fun _ h => by cases h) (by kernel_rfl) (fun _ h => by cases h) wireCuts_row_tie rfl ⟨rfl, rfl⟩ (by kernel_rfl) rfl
    (fun f fn hf hfn => by
      obtain rfl : f = 4 := Option.some.inj ((show Tryd.prog.funcNamed Rows.wireCutsRow.func = some 4 by kernel_rfl).symm.trans hf) |>.symm
      obtain rfl : fn = Tryd.f4 := (Option.some.inj (Tryd.func4.symm.trans hfn)).symm
      exact ⟨by kernel_rfl, fun j t ht => by
        rw [Tryd.params4] at ht
        have hw : ∀ t ∈ [27, 32], Tryd.prog.wantsStandIn t = false := by
          intro t h
          simp only [List.mem_cons, List.not_mem_nil, or_false] at h
          rcases h with rfl | rfl
          all_goals kernel_rfl
        apply hw
        have hm := List.mem_of_getElem? (by simpa using ht)
        simp only [List.mem_cons, List.not_mem_nil, or_false] at hm
        rcases hm with rfl | rfl <;> simp⟩)
    (by kernel_rfl)
#print axioms wireCuts_card
end Go.Proofs.YtkdlghbfplhkpaaDoor

