/- errors.Is at a number, by its contracts; slices.Clone. -/
import Derived.Test.YtgkhkcoojfjofaaDoorAsW
import Derived.Deep.RegionWith
set_option linter.unusedVariables false
set_option linter.unusedSimpArgs false
namespace Go.Proofs.YtgkhkcoojfjofaaDoor
open Go.RowKit Go.Extern.Stop Go.Stop Go.Extern Go.Proofs.Mine Go.Proofs.YtgkhkcoojfjofaaDoorW.PrintWords

theorem F.comp27 : (Tryd.prog.info? 33).map (·.comparable) = some true := by kernel_rfl
theorem F.comparable27 (w : World) : ((ReflectliteType.method fun t => do Rtype.noPackHeld "Comparable" t; (fun a => Value.bool a.comparable) <$> typeInfo t) #[.agg #[.pointer (some ⟨1, 33, none⟩)]]).run Tryd.prog w = .ok (.bool true) w := by kernel_rfl
theorem F.eqlNum (n m : Int) (w : World) : (binOp .eql 68 (.iface 33 (.int .i64 n)) (.iface 33 (.int .i64 m))).run Tryd.prog w = .ok (.bool (n == m)) w := by
  obtain ⟨i, hi, hcmp⟩ := Option.map_eq_some_iff.1 F.comp27
  have h : ∀ d : Nat, (Op.equalIn (d + 2) 68 (.iface 33 (.int .i64 n)) (.iface 33 (.int .i64 m))).run Tryd.prog w = .ok (n == m) w := fun d => by
    simp [Op.equalIn, run_underlying Tryd.underlying68, run_underlying Tryd.underlying33, typeInfo, hi, hcmp]
  simp only [binOp]
  simp [Op.equal, Op.maxDepth, h 9998]
set_option maxHeartbeats 4000000 in
theorem is_num (n : Int) (m : Int) (w : World) :
    Calls Tryd.prog 33 #[.iface 33 (.int .i64 n), .iface 33 (.int .i64 m)] w fun ev w' => ev = .returned (.bool (n == m)) ∧ w = w' := by
  have h25 := @run_callFunc_extern Tryd.prog 40 _ ReflectliteType.typeOf Tryd.func40 (by kernel_rfl) (by kernel_rfl) (by kernel_rfl) (by kernel_rfl)
  have h55 := @run_callFunc_extern Tryd.prog 87 _ (ReflectliteType.method fun t => do Rtype.noPackHeld "Comparable" t; pure (.bool (← typeInfo t).comparable)) Tryd.func87 (by kernel_rfl) (by kernel_rfl) (by kernel_rfl) (by kernel_rfl)
  have f1 := F.typeOf27
  have f2 := F.methodComparable
  have f3 := F.comparable27
  have g03 := F.noIs27
  have g04 := F.noUnwraps27
  have g05 := F.noUnwrap27
  have g07 := F.eqlNum
  by_cases hnm : n = m
  · subst hnm
    have hbb : (n == n) = true := by simp
    rw [hbb]
    go_enter Tryd.func33, Tryd.ntmps33
    go_wp2
    refine wp_loop_rounds 1 ?_
    rw [rounds_succ]
    go_wp2
    go_ret
    exact ⟨rfl, rfl⟩
  · have hbb : (n == m) = false := by simp [hnm]
    rw [hbb]
    go_enter Tryd.func33, Tryd.ntmps33
    go_wp2
    refine wp_loop_rounds 1 ?_
    rw [rounds_succ]
    go_wp2
    go_ret
    exact ⟨rfl, rfl⟩
set_option maxHeartbeats 4000000 in
theorem is_at_num (b : Nat) (n : Int) (m : Int) (w : World) (hb : w.cell? ⟨b, 1, none⟩ = some (.iface 33 (.int .i64 n))) :
    Calls Tryd.prog 33 #[.iface 84 (.pointer (some ⟨b, 0, none⟩)), .iface 33 (.int .i64 m)] w fun ev w' => ev = .returned (.bool (n == m)) ∧ w = w' := by
  have h25 := @run_callFunc_extern Tryd.prog 40 _ ReflectliteType.typeOf Tryd.func40 (by kernel_rfl) (by kernel_rfl) (by kernel_rfl) (by kernel_rfl)
  have h55 := @run_callFunc_extern Tryd.prog 87 _ (ReflectliteType.method fun t => do Rtype.noPackHeld "Comparable" t; pure (.bool (← typeInfo t).comparable)) Tryd.func87 (by kernel_rfl) (by kernel_rfl) (by kernel_rfl) (by kernel_rfl)
  have f1 := F.typeOf27
  have f2 := F.methodComparable
  have f3 := F.comparable27
  have g03 := F.noIs44
  have g04 := F.noUnwraps44
  have g05 := F.hasUnwrap44
  have g06 := F.methodUnwrap
  have g07 := run_eql_iface_types (P := Tryd.prog) 84 33 (.pointer (some ⟨b, 0, none⟩)) (.int .i64 m) Tryd.underlying68 (by decide)
  have g13 := F.noIs27
  have g14 := F.noUnwraps27
  have g15 := F.noUnwrap27
  have g17 := F.eqlNum
  by_cases hnm : n = m
  · subst hnm
    have hbb : (n == n) = true := by simp
    rw [hbb]
    go_enter Tryd.func33, Tryd.ntmps33
    go_wp2
    refine wp_loop_rounds 2 ?_
    rw [rounds_succ]
    go_wp2_with (go_at_call 84; refine (unwrap_any _ b _ hb).mono ?_; rintro e1 w1 ⟨rfl, rfl⟩)
    rw [rounds_succ]
    go_wp2
    go_ret
    exact ⟨rfl, rfl⟩
  · have hbb : (n == m) = false := by simp [hnm]
    rw [hbb]
    go_enter Tryd.func33, Tryd.ntmps33
    go_wp2
    refine wp_loop_rounds 2 ?_
    rw [rounds_succ]
    go_wp2_with (go_at_call 84; refine (unwrap_any _ b _ hb).mono ?_; rintro e1 w1 ⟨rfl, rfl⟩)
    rw [rounds_succ]
    go_wp2
    go_ret
    exact ⟨rfl, rfl⟩
theorem F.info9 : (Tryd.prog.info? 9).map (fun i => (i.zero, i.size, i.bytes)) = some (some (.string ByteArray.empty), 1, 16) := by kernel_rfl
end Go.Proofs.YtgkhkcoojfjofaaDoor
