/- errors.Is at a number, by its contracts; slices.Clone. -/
import Derived.Test.YtkdlghbfplhkpaaDoorAsW
import Derived.Deep.RegionWith
set_option linter.unusedVariables false
set_option linter.unusedSimpArgs false
namespace Go.Proofs.YtkdlghbfplhkpaaDoor
open Go.RowKit Go.Extern.Stop Go.Stop Go.Extern Go.Proofs.Mine Go.Proofs.YtkdlghbfplhkpaaDoorW.PrintWords

theorem F.comp27 : (Tryd.prog.info? 33).map (·.comparable) = some true := by kernel_rfl
theorem F.comparable27 (w : World) : ((ReflectliteType.method fun t => do Rtype.noPackHeld "Comparable" t; (fun a => Value.bool a.comparable) <$> typeInfo t) #[.agg #[.pointer (some ⟨1, 33, none⟩)]]).run Tryd.prog w = .ok (.bool true) w := by kernel_rfl
theorem F.eqlNum (n m : Int) (w : World) : (binOp .eql 68 (.iface 33 (.int .i64 n)) (.iface 33 (.int .i64 m))).run Tryd.prog w = .ok (.bool (n == m)) w := by
  obtain ⟨i, hi, hcmp⟩ := Option.map_eq_some_iff.1 F.comp27
  have h : ∀ d : Nat, (Op.equalIn (d + 2) 68 (.iface 33 (.int .i64 n)) (.iface 33 (.int .i64 m))).run Tryd.prog w = .ok (n == m) w := fun d => by
    simp [Op.equalIn, run_underlying Tryd.underlying68, run_underlying Tryd.underlying33, typeInfo, hi, hcmp]
  simp only [binOp]
  simp [Op.equal, Op.maxDepth, h 9998]
theorem F.info9 : (Tryd.prog.info? 9).map (fun i => (i.zero, i.size, i.bytes)) = some (some (.string ByteArray.empty), 1, 16) := by kernel_rfl
end Go.Proofs.YtkdlghbfplhkpaaDoor
