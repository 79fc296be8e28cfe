/- errors.As at a target of type **at and at one of type *Errno; closed facts on the entries of reflectlite. -/
import Derived.Test.YtkdlghbfplhkpaaDoorProg
import Derived.Test.YtkdlghbfplhkpaaDoorMem
import Derived.WalkKit
import Derived.LaidEql
import Derived.Stop.Asserts
import Derived.RowKitTokens
import Derived.Lib.Hide
set_option linter.unusedVariables false
set_option linter.unusedSimpArgs false
namespace Go.Proofs.YtkdlghbfplhkpaaDoor
open Go.RowKit Go.Extern.Stop Go.Stop Go.Extern Go.Proofs.Mine Go.Proofs.YtkdlghbfplhkpaaDoorW.PrintWords

theorem rlm (z : Sem Value) (f : TypeId → Addr → Nat → Nat → Sem Value) (v : Value) :
    ReflectliteValue.method z f #[v] = (do match ← ReflectliteValue.parts v with | none => z | some (t, a, fl) => f t a fl (fl % 32)) := rfl
theorem rls (v x : Value) : ReflectliteValue.set #[v, x] = (do
    let (some (dst, a, fl), some (src, b, _)) := (← ReflectliteValue.parts v, ← ReflectliteValue.parts x)
      | unsupported (.noEntry "extern/(internal/reflectlite.Value).Set.zeroValue")
    if fl / ReflectliteValue.flagAddr % 2 == 0 then unsupported (.noEntry "extern/(internal/reflectlite.Value).Set.unaddressable")
    let val ← loadVar src b
    if ← Rtype.directlyAssignable dst src then storeVar dst a val
    else if ← Rtype.implements dst src then
      if (← Rtype.kind src) == 20 then
        match val with
        | .nilIface => unsupported (.noEntry "extern/reflectlite: a nil value of one interface type handed on as a value of another")
        | _ => storeVar dst a val
      else storeVar dst a (.iface src val)
    else panicString ("reflectlite.Set: value of type " ++ (← Rtype.spelt src) ++ " is not assignable to type " ++ (← Rtype.spelt dst))
    pure (.tuple #[])) := rfl
theorem F.methodKind (h : Value) (w : World) : (Go.method 265 125 (.agg #[h]) "Kind").run Tryd.prog w = .ok (86, h) w := by kernel_rfl
theorem F.methodElem (h : Value) (w : World) : (Go.method 265 125 (.agg #[h]) "Elem").run Tryd.prog w = .ok (98, .agg #[h]) w := by kernel_rfl
theorem F.methodImplements (h : Value) (w : World) : (Go.method 265 125 (.agg #[h]) "Implements").run Tryd.prog w = .ok (99, .agg #[h]) w := by kernel_rfl
theorem F.methodAssignableTo (h : Value) (w : World) : (Go.method 265 125 (.agg #[h]) "AssignableTo").run Tryd.prog w = .ok (96, .agg #[h]) w := by kernel_rfl
theorem F.methodComparable (h : Value) (w : World) : (Go.method 265 125 (.agg #[h]) "Comparable").run Tryd.prog w = .ok (97, .agg #[h]) w := by kernel_rfl
theorem F.methodUnwrap (v : Value) (w : World) : (Go.method 265 108 v "Unwrap").run Tryd.prog w = .ok (91, v) w := by kernel_rfl
theorem F.typeOf44 (v : Value) (w : World) : (ReflectliteType.typeOf #[.iface 108 v]).run Tryd.prog w = .ok (.iface 125 (.agg #[.pointer (some ⟨1, 108, none⟩)])) w := by kernel_rfl
theorem F.noAs44 (v : Value) (xT : TypeId) (w : World) : (Instr.typeAssert (.iface 108 v) xT 130 true).run Tryd.prog w = .ok (.tuple #[.nilIface, .bool false]) w := run_typeAssert_lacksB Tryd.underlying130 (by kernel_rfl) (by kernel_rfl) v xT w
theorem F.noUnwraps44 (v : Value) (xT : TypeId) (w : World) : (Instr.typeAssert (.iface 108 v) xT 135 true).run Tryd.prog w = .ok (.tuple #[.nilIface, .bool false]) w := run_typeAssert_lacksB Tryd.underlying135 (by kernel_rfl) (by kernel_rfl) v xT w
theorem F.hasUnwrap44 (v : Value) (xT : TypeId) (w : World) : (Instr.typeAssert (.iface 108 v) xT 133 true).run Tryd.prog w = .ok (.tuple #[.iface 108 v, .bool true]) w := run_typeAssert_hasB Tryd.underlying133 (by kernel_rfl) v xT w
theorem F.typeOf27 (v : Value) (w : World) : (ReflectliteType.typeOf #[.iface 33 v]).run Tryd.prog w = .ok (.iface 125 (.agg #[.pointer (some ⟨1, 33, none⟩)])) w := by kernel_rfl
theorem F.noAs27 (v : Value) (xT : TypeId) (w : World) : (Instr.typeAssert (.iface 33 v) xT 130 true).run Tryd.prog w = .ok (.tuple #[.nilIface, .bool false]) w := run_typeAssert_lacksB Tryd.underlying130 (by kernel_rfl) (by kernel_rfl) v xT w
theorem F.noUnwraps27 (v : Value) (xT : TypeId) (w : World) : (Instr.typeAssert (.iface 33 v) xT 135 true).run Tryd.prog w = .ok (.tuple #[.nilIface, .bool false]) w := run_typeAssert_lacksB Tryd.underlying135 (by kernel_rfl) (by kernel_rfl) v xT w
theorem F.noUnwrap27 (v : Value) (xT : TypeId) (w : World) : (Instr.typeAssert (.iface 33 v) xT 133 true).run Tryd.prog w = .ok (.tuple #[.nilIface, .bool false]) w := run_typeAssert_lacksB Tryd.underlying133 (by kernel_rfl) (by kernel_rfl) v xT w
/-! ### the target's type 47, its element's 44 -/
theorem F.kind44 (w : World) : ((ReflectliteType.abiMethod fun t => (fun a : Nat => Value.int IntKind.u8 (a : Int)) <$> Rtype.kind t) #[.pointer (some ⟨1, 108, none⟩)]).run Tryd.prog w = .ok (.int .u8 22) w := by kernel_rfl
theorem F.implements44 (w : World) : (ReflectliteType.relation "Implements" ReflectliteType.implements_ #[.agg #[.pointer (some ⟨1, 108, none⟩)], .iface 125 (.agg #[.pointer (some ⟨1, 68, none⟩)])]).run Tryd.prog w = .ok (.bool true) w := by kernel_rfl
theorem F.valueOf44 (e : Addr) (w : World) : (ReflectliteValue.unpack (.iface 108 (.pointer (some e)))).run Tryd.prog w
    = .ok (.agg #[.pointer (some ⟨1, 108, none⟩), .pointer (some ⟨w.heap.size, 0, none⟩), .int .u64 150]) (w.alloc (.cells #[.pointer (some e)] 108)) := by kernel_rfl
theorem F.mk44 (p : Addr) (w : World) : (ReflectliteValue.mk 108 p ReflectliteValue.flagAddr).run Tryd.prog w = .ok (.agg #[.pointer (some ⟨1, 108, none⟩), .pointer (some p), .int .u64 406]) w := by kernel_rfl
theorem F.parts44a (a : Addr) (w : World) : (ReflectliteValue.parts (.agg #[.pointer (some ⟨1, 108, none⟩), .pointer (some a), .int .u64 406])).run Tryd.prog w = .ok (some (108, a, 406)) w := by kernel_rfl
theorem F.parts44 (a : Addr) (w : World) : (ReflectliteValue.parts (.agg #[.pointer (some ⟨1, 108, none⟩), .pointer (some a), .int .u64 150])).run Tryd.prog w = .ok (some (108, a, 150)) w := by kernel_rfl
theorem F.direct44 (w : World) : (Rtype.directlyAssignable 108 108).run Tryd.prog w = .ok true w := by kernel_rfl
theorem F.size44 (w : World) : (sizeOf 108).run Tryd.prog w = .ok 1 w := by kernel_rfl
theorem F.agg44 (w : World) : (isAgg 108).run Tryd.prog w = .ok false w := by kernel_rfl
theorem F.set44 (ta b : Addr) (e : Addr) (old : Value) (W : World) (hb : W.cell? b = some (.pointer (some e))) (ht : W.cell? ta = some old) (hf : W.frozen? ta = false) :
    (ReflectliteValue.set #[.agg #[.pointer (some ⟨1, 108, none⟩), .pointer (some ta), .int .u64 406], .agg #[.pointer (some ⟨1, 108, none⟩), .pointer (some b), .int .u64 150]]).run Tryd.prog W
      = .ok (.tuple #[]) (W.setCell ta (.pointer (some e))) := by
  rw [rls]
  simp only [Sem.run_bind, F.parts44a, F.parts44, Result.andThen]
  simp [ReflectliteValue.flagAddr, loadVar, F.agg44, hb, Result.andThen, F.direct44, storeVar, Value.cells, storeCells, Addr.add, F.size44]
  rw [run_store Tryd.prog W ta _ _ (by rfl)]
  simp [ht, hf]
theorem F.assign44to44 (w : World) : (ReflectliteType.relation "AssignableTo" ReflectliteType.assignableTo #[.agg #[.pointer (some ⟨1, 108, none⟩)], .iface 125 (.agg #[.pointer (some ⟨1, 108, none⟩)])]).run Tryd.prog w = .ok (.bool true) w := by kernel_rfl
theorem F.assign27to44 (w : World) : (ReflectliteType.relation "AssignableTo" ReflectliteType.assignableTo #[.agg #[.pointer (some ⟨1, 33, none⟩)], .iface 125 (.agg #[.pointer (some ⟨1, 108, none⟩)])]).run Tryd.prog w = .ok (.bool false) w := by kernel_rfl
/-! ### the target's type 36, its element's 27 -/
theorem F.valueOf36 (t : Addr) (w : World) : (ReflectliteValue.unpack (.iface 107 (.pointer (some t)))).run Tryd.prog w
    = .ok (.agg #[.pointer (some ⟨1, 107, none⟩), .pointer (some ⟨w.heap.size, 0, none⟩), .int .u64 150]) (w.alloc (.cells #[.pointer (some t)] 107)) := by kernel_rfl
theorem F.type36 (a : Addr) (w : World) : (ReflectliteValue.methodAny (ReflectliteValue.valueError "reflectlite.Value.Type" 0) (fun t _ _ _ => ReflectliteType.toType t) #[.agg #[.pointer (some ⟨1, 107, none⟩), .pointer (some a), .int .u64 150]]).run Tryd.prog w
    = .ok (.iface 125 (.agg #[.pointer (some ⟨1, 107, none⟩)])) w := by kernel_rfl
theorem F.kind36 (w : World) : ((ReflectliteType.abiMethod fun t => (fun a : Nat => Value.int IntKind.u8 (a : Int)) <$> Rtype.kind t) #[.pointer (some ⟨1, 107, none⟩)]).run Tryd.prog w = .ok (.int .u8 22) w := by kernel_rfl
theorem F.kind27 (w : World) : ((ReflectliteType.abiMethod fun t => (fun a : Nat => Value.int IntKind.u8 (a : Int)) <$> Rtype.kind t) #[.pointer (some ⟨1, 33, none⟩)]).run Tryd.prog w = .ok (.int .u8 2) w := by kernel_rfl
theorem F.parts36 (a : Addr) (w : World) : (ReflectliteValue.parts (.agg #[.pointer (some ⟨1, 107, none⟩), .pointer (some a), .int .u64 150])).run Tryd.prog w = .ok (some (107, a, 150)) w := by kernel_rfl
theorem F.isNil36 (a p : Addr) (W : World) (ha : W.cell? a = some (.pointer (some p))) :
    (ReflectliteValue.method (ReflectliteValue.valueError "reflectlite.Value.IsNil" 0) ReflectliteValue.isNil #[.agg #[.pointer (some ⟨1, 107, none⟩), .pointer (some a), .int .u64 150]]).run Tryd.prog W = .ok (.bool false) W := by
  rw [rlm]
  simp only [Sem.run_bind, F.parts36, Result.andThen]
  simp [ReflectliteValue.isNil, loadVar, isAgg, underlying, Tryd.underlying107, ha, Result.andThen]
theorem F.elem36 (w : World) : (ReflectliteType.method ReflectliteType.elem #[.agg #[.pointer (some ⟨1, 107, none⟩)]]).run Tryd.prog w = .ok (.iface 125 (.agg #[.pointer (some ⟨1, 33, none⟩)])) w := by kernel_rfl
theorem F.implements27 (w : World) : (ReflectliteType.relation "Implements" ReflectliteType.implements_ #[.agg #[.pointer (some ⟨1, 33, none⟩)], .iface 125 (.agg #[.pointer (some ⟨1, 68, none⟩)])]).run Tryd.prog w = .ok (.bool true) w := by kernel_rfl
theorem F.valueOf27 (e : Int) (w : World) : (ReflectliteValue.unpack (.iface 33 (.int .i64 e))).run Tryd.prog w
    = .ok (.agg #[.pointer (some ⟨1, 33, none⟩), .pointer (some ⟨w.heap.size, 0, none⟩), .int .u64 130]) (w.alloc (.cells #[.int .i64 e] 33)) := by kernel_rfl
theorem F.elemOf36 (w : World) : (Rtype.elem? 107).run Tryd.prog w = .ok (some 33) w := by kernel_rfl
theorem F.mk27 (p : Addr) (w : World) : (ReflectliteValue.mk 33 p ReflectliteValue.flagAddr).run Tryd.prog w = .ok (.agg #[.pointer (some ⟨1, 33, none⟩), .pointer (some p), .int .u64 386]) w := by kernel_rfl
theorem F.elemV36 (a p : Addr) (W : World) (ha : W.cell? a = some (.pointer (some p))) :
    (ReflectliteValue.method (ReflectliteValue.valueError "reflectlite.Value.Elem" 0) ReflectliteValue.elem #[.agg #[.pointer (some ⟨1, 107, none⟩), .pointer (some a), .int .u64 150]]).run Tryd.prog W
      = .ok (.agg #[.pointer (some ⟨1, 33, none⟩), .pointer (some p), .int .u64 386]) W := by
  rw [rlm]
  simp only [Sem.run_bind, F.parts36, Result.andThen]
  simp [ReflectliteValue.elem, loadVar, isAgg, underlying, Tryd.underlying107, ha, Result.andThen, F.elemOf36, F.mk27]
theorem F.parts27a (a : Addr) (w : World) : (ReflectliteValue.parts (.agg #[.pointer (some ⟨1, 33, none⟩), .pointer (some a), .int .u64 386])).run Tryd.prog w = .ok (some (33, a, 386)) w := by kernel_rfl
theorem F.parts27 (a : Addr) (w : World) : (ReflectliteValue.parts (.agg #[.pointer (some ⟨1, 33, none⟩), .pointer (some a), .int .u64 130])).run Tryd.prog w = .ok (some (33, a, 130)) w := by kernel_rfl
theorem F.direct27 (w : World) : (Rtype.directlyAssignable 33 33).run Tryd.prog w = .ok true w := by kernel_rfl
theorem F.size27 (w : World) : (sizeOf 33).run Tryd.prog w = .ok 1 w := by kernel_rfl
theorem F.agg27 (w : World) : (isAgg 33).run Tryd.prog w = .ok false w := by kernel_rfl
theorem F.set27 (ta b : Addr) (e : Int) (old : Value) (W : World) (hb : W.cell? b = some (.int .i64 e)) (ht : W.cell? ta = some old) (hf : W.frozen? ta = false) :
    (ReflectliteValue.set #[.agg #[.pointer (some ⟨1, 33, none⟩), .pointer (some ta), .int .u64 386], .agg #[.pointer (some ⟨1, 33, none⟩), .pointer (some b), .int .u64 130]]).run Tryd.prog W
      = .ok (.tuple #[]) (W.setCell ta (.int .i64 e)) := by
  rw [rls]
  simp only [Sem.run_bind, F.parts27a, F.parts27, Result.andThen]
  simp [ReflectliteValue.flagAddr, loadVar, F.agg27, hb, Result.andThen, F.direct27, storeVar, Value.cells, storeCells, Addr.add, F.size27]
  rw [run_store Tryd.prog W ta _ _ (by rfl)]
  simp [ht, hf]
theorem F.assign44to27 (w : World) : (ReflectliteType.relation "AssignableTo" ReflectliteType.assignableTo #[.agg #[.pointer (some ⟨1, 108, none⟩)], .iface 125 (.agg #[.pointer (some ⟨1, 33, none⟩)])]).run Tryd.prog w = .ok (.bool false) w := by kernel_rfl
theorem F.assign27to27 (w : World) : (ReflectliteType.relation "AssignableTo" ReflectliteType.assignableTo #[.agg #[.pointer (some ⟨1, 33, none⟩)], .iface 125 (.agg #[.pointer (some ⟨1, 33, none⟩)])]).run Tryd.prog w = .ok (.bool true) w := by kernel_rfl
end Go.Proofs.YtkdlghbfplhkpaaDoor
