/- errors.As by its contracts: a target of type **at, one of type *Errno. -/
import Derived.Test.YtkdlghbfplhkpaaDoorFactsW
import Derived.WalkSpells
import Derived.WalkLawsBesides
set_option linter.unusedVariables false
set_option linter.unusedSimpArgs false
namespace Go.Proofs.YtkdlghbfplhkpaaDoor
open Go.RowKit Go.Extern.Stop Go.Stop Go.Extern Go.Proofs.Mine Go.Proofs.YtkdlghbfplhkpaaDoorW.PrintWords

/-- The one package-level variable, as it is laid. -/
def Laid (w : World) : Prop := w.cell? ⟨0, 0, none⟩ = some (.iface 125 (.agg #[.pointer (some ⟨1, 68, none⟩)]))
theorem Laid.below {w w1 : World} (h : Laid w) (k : Below w.heap.size w w1) : Laid w1 := pw_cell_below k h
theorem Laid.alloc {w : World} (h : Laid w) (o : Obj) : Laid (w.alloc o) := h.below ((Below.refl _ _).alloc (Nat.le_refl _) o)
/-- What As leaves where it tells true: the target is set; what there was else is as it was. -/
def AsSet (w w' : World) (t : Addr) (v : Value) : Prop := Keep (fun k => k = t.block) w w' ∧ w'.cell? t = some v ∧ w'.frozen? t = false
theorem unwrap_any (w : World) (b : Nat) (v : Value) (h : w.cell? ⟨b, 1, none⟩ = some v) : Calls Tryd.prog 91 #[.pointer (some ⟨b, 0, none⟩)] w fun e w' => e = .returned v ∧ w = w' := by
  go_enter Tryd.func91, Tryd.ntmps91
  go_wp2
  go_ret
  exact ⟨rfl, rfl⟩
theorem as_nil (t : Value) (w : World) : Calls Tryd.prog 64 #[.nilIface, t] w fun e w' => e = .returned (.bool false) ∧ w = w' := by
  go_enter Tryd.func64, Tryd.ntmps64
  go_wp2
  go_ret
  exact ⟨rfl, rfl⟩
set_option maxHeartbeats 4000000 in
theorem as_no_num (n : Int) (tb : Nat) (old : Value) (w : World) (hg : Laid w) (ht0 : w.cell? ⟨tb, 0, none⟩ = some old) (hf0 : w.frozen? ⟨tb, 0, none⟩ = false) :
    Calls Tryd.prog 64 #[.iface 33 (.int .i64 n), .iface 107 (.pointer (some ⟨tb, 0, none⟩))] w fun ev w' => ev = .returned (.bool true) ∧ AsSet w w' ⟨tb, 0, none⟩ (.int .i64 n) := by
  have h21 := @run_callFunc_extern Tryd.prog 65 _ (fun args => ReflectliteValue.unpack (args.getD 0 (.tuple #[]))) Tryd.func65 (by kernel_rfl) (by kernel_rfl) (by kernel_rfl) (by kernel_rfl)
  have h22 := @run_callFunc_extern Tryd.prog 66 _ (ReflectliteValue.methodAny (ReflectliteValue.valueError "reflectlite.Value.Type" 0) (fun t _ _ _ => ReflectliteType.toType t)) Tryd.func66 (by kernel_rfl) (by kernel_rfl) (by kernel_rfl) (by kernel_rfl)
  have h23 := @run_callFunc_extern Tryd.prog 67 _ (ReflectliteValue.method (ReflectliteValue.valueError "reflectlite.Value.IsNil" 0) ReflectliteValue.isNil) Tryd.func67 (by kernel_rfl) (by kernel_rfl) (by kernel_rfl) (by kernel_rfl)
  have h43 := @run_callFunc_extern Tryd.prog 86 _ (ReflectliteType.abiMethod fun t => do pure (.int .u8 (← Rtype.kind t))) Tryd.func86 (by kernel_rfl) (by kernel_rfl) (by kernel_rfl) (by kernel_rfl)
  have h56 := @run_callFunc_extern Tryd.prog 98 _ (ReflectliteType.method ReflectliteType.elem) Tryd.func98 (by kernel_rfl) (by kernel_rfl) (by kernel_rfl) (by kernel_rfl)
  have h57 := @run_callFunc_extern Tryd.prog 99 _ (ReflectliteType.relation "Implements" ReflectliteType.implements_) Tryd.func99 (by kernel_rfl) (by kernel_rfl) (by kernel_rfl) (by kernel_rfl)
  have h25 := @run_callFunc_extern Tryd.prog 69 _ ReflectliteType.typeOf Tryd.func69 (by kernel_rfl) (by kernel_rfl) (by kernel_rfl) (by kernel_rfl)
  have h54 := @run_callFunc_extern Tryd.prog 96 _ (ReflectliteType.relation "AssignableTo" ReflectliteType.assignableTo) Tryd.func96 (by kernel_rfl) (by kernel_rfl) (by kernel_rfl) (by kernel_rfl)
  have h27 := @run_callFunc_extern Tryd.prog 70 _ (ReflectliteValue.method (ReflectliteValue.valueError "reflectlite.Value.Elem" 0) ReflectliteValue.elem) Tryd.func70 (by kernel_rfl) (by kernel_rfl) (by kernel_rfl) (by kernel_rfl)
  have h28 := @run_callFunc_extern Tryd.prog 71 _ ReflectliteValue.set Tryd.func71 (by kernel_rfl) (by kernel_rfl) (by kernel_rfl) (by kernel_rfl)
  have f1 := F.valueOf36
  have f2 := F.type36
  have f3 := F.methodKind
  have f4 := F.methodElem
  have f5 := F.methodImplements
  have f6 := F.methodAssignableTo
  have f7 := F.kind36
  have f8 := F.kind27
  have f9 := F.elem36
  have f10 := F.implements27
  have f11 := F.valueOf27
  have g01 := F.typeOf27
  have g02 := F.assign27to27
  have hlt : 0 < w.heap.size := by
    rcases Nat.eq_zero_or_pos w.heap.size with h0 | h
    · have := hg
      simp [Laid, World.cell?, h0] at this
    · exact h
  have hB2 := ((Below.refl w.heap.size w).alloc (Nat.le_refl _) (.cells #[.pointer (some ⟨tb, 0, none⟩)] 107)).alloc (by simp) (.cells #[.pointer (some ⟨1, 107, none⟩), .pointer (some ⟨w.heap.size, 0, none⟩), .int .u64 150] 115)
  have hB3 : Below w.heap.size w (((w.alloc (.cells #[.pointer (some ⟨tb, 0, none⟩)] 107)).alloc (.cells #[.pointer (some ⟨1, 107, none⟩), .pointer (some ⟨w.heap.size, 0, none⟩), .int .u64 150] 115)).alloc (.cells #[.pointer (some ⟨1, 107, none⟩), .pointer (some ⟨w.heap.size, 0, none⟩), .int .u64 150] 115)) := hB2.alloc (by simp; omega) (.cells #[.pointer (some ⟨1, 107, none⟩), .pointer (some ⟨w.heap.size, 0, none⟩), .int .u64 150] 115)
  have n8 := F.isNil36 ⟨w.heap.size, 0, none⟩ ⟨tb, 0, none⟩ ((w.alloc (.cells #[.pointer (some ⟨tb, 0, none⟩)] 107)).alloc (.cells #[.pointer (some ⟨1, 107, none⟩), .pointer (some ⟨w.heap.size, 0, none⟩), .int .u64 150] 115)) (by simp)
  have hg2 : ((w.alloc (.cells #[.pointer (some ⟨tb, 0, none⟩)] 107)).alloc (.cells #[.pointer (some ⟨1, 107, none⟩), .pointer (some ⟨w.heap.size, 0, none⟩), .int .u64 150] 115)).cell? ⟨0, 0, none⟩ = some (.iface 125 (.agg #[.pointer (some ⟨1, 68, none⟩)])) := pw_cell_below hB2 hg
  have htl : tb < w.heap.size := World.block_lt_of_cell? w ⟨tb, 0, none⟩ ht0
  have el := F.elemV36 ⟨w.heap.size, 0, none⟩ ⟨tb, 0, none⟩ (((w.alloc (.cells #[.pointer (some ⟨tb, 0, none⟩)] 107)).alloc (.cells #[.pointer (some ⟨1, 107, none⟩), .pointer (some ⟨w.heap.size, 0, none⟩), .int .u64 150] 115)).alloc (.cells #[.pointer (some ⟨1, 107, none⟩), .pointer (some ⟨w.heap.size, 0, none⟩), .int .u64 150] 115)) (by rw [World.cell?_alloc_lt _ _ ⟨w.heap.size, 0, none⟩ (by simp; omega)]; simp)
  have hB4 : Below w.heap.size w ((((w.alloc (.cells #[.pointer (some ⟨tb, 0, none⟩)] 107)).alloc (.cells #[.pointer (some ⟨1, 107, none⟩), .pointer (some ⟨w.heap.size, 0, none⟩), .int .u64 150] 115)).alloc (.cells #[.pointer (some ⟨1, 107, none⟩), .pointer (some ⟨w.heap.size, 0, none⟩), .int .u64 150] 115)).alloc (.cells #[.int .i64 n] 33)) := hB3.alloc (by simp; omega) _
  have st := F.set27 ⟨tb, 0, none⟩ ⟨w.heap.size + 1 + 1 + 1, 0, none⟩ n old ((((w.alloc (.cells #[.pointer (some ⟨tb, 0, none⟩)] 107)).alloc (.cells #[.pointer (some ⟨1, 107, none⟩), .pointer (some ⟨w.heap.size, 0, none⟩), .int .u64 150] 115)).alloc (.cells #[.pointer (some ⟨1, 107, none⟩), .pointer (some ⟨w.heap.size, 0, none⟩), .int .u64 150] 115)).alloc (.cells #[.int .i64 n] 33))
    (by rw [World.cell?_alloc_at _ _ _ _ (by simp)]; rfl) (pw_cell_below hB4 ht0)
    (by rw [World.frozen?_alloc_old _ _ ⟨tb, 0, none⟩ (by simp; omega), World.frozen?_alloc_old _ _ ⟨tb, 0, none⟩ (by simp; omega), World.frozen?_alloc_old _ _ ⟨tb, 0, none⟩ (by simp; omega), World.frozen?_alloc_old _ _ ⟨tb, 0, none⟩ (Nat.ne_of_lt htl)]; exact hf0)
  have HB3 := Lib.hid hB3
  have HB4 := Lib.hid hB4
  have HT := Lib.hid (pw_cell_below hB4 ht0)
  clear hB2 hB3 hB4
  go_enter Tryd.func64, Tryd.ntmps64
  go_wp2
  refine wp_loop_rounds 1 ?_
  rw [rounds_succ]
  go_wp2
  go_ret
  exact ⟨rfl, (Keep.of_below HB4.out _).setCell _ _ (.inl rfl), World.cell?_setCell_same _ _ _ HT.out, by rw [World.frozen?_setCell]; first | exact hf0 | (rw [World.frozen?_alloc_old _ _ ⟨tb, 0, none⟩ (by simp; omega), World.frozen?_alloc_old _ _ ⟨tb, 0, none⟩ (by simp; omega), World.frozen?_alloc_old _ _ ⟨tb, 0, none⟩ (by simp; omega), World.frozen?_alloc_old _ _ ⟨tb, 0, none⟩ (Nat.ne_of_lt htl)]; exact hf0)⟩
set_option maxHeartbeats 4000000 in
theorem as_no_at_num (b : Nat) (n : Int) (tb : Nat) (old : Value) (w : World) (hg : Laid w) (ht0 : w.cell? ⟨tb, 0, none⟩ = some old) (hf0 : w.frozen? ⟨tb, 0, none⟩ = false) (hb : w.cell? ⟨b, 1, none⟩ = some (.iface 33 (.int .i64 n))) :
    Calls Tryd.prog 64 #[.iface 108 (.pointer (some ⟨b, 0, none⟩)), .iface 107 (.pointer (some ⟨tb, 0, none⟩))] w fun ev w' => ev = .returned (.bool true) ∧ AsSet w w' ⟨tb, 0, none⟩ (.int .i64 n) := by
  have h21 := @run_callFunc_extern Tryd.prog 65 _ (fun args => ReflectliteValue.unpack (args.getD 0 (.tuple #[]))) Tryd.func65 (by kernel_rfl) (by kernel_rfl) (by kernel_rfl) (by kernel_rfl)
  have h22 := @run_callFunc_extern Tryd.prog 66 _ (ReflectliteValue.methodAny (ReflectliteValue.valueError "reflectlite.Value.Type" 0) (fun t _ _ _ => ReflectliteType.toType t)) Tryd.func66 (by kernel_rfl) (by kernel_rfl) (by kernel_rfl) (by kernel_rfl)
  have h23 := @run_callFunc_extern Tryd.prog 67 _ (ReflectliteValue.method (ReflectliteValue.valueError "reflectlite.Value.IsNil" 0) ReflectliteValue.isNil) Tryd.func67 (by kernel_rfl) (by kernel_rfl) (by kernel_rfl) (by kernel_rfl)
  have h43 := @run_callFunc_extern Tryd.prog 86 _ (ReflectliteType.abiMethod fun t => do pure (.int .u8 (← Rtype.kind t))) Tryd.func86 (by kernel_rfl) (by kernel_rfl) (by kernel_rfl) (by kernel_rfl)
  have h56 := @run_callFunc_extern Tryd.prog 98 _ (ReflectliteType.method ReflectliteType.elem) Tryd.func98 (by kernel_rfl) (by kernel_rfl) (by kernel_rfl) (by kernel_rfl)
  have h57 := @run_callFunc_extern Tryd.prog 99 _ (ReflectliteType.relation "Implements" ReflectliteType.implements_) Tryd.func99 (by kernel_rfl) (by kernel_rfl) (by kernel_rfl) (by kernel_rfl)
  have h25 := @run_callFunc_extern Tryd.prog 69 _ ReflectliteType.typeOf Tryd.func69 (by kernel_rfl) (by kernel_rfl) (by kernel_rfl) (by kernel_rfl)
  have h54 := @run_callFunc_extern Tryd.prog 96 _ (ReflectliteType.relation "AssignableTo" ReflectliteType.assignableTo) Tryd.func96 (by kernel_rfl) (by kernel_rfl) (by kernel_rfl) (by kernel_rfl)
  have h27 := @run_callFunc_extern Tryd.prog 70 _ (ReflectliteValue.method (ReflectliteValue.valueError "reflectlite.Value.Elem" 0) ReflectliteValue.elem) Tryd.func70 (by kernel_rfl) (by kernel_rfl) (by kernel_rfl) (by kernel_rfl)
  have h28 := @run_callFunc_extern Tryd.prog 71 _ ReflectliteValue.set Tryd.func71 (by kernel_rfl) (by kernel_rfl) (by kernel_rfl) (by kernel_rfl)
  have f1 := F.valueOf36
  have f2 := F.type36
  have f3 := F.methodKind
  have f4 := F.methodElem
  have f5 := F.methodImplements
  have f6 := F.methodAssignableTo
  have f7 := F.kind36
  have f8 := F.kind27
  have f9 := F.elem36
  have f10 := F.implements27
  have f11 := F.valueOf27
  have g01 := F.typeOf44
  have g02 := F.assign44to27
  have g03 := F.noAs44
  have g04 := F.noUnwraps44
  have g05 := F.hasUnwrap44
  have g06 := F.methodUnwrap
  have g11 := F.typeOf27
  have g12 := F.assign27to27
  have hlt : 0 < w.heap.size := by
    rcases Nat.eq_zero_or_pos w.heap.size with h0 | h
    · have := hg
      simp [Laid, World.cell?, h0] at this
    · exact h
  have hB2 := ((Below.refl w.heap.size w).alloc (Nat.le_refl _) (.cells #[.pointer (some ⟨tb, 0, none⟩)] 107)).alloc (by simp) (.cells #[.pointer (some ⟨1, 107, none⟩), .pointer (some ⟨w.heap.size, 0, none⟩), .int .u64 150] 115)
  have hB3 : Below w.heap.size w (((w.alloc (.cells #[.pointer (some ⟨tb, 0, none⟩)] 107)).alloc (.cells #[.pointer (some ⟨1, 107, none⟩), .pointer (some ⟨w.heap.size, 0, none⟩), .int .u64 150] 115)).alloc (.cells #[.pointer (some ⟨1, 107, none⟩), .pointer (some ⟨w.heap.size, 0, none⟩), .int .u64 150] 115)) := hB2.alloc (by simp; omega) (.cells #[.pointer (some ⟨1, 107, none⟩), .pointer (some ⟨w.heap.size, 0, none⟩), .int .u64 150] 115)
  have n8 := F.isNil36 ⟨w.heap.size, 0, none⟩ ⟨tb, 0, none⟩ ((w.alloc (.cells #[.pointer (some ⟨tb, 0, none⟩)] 107)).alloc (.cells #[.pointer (some ⟨1, 107, none⟩), .pointer (some ⟨w.heap.size, 0, none⟩), .int .u64 150] 115)) (by simp)
  have hg2 : ((w.alloc (.cells #[.pointer (some ⟨tb, 0, none⟩)] 107)).alloc (.cells #[.pointer (some ⟨1, 107, none⟩), .pointer (some ⟨w.heap.size, 0, none⟩), .int .u64 150] 115)).cell? ⟨0, 0, none⟩ = some (.iface 125 (.agg #[.pointer (some ⟨1, 68, none⟩)])) := pw_cell_below hB2 hg
  have htl : tb < w.heap.size := World.block_lt_of_cell? w ⟨tb, 0, none⟩ ht0
  have el := F.elemV36 ⟨w.heap.size, 0, none⟩ ⟨tb, 0, none⟩ (((w.alloc (.cells #[.pointer (some ⟨tb, 0, none⟩)] 107)).alloc (.cells #[.pointer (some ⟨1, 107, none⟩), .pointer (some ⟨w.heap.size, 0, none⟩), .int .u64 150] 115)).alloc (.cells #[.pointer (some ⟨1, 107, none⟩), .pointer (some ⟨w.heap.size, 0, none⟩), .int .u64 150] 115)) (by rw [World.cell?_alloc_lt _ _ ⟨w.heap.size, 0, none⟩ (by simp; omega)]; simp)
  have hB4 : Below w.heap.size w ((((w.alloc (.cells #[.pointer (some ⟨tb, 0, none⟩)] 107)).alloc (.cells #[.pointer (some ⟨1, 107, none⟩), .pointer (some ⟨w.heap.size, 0, none⟩), .int .u64 150] 115)).alloc (.cells #[.pointer (some ⟨1, 107, none⟩), .pointer (some ⟨w.heap.size, 0, none⟩), .int .u64 150] 115)).alloc (.cells #[.int .i64 n] 33)) := hB3.alloc (by simp; omega) _
  have st := F.set27 ⟨tb, 0, none⟩ ⟨w.heap.size + 1 + 1 + 1, 0, none⟩ n old ((((w.alloc (.cells #[.pointer (some ⟨tb, 0, none⟩)] 107)).alloc (.cells #[.pointer (some ⟨1, 107, none⟩), .pointer (some ⟨w.heap.size, 0, none⟩), .int .u64 150] 115)).alloc (.cells #[.pointer (some ⟨1, 107, none⟩), .pointer (some ⟨w.heap.size, 0, none⟩), .int .u64 150] 115)).alloc (.cells #[.int .i64 n] 33))
    (by rw [World.cell?_alloc_at _ _ _ _ (by simp)]; rfl) (pw_cell_below hB4 ht0)
    (by rw [World.frozen?_alloc_old _ _ ⟨tb, 0, none⟩ (by simp; omega), World.frozen?_alloc_old _ _ ⟨tb, 0, none⟩ (by simp; omega), World.frozen?_alloc_old _ _ ⟨tb, 0, none⟩ (by simp; omega), World.frozen?_alloc_old _ _ ⟨tb, 0, none⟩ (Nat.ne_of_lt htl)]; exact hf0)
  have hu : (((w.alloc (.cells #[.pointer (some ⟨tb, 0, none⟩)] 107)).alloc (.cells #[.pointer (some ⟨1, 107, none⟩), .pointer (some ⟨w.heap.size, 0, none⟩), .int .u64 150] 115)).alloc (.cells #[.pointer (some ⟨1, 107, none⟩), .pointer (some ⟨w.heap.size, 0, none⟩), .int .u64 150] 115)).cell? ⟨b, 1, none⟩ = some (.iface 33 (.int .i64 n)) := pw_cell_below hB3 hb
  have HB3 := Lib.hid hB3
  have HB4 := Lib.hid hB4
  have HT := Lib.hid (pw_cell_below hB4 ht0)
  clear hB2 hB3 hB4
  go_enter Tryd.func64, Tryd.ntmps64
  go_wp2
  refine wp_loop_rounds 2 ?_
  rw [rounds_succ]
  go_wp2_with (go_at_call 91; refine (unwrap_any _ b _ hu).mono ?_; rintro e1 w1 ⟨rfl, rfl⟩)
  rw [rounds_succ]
  go_wp2
  go_ret
  exact ⟨rfl, (Keep.of_below HB4.out _).setCell _ _ (.inl rfl), World.cell?_setCell_same _ _ _ HT.out, by rw [World.frozen?_setCell]; first | exact hf0 | (rw [World.frozen?_alloc_old _ _ ⟨tb, 0, none⟩ (by simp; omega), World.frozen?_alloc_old _ _ ⟨tb, 0, none⟩ (by simp; omega), World.frozen?_alloc_old _ _ ⟨tb, 0, none⟩ (by simp; omega), World.frozen?_alloc_old _ _ ⟨tb, 0, none⟩ (Nat.ne_of_lt htl)]; exact hf0)⟩
end Go.Proofs.YtkdlghbfplhkpaaDoor
