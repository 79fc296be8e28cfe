/- The small calls of seal. -/
import Derived.Test.YtjgdglbfnjjmmaaDoorProg
import Derived.Test.YtjgdglbfnjjmmaaDoorMem
import Derived.WalkSpells
import Derived.WalkLawsBesides
import Derived.Lib.Hide
import Derived.Lib.SliceRun
import Derived.Deep.QuietTactic
import Derived.Deep.RegionWith
import Derived.BigQuiet
set_option linter.unusedVariables false
set_option linter.unusedSimpArgs false
namespace Go.Proofs.YtjgdglbfnjjmmaaDoor
open Go.RowKit Go.Proofs.YtjgdglbfnjjmmaaDoorW.PrintWords Go.Proofs.Mine

theorem Tryd.info3 : (Tryd.prog.info? 3).map (fun i => (i.zero, i.size, i.bytes)) = some (some (.int .i64 0), 1, 8) := by kernel_rfl
set_option maxHeartbeats 400000 in
theorem clone_nil (w : World) : Calls Tryd.prog 49 #[.slice none 0 0] w fun e w' => e = .returned (.slice none 0 0) ∧ w = w' := by
  have hn := fun w => Lib.run_eql_slice_nil (P := Tryd.prog) w 22 3 none 0 0 0 0 Tryd.underlying22
  go_enter Tryd.func49, Tryd.ntmps49
  go_wp2
  go_ret
  exact ⟨rfl, rfl⟩
theorem own_lit0 (w : World) : (Kd.int .i64).R 3 (w.alloc (.cells #[] 3)) w.heap.size (fun k => w.heap.size ≤ k) (.slice (some ⟨w.heap.size, 0, none⟩) 0 0) [] :=
  Kd.R_of_own ⟨rfl, .inr ⟨w.heap.size, 0, #[], rfl, Nat.le_refl _, heap_alloc_new w _, Nat.le_refl _, by decide, rfl, rfl⟩⟩ (fun k hk => by
    have : w.heap.size = k := by simpa [Value.ownBlock] using hk
    show w.heap.size ≤ k
    omega)
set_option maxHeartbeats 400000 in
theorem clone_some (w : World) (ad : Addr) (n cap : Nat) (xs : List Int) (hr : (Kd.int .i64).C w (some ad) n xs) (hn : n ≤ 1000000) :
    Calls Tryd.prog 49 #[.slice (some ad) n cap] w fun e w' => ∃ v, e = .returned v ∧ (Kd.int .i64).R 3 w' w.heap.size (fun k => w.heap.size ≤ k) v xs ∧ Below w.heap.size w w' := by
  have hnil := fun w => Lib.run_eql_slice_nil (P := Tryd.prog) w 22 3 (some ad) n cap 0 0 Tryd.underlying22
  have HR := Lib.hid hr
  clear hr
  go_enter Tryd.func49, Tryd.ntmps49
  have hlit := Lib.hid (own_lit0 w)
  have hn1 : xs.length = n := HR.out.1
  go_wp2_with (at_builtin; refine Kd.R_append_row (Value.int .i64) 0 (h1 := fun _ => rfl) (w0 := w) w.heap.size rfl _ _ 22 3 (.int .i64 0) 8 rfl Tryd.underlying22 Tryd.info3 rfl (by decide) (.slice (some ⟨w.heap.size, 0, none⟩) 0 0) [] xs (some ad) n cap (fun k => w.heap.size ≤ k) rfl rfl (fun k hk => by simp at hk; omega) hlit.out (Kd.C_below HR.out ((Below.refl _ _).alloc (Nat.le_refl _) _)) ((Below.refl _ _).alloc (Nat.le_refl _) _) (by simp) (by simp; omega) ?_
               intro v1 w1 hR1 hB1 hg1 hat1
               have HR1 := Lib.hid hR1
               have HB1 := Lib.hid hB1
               clear hR1 hB1 hg1 hat1)
  go_ret
  exact ⟨_, rfl, HR1.out, HB1.out⟩
end Go.Proofs.YtjgdglbfnjjmmaaDoor
