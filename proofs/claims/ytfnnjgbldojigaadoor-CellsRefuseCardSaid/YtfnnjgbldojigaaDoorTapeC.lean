/- The walks of a tape's calls: Clone, Bytes, Stop, Dead, Ops, New, Sync, Crash. -/
import Derived.Test.YtfnnjgbldojigaaDoorTapeW
import Derived.Lib.SliceRun
set_option linter.unusedVariables false
set_option linter.unusedSimpArgs false
namespace Go.Proofs.YtfnnjgbldojigaaDoor
open Go.RowKit Go.Proofs.YtfnnjgbldojigaaDoorW.PrintWords Go.Proofs.Mine

theorem info5 : (Tryd.prog.info? 5).map (fun i => (i.zero, i.size, i.bytes)) = some (some (.int .u8 0), 1, 1) := by kernel_rfl
set_option maxRecDepth 100000 in
set_option maxHeartbeats 1000000 in
theorem clone_nil (n c : Nat) (w : World) : Calls Tryd.prog 49 #[.slice none n c] w fun r w' => r = .returned (.slice none 0 0) ∧ w = w' := by
  have hq := Lib.run_eql_slice_nil (P := Tryd.prog) w 32 5 none n c 0 0 Tryd.underlying32
  go_enter Tryd.func49, Tryd.ntmps49
  go_wp2
  go_ret
  exact ⟨rfl, rfl⟩
set_option maxRecDepth 100000 in
set_option maxHeartbeats 1000000 in
theorem clone_some (ad : Addr) (n c : Nat) (l : List Int) (w : World) (hr : ReadsInt w .u8 (some ad) n l) (hn : n ≤ 140737488355328) :
    Calls Tryd.prog 49 #[.slice (some ad) n c] w fun r w' => ∃ v, r = .returned v ∧ Buf .u8 5 w' w.heap.size v l ∧ Below w.heap.size w w' := by
  have HR := Lib.hid (show ReadsInt (w.alloc (.cells #[] 5)) .u8 (some ad) n l from hr.below ((Below.refl _ _).alloc (Nat.le_refl _) _))
  have HB := Lib.hid (show Buf .u8 5 (w.alloc (.cells #[] 5)) w.heap.size (.slice (some ⟨w.heap.size, 0, none⟩) 0 0) [] from .inr ⟨w.heap.size, 0, #[], rfl, Nat.le_refl _, heap_alloc_new w _, by simp, by simp, by simp, by simp [nums]⟩)
  have hb1 : w.heap.size ≤ (w.alloc (.cells #[] 5)).heap.size := by simp
  have hb2 : (([] : List Int).length + n) * 1 ≤ 140737488355328 := by simp; omega
  clear hr
  have hq := Lib.run_eql_slice_nil (P := Tryd.prog) w 32 5 (some ad) n c 0 0 Tryd.underlying32
  go_enter Tryd.func49, Tryd.ntmps49
  go_wp2_with (at_builtin
               refine wpList_append_buf (w.alloc (.cells #[] 5)) rfl _ _ 32 5 .u8 1 w.heap.size rfl Tryd.underlying32 info5 (by decide) (.slice (some ⟨w.heap.size, 0, none⟩) 0 0) [] l (some ad) n c ?a1 ?a2 HB.out HR.out hb1 hb2 ?a3
               case a1 => rfl
               case a2 => rfl
               intro v1 w1 hv hg hat
               have hB : Below w.heap.size w w1 := ((Keep.refl (fun k => w.heap.size ≤ k) w).alloc _ |>.trans (Keep.of_grown (F := fun k => w.heap.size ≤ k) hg (fun k hk => by injection hk with hk; subst hk; exact Nat.le_refl _)) (fun k h => .inl h)).to_below (Nat.le_refl _) (fun _ h => h)
               rw [List.nil_append] at hv
               have HV := Lib.hid hv
               have HB1 := Lib.hid hB
               obtain ⟨A1, c1, rfl⟩ := hv.slice
               clear hv hg hat hB)
  go_ret
  exact ⟨_, rfl, HV.out, HB1.out⟩
theorem clone_any (A : Option Addr) (n c : Nat) (l : List Int) (w : World) (hr : ReadsInt w .u8 A n l) (hn : n ≤ 140737488355328) :
    Calls Tryd.prog 49 #[.slice A n c] w fun r w' => ∃ v, r = .returned v ∧ Buf .u8 5 w' w.heap.size v l ∧ Below w.heap.size w w' := by
  cases A with
  | none =>
    refine (clone_nil n c w).mono ?_
    rintro r w' ⟨rfl, rfl⟩
    have h0 : n = 0 := by
      rcases Nat.eq_zero_or_pos n with h | h
      · exact h
      · obtain ⟨_, h, _⟩ := hr.2.2 h; cases h
    have hl : l = [] := List.eq_nil_of_length_eq_zero (by have := hr.1; omega)
    exact ⟨_, rfl, .inl ⟨rfl, hl⟩, Below.refl _ _⟩
  | some ad => exact clone_some ad n c l w hr hn
set_option maxRecDepth 100000 in
set_option maxHeartbeats 1000000 in
theorem bytes_any (w : World) (base b : Nat) (F : Nat → Prop) (s : TS) (hk : TOk s) (h : TapeAt w base F b s) :
    Calls Tryd.prog 22 #[.pointer (some ⟨b, 0, none⟩)] w fun r w' => ∃ v, r = .returned v ∧ Buf .u8 5 w' w.heap.size v s.l ∧ Below w.heap.size w w' := by
  obtain ⟨A, c, ho⟩ := h.open_
  have q1 : w.cell? ⟨b, 1, none⟩ = some (.slice A s.l.length c) := blk_cell ho.blk 1
  obtain ⟨A', c', he, hr⟩ := ho.buf.reads
  injection he with h1 _ h3
  subst h1 h3
  have hl1 := hk.len
  have hl2 := hk.room2
  have HR := Lib.hid hr
  have hl : s.l.length ≤ 140737488355328 := by omega
  clear h ho hr hk hl1 hl2
  go_enter Tryd.func22, Tryd.ntmps22
  go_wp2_with (go_at_call 49; refine (clone_any A _ c s.l w HR.out hl).mono ?_; rintro r w1 ⟨v, rfl, hv, hB⟩; have HV := Lib.hid hv; have HB := Lib.hid hB; obtain ⟨A1, c1, rfl⟩ := hv.slice; clear hv hB)
  go_ret
  exact ⟨_, rfl, HV.out, HB.out⟩
set_option maxRecDepth 100000 in
set_option maxHeartbeats 1000000 in
theorem stop_any (n : Int) (w : World) (base b : Nat) (F : Nat → Prop) (s : TS) (h : TapeAt w base F b s) :
    Calls Tryd.prog 28 #[.pointer (some ⟨b, 0, none⟩), .int .i64 n] w fun r w' => r = .returned (.tuple #[]) ∧ Tape' w base F b (stopS s n) w' := by
  obtain ⟨A, c, ho⟩ := h.open_
  have f3 : w.frozen? ⟨b, 3, none⟩ = false := blk_frozen ho.blk 3
  have q3 : w.cell? ⟨b, 3, none⟩ = some (.int .i64 s.left) := blk_cell ho.blk 3
  have HO := Lib.hid ho
  clear h ho
  go_enter Tryd.func28, Tryd.ntmps28
  go_wp2
  all_goals
    go_end0
    refine ⟨rfl, ?_⟩
    unfold stopS
    first
      | (rw [show (if n < 0 then (0 : Int) else n) = 0 by split <;> omega]; exact tape_set HO.out (set1 w b 3 _) rfl (blk_set HO.out.blk 3 _))
      | (rw [show (if n < 0 then (0 : Int) else n) = n by split <;> omega]; exact tape_set HO.out (set1 w b 3 _) rfl (blk_set HO.out.blk 3 _))
set_option maxRecDepth 100000 in
set_option maxHeartbeats 1000000 in
theorem dead_any (w : World) (base b : Nat) (F : Nat → Prop) (s : TS) (h : TapeAt w base F b s) :
    Calls Tryd.prog 29 #[.pointer (some ⟨b, 0, none⟩)] w fun r w' => r = .returned (.bool s.dead) ∧ w = w' := by
  obtain ⟨A, c, ho⟩ := h.open_
  have q4 : w.cell? ⟨b, 4, none⟩ = some (.bool s.dead) := blk_cell ho.blk 4
  go_enter Tryd.func29, Tryd.ntmps29
  go_wp2
  go_ret
  exact ⟨rfl, rfl⟩
theorem tape_new (w : World) (room : Int) : TapeAt (w.alloc (.cells #[.int .i64 room, .slice none 0 0, .int .i64 0, .int .i64 0, .bool false, .int .i64 0] 78)) w.heap.size (fun k => k = w.heap.size) w.heap.size (new0 room) :=
  ⟨rfl, fun k hk => by subst hk; exact ⟨Nat.le_refl _, by simp⟩, .slice none 0 0, heap_alloc_new w _, .inl ⟨rfl, rfl⟩, fun k hk => by cases hk⟩
set_option maxRecDepth 100000 in
set_option maxHeartbeats 1000000 in
theorem new_ok (room : Int) (w : World) (h1 : 1 ≤ room) (h2 : room ≤ 1073741824) :
    Calls Tryd.prog 14 #[.int .i64 room] w fun r w' => r = .returned (.tuple #[.pointer (some ⟨w.heap.size, 0, none⟩), .int .i64 0]) ∧ w' = w.alloc (.cells #[.int .i64 room, .slice none 0 0, .int .i64 0, .int .i64 0, .bool false, .int .i64 0] 78) := by
  have hd : decide (room < 1) = false := by simp; omega
  have hd2 : decide (1073741824 < room) = false := by simp; omega
  go_enter Tryd.func14, Tryd.ntmps14
  go_wp2
  go_ret2
  exact ⟨rfl, rfl⟩
set_option maxRecDepth 100000 in
set_option maxHeartbeats 1000000 in
theorem new_no (room : Int) (w : World) (h : room < 1 ∨ 1073741824 < room) :
    Calls Tryd.prog 14 #[.int .i64 room] w fun r w' => r = .returned (.tuple #[.pointer none, .int .i64 1]) ∧ w' = w := by
  cases hd : decide (room < 1) <;> cases hd2 : decide (1073741824 < room)
  · exact absurd h (by have := of_decide_eq_false hd; have := of_decide_eq_false hd2; omega)
  all_goals
    go_enter Tryd.func14, Tryd.ntmps14
    go_wp2
    go_ret2
    exact ⟨rfl, rfl⟩
end Go.Proofs.YtfnnjgbldojigaaDoor
