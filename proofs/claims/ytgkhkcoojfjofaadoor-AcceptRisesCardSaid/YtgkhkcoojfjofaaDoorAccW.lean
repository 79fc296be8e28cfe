/- twin, few; the reference's comparisons; what the example says. -/
import Derived.Test.YtgkhkcoojfjofaaDoorAccP
import Derived.Test.YtgkhkcoojfjofaaDoorCopyF
import Derived.Test.YtgkhkcoojfjofaaDoorKindW
import Derived.Test.YtgkhkcoojfjofaaDoorLaidH
import Derived.Deep.DeepCutAuto
import Derived.Maps.RangeWalk
import Derived.Maps.RangeRun
import Derived.Shelf.Abstract
set_option linter.unusedVariables false
set_option linter.unusedSimpArgs false
namespace Go.Proofs.YtgkhkcoojfjofaaDoor
open Go.RowKit Go.Shelf Go.Proofs.YtgkhkcoojfjofaaDoorW.PrintWords Go.Proofs.Mine

theorem alloc2 (w : World) (X Y : Obj) : ((w.alloc X).alloc Y).heap[w.heap.size + 1]? = some Y := by
  have := heap_alloc_new (w.alloc X) Y
  simpa using this
theorem Tryd.info3n : (Tryd.prog.info? 3).map (fun i => (i.zero, i.size, i.bytes)) = some (some (.int .i64 0), 1, 8) := by kernel_rfl
theorem int_empty (W : World) : (W.alloc (.cells #[] 3)).ownsRow W.heap.size 3 1 (.slice (some ⟨W.heap.size, 0, none⟩) 0 0) ([] : List Int).length (nums .i64 []) := own_lit W W.heap.size 3 .i64 [] (Nat.le_refl _) (by decide)
def set8 (W : World) (B : Nat) (x0 x1 x2 x3 x4 x5 x6 x7 : Value) : World := ((((((((W.setCell ⟨B, 0, none⟩ x0).setCell ⟨B, 1, none⟩ x1).setCell ⟨B, 2, none⟩ x2).setCell ⟨B, 3, none⟩ x3).setCell ⟨B, 4, none⟩ x4).setCell ⟨B, 5, none⟩ x5).setCell ⟨B, 6, none⟩ x6).setCell ⟨B, 7, none⟩ x7)
theorem set8_blk {W : World} {B t : Nat} {a0 a1 a2 a3 a4 a5 a6 a7 : Value} (h : W.heap[B]? = some (.cells #[a0, a1, a2, a3, a4, a5, a6, a7] t (0, 0))) (x0 x1 x2 x3 x4 x5 x6 x7 : Value) :
    (set8 W B x0 x1 x2 x3 x4 x5 x6 x7).heap[B]? = some (.cells #[x0, x1, x2, x3, x4, x5, x6, x7] t (0, 0)) := by
  have h1 : (W.setCell ⟨B, 0, none⟩ x0).heap[B]? = some (.cells #[x0, a1, a2, a3, a4, a5, a6, a7] t (0, 0)) := blk_set h 0 x0
  have h2 : ((W.setCell ⟨B, 0, none⟩ x0).setCell ⟨B, 1, none⟩ x1).heap[B]? = some (.cells #[x0, x1, a2, a3, a4, a5, a6, a7] t (0, 0)) := blk_set h1 1 x1
  have h3 : (((W.setCell ⟨B, 0, none⟩ x0).setCell ⟨B, 1, none⟩ x1).setCell ⟨B, 2, none⟩ x2).heap[B]? = some (.cells #[x0, x1, x2, a3, a4, a5, a6, a7] t (0, 0)) := blk_set h2 2 x2
  have h4 : ((((W.setCell ⟨B, 0, none⟩ x0).setCell ⟨B, 1, none⟩ x1).setCell ⟨B, 2, none⟩ x2).setCell ⟨B, 3, none⟩ x3).heap[B]? = some (.cells #[x0, x1, x2, x3, a4, a5, a6, a7] t (0, 0)) := blk_set h3 3 x3
  have h5 : (((((W.setCell ⟨B, 0, none⟩ x0).setCell ⟨B, 1, none⟩ x1).setCell ⟨B, 2, none⟩ x2).setCell ⟨B, 3, none⟩ x3).setCell ⟨B, 4, none⟩ x4).heap[B]? = some (.cells #[x0, x1, x2, x3, x4, a5, a6, a7] t (0, 0)) := blk_set h4 4 x4
  have h6 : ((((((W.setCell ⟨B, 0, none⟩ x0).setCell ⟨B, 1, none⟩ x1).setCell ⟨B, 2, none⟩ x2).setCell ⟨B, 3, none⟩ x3).setCell ⟨B, 4, none⟩ x4).setCell ⟨B, 5, none⟩ x5).heap[B]? = some (.cells #[x0, x1, x2, x3, x4, x5, a6, a7] t (0, 0)) := blk_set h5 5 x5
  have h7 : (((((((W.setCell ⟨B, 0, none⟩ x0).setCell ⟨B, 1, none⟩ x1).setCell ⟨B, 2, none⟩ x2).setCell ⟨B, 3, none⟩ x3).setCell ⟨B, 4, none⟩ x4).setCell ⟨B, 5, none⟩ x5).setCell ⟨B, 6, none⟩ x6).heap[B]? = some (.cells #[x0, x1, x2, x3, x4, x5, x6, a7] t (0, 0)) := blk_set h6 6 x6
  have h8 : ((((((((W.setCell ⟨B, 0, none⟩ x0).setCell ⟨B, 1, none⟩ x1).setCell ⟨B, 2, none⟩ x2).setCell ⟨B, 3, none⟩ x3).setCell ⟨B, 4, none⟩ x4).setCell ⟨B, 5, none⟩ x5).setCell ⟨B, 6, none⟩ x6).setCell ⟨B, 7, none⟩ x7).heap[B]? = some (.cells #[x0, x1, x2, x3, x4, x5, x6, x7] t (0, 0)) := blk_set h7 7 x7
  exact h8
theorem set8_keep {W w : World} {B : Nat} {F : Nat → Prop} (h : Keep F w W) (hb : F B ∨ w.heap.size ≤ B) (x0 x1 x2 x3 x4 x5 x6 x7 : Value) : Keep F w (set8 W B x0 x1 x2 x3 x4 x5 x6 x7) := ((((((((h.setCell ⟨B, 0, none⟩ x0 hb).setCell ⟨B, 1, none⟩ x1 hb).setCell ⟨B, 2, none⟩ x2 hb).setCell ⟨B, 3, none⟩ x3 hb).setCell ⟨B, 4, none⟩ x4 hb).setCell ⟨B, 5, none⟩ x5 hb).setCell ⟨B, 6, none⟩ x6 hb).setCell ⟨B, 7, none⟩ x7 hb)
def set6 (W : World) (B : Nat) (x0 x1 x2 x3 x4 x5 : Value) : World := ((((((W.setCell ⟨B, 0, none⟩ x0).setCell ⟨B, 1, none⟩ x1).setCell ⟨B, 2, none⟩ x2).setCell ⟨B, 3, none⟩ x3).setCell ⟨B, 4, none⟩ x4).setCell ⟨B, 5, none⟩ x5)
theorem set6_blk {W : World} {B t : Nat} {a0 a1 a2 a3 a4 a5 : Value} (h : W.heap[B]? = some (.cells #[a0, a1, a2, a3, a4, a5] t (0, 0))) (x0 x1 x2 x3 x4 x5 : Value) :
    (set6 W B x0 x1 x2 x3 x4 x5).heap[B]? = some (.cells #[x0, x1, x2, x3, x4, x5] t (0, 0)) := by
  have h1 : (W.setCell ⟨B, 0, none⟩ x0).heap[B]? = some (.cells #[x0, a1, a2, a3, a4, a5] t (0, 0)) := blk_set h 0 x0
  have h2 : ((W.setCell ⟨B, 0, none⟩ x0).setCell ⟨B, 1, none⟩ x1).heap[B]? = some (.cells #[x0, x1, a2, a3, a4, a5] t (0, 0)) := blk_set h1 1 x1
  have h3 : (((W.setCell ⟨B, 0, none⟩ x0).setCell ⟨B, 1, none⟩ x1).setCell ⟨B, 2, none⟩ x2).heap[B]? = some (.cells #[x0, x1, x2, a3, a4, a5] t (0, 0)) := blk_set h2 2 x2
  have h4 : ((((W.setCell ⟨B, 0, none⟩ x0).setCell ⟨B, 1, none⟩ x1).setCell ⟨B, 2, none⟩ x2).setCell ⟨B, 3, none⟩ x3).heap[B]? = some (.cells #[x0, x1, x2, x3, a4, a5] t (0, 0)) := blk_set h3 3 x3
  have h5 : (((((W.setCell ⟨B, 0, none⟩ x0).setCell ⟨B, 1, none⟩ x1).setCell ⟨B, 2, none⟩ x2).setCell ⟨B, 3, none⟩ x3).setCell ⟨B, 4, none⟩ x4).heap[B]? = some (.cells #[x0, x1, x2, x3, x4, a5] t (0, 0)) := blk_set h4 4 x4
  have h6 : ((((((W.setCell ⟨B, 0, none⟩ x0).setCell ⟨B, 1, none⟩ x1).setCell ⟨B, 2, none⟩ x2).setCell ⟨B, 3, none⟩ x3).setCell ⟨B, 4, none⟩ x4).setCell ⟨B, 5, none⟩ x5).heap[B]? = some (.cells #[x0, x1, x2, x3, x4, x5] t (0, 0)) := blk_set h5 5 x5
  exact h6
theorem set6_keep {W w : World} {B : Nat} {F : Nat → Prop} (h : Keep F w W) (hb : F B ∨ w.heap.size ≤ B) (x0 x1 x2 x3 x4 x5 : Value) : Keep F w (set6 W B x0 x1 x2 x3 x4 x5) := ((((((h.setCell ⟨B, 0, none⟩ x0 hb).setCell ⟨B, 1, none⟩ x1 hb).setCell ⟨B, 2, none⟩ x2 hb).setCell ⟨B, 3, none⟩ x3 hb).setCell ⟨B, 4, none⟩ x4 hb).setCell ⟨B, 5, none⟩ x5 hb)
set_option maxHeartbeats 400000 in
theorem clone_any (w : World) (A : Option Addr) (n cap : Nat) (xs : List Int) (hr : ReadsInt w .i64 A n xs) (hn : n ≤ 1000000) :
    Calls Tryd.prog 35 #[.slice A n cap] w fun e w' => ∃ v, e = .returned v ∧ w'.ownsRow w.heap.size 3 1 v n (nums .i64 xs) ∧ Below w.heap.size w w' := by
  have hlen : xs.length = n := hr.1
  have HR := Lib.hid hr
  cases A with
  | none =>
    have hx : xs = [] := by
      rcases Nat.eq_zero_or_pos n with h | h
      · exact List.eq_nil_of_length_eq_zero (by omega)
      · obtain ⟨ad, h1, _⟩ := hr.2.2 h; cases h1
    subst hx
    have hn0 : n = 0 := by simpa using hlen.symm
    subst hn0
    clear hr HR hlen
    have hnil := fun w => Lib.run_eql_slice_nil (P := Tryd.prog) w 27 3 none 0 cap 0 0 Tryd.underlying27
    go_enter Tryd.func35, Tryd.ntmps35
    go_wp2
    go_ret
    exact ⟨_, rfl, own_nil _ _ _ _, Below.refl _ _⟩
  | some ad =>
    have hnil := fun w => Lib.run_eql_slice_nil (P := Tryd.prog) w 27 3 (some ad) n cap 0 0 Tryd.underlying27
    have HLE := Lib.hid hlen
    clear hr hlen
    go_enter Tryd.func35, Tryd.ntmps35
    go_wp2_with (at_builtin; refine print_append_row (w0 := w) w.heap.size rfl _ _ 27 3 .i64 8 (by rfl) Tryd.underlying27 Tryd.info3n (by decide) (.slice (some ⟨w.heap.size, 0, none⟩) 0 0) [] xs (some ad) n cap (by rfl) (by rfl) (int_empty w) (HR.out.below ((Below.refl _ _).alloc (Nat.le_refl _) _)) ((Below.refl _ _).alloc (Nat.le_refl _) _) (by simp) (by simp; omega) ?_; intro v1 w1 hR1 hB1 hg1 hat1; rw [List.nil_append, HLE.out] at hR1; have HR1 := Lib.hid hR1; have HB1 := Lib.hid hB1; clear hR1 hB1 hg1 hat1)
    go_ret
    exact ⟨_, rfl, HR1.out, HB1.out⟩
set_option maxRecDepth 100000 in
set_option maxHeartbeats 1000000 in
theorem sameInts_any (A1 A2 : Option Addr) (c1 c2 : Nat) (xs : List Int) (w : World) (h1 : ReadsInt w .i64 A1 xs.length xs) (h2 : ReadsInt w .i64 A2 xs.length xs) :
    Calls Tryd.prog 23 #[.slice A1 xs.length c1, .slice A2 xs.length c2] w fun e w' => e = .returned (.bool true) ∧ Below w.heap.size w w' := by
  have H1 := Lib.hid h1
  have H2 := Lib.hid h2
  have hmx := h1.2.1
  clear h1 h2
  go_enter Tryd.func23, Tryd.ntmps23
  go_wp2
  go_loopw [5] (fun iv wr => ∃ k : Nat, k ≤ xs.length ∧ iv = .int .i64 k ∧ Below w.heap.size w wr) (fun iv _ => xs.length - (intOf iv).toNat)
  case atStart => exact ⟨0, by omega, rfl, Below.refl _ _⟩
  case round =>
    obtain ⟨k, hk, rfl, hB⟩ := hrel
    have HB := Lib.hid hB
    clear hB
    by_cases hlt : k < xs.length
    · obtain ⟨a1, rfl, q1⟩ := H1.out.at_ k (by omega) (by omega)
      obtain ⟨a2, rfl, q2⟩ := H2.out.at_ k (by omega) (by omega)
      have q1 := pw_cell_below HB.out q1
      have q2 := pw_cell_below HB.out q2
      rw [Int.toNat_natCast] at q1 q2
      generalize rd xs k = x at *
      have p1 : ∀ nq, (wr.drewN nq).cell? (a1.add k) = some (.int .i64 x) := fun _ => q1
      have p2 : ∀ nq, (wr.drewN nq).cell? (a2.add k) = some (.int .i64 x) := fun _ => q2
      have hlt' : (k : Int) < (xs.length : Int) := by omega
      have hk0 : (0 : Int) ≤ (k : Int) := by omega
      clear q1 q2
      go_wp2_with fail
      go_quiet (fail)
      go_wp2_with fail
      exact ⟨⟨k + 1, by omega, by simp, pw_below_drewN HB.out _⟩, by simp [intOf]; omega⟩
    · go_wp2
      go_ret
      exact ⟨rfl, HB.out⟩
set_option maxRecDepth 100000 in
set_option maxHeartbeats 2000000 in
theorem sameEntry_lit (kd c q : Int) (data : ByteArray) (xs : List Int) (dst : Int) (A1 A2 : Option Addr) (c1 c2 : Nat) (w : World) (h1 : ReadsInt w .i64 A1 xs.length xs) (h2 : ReadsInt w .i64 A2 xs.length xs) :
    Calls Tryd.prog 22 #[.agg #[.int .i64 kd, .int .i64 c, .int .i64 q, .string data, .slice A1 xs.length c1, .int .i64 dst], .agg #[.int .i64 kd, .int .i64 c, .int .i64 q, .string data, .slice A2 xs.length c2, .int .i64 dst]] w fun e w' => e = .returned (.bool true) ∧ Below w.heap.size w w' := by
  have H1 := Lib.hid h1
  have H2 := Lib.hid h2
  clear h1 h2
  go_enter Tryd.func22, Tryd.ntmps22
  go_wp2_with (go_at_call 23
               generalize hW : World.alloc _ _ = W
               have hB : Below w.heap.size w W := (by rw [← hW]; exact ((Below.refl _ _).alloc (Nat.le_refl _) _).alloc (by simp) _)
               refine (sameInts_any A1 A2 c1 c2 xs W (H1.out.below hB) (H2.out.below hB)).mono ?_
               rintro e w5 ⟨rfl, hB5⟩
               have HB5 : RowKit.Hid (Below w.heap.size w w5) := below_then hB hB.size hB5
               clear hB hB5 hW)
  go_ret
  exact ⟨rfl, HB5.out⟩
set_option maxRecDepth 100000 in
set_option maxHeartbeats 1000000 in
theorem few_lit (kd c q : Int) (data : ByteArray) (n : Nat) (dst : Int) (A1 : Option Addr) (c1 : Nat) (w : World) :
    Calls Tryd.prog 11 #[.agg #[.int .i64 kd, .int .i64 c, .int .i64 q, .string data, .slice A1 n c1, .int .i64 dst]] w fun e w' => e = .returned (.bool (decide ((data.size : Int) < 300) && decide ((n : Int) < 50))) ∧ Below w.heap.size w w' := by
  cases h1 : decide ((data.size : Int) < 300) <;> cases h2 : decide ((n : Int) < 50)
  all_goals
    go_enter Tryd.func11, Tryd.ntmps11
    go_wp2
    go_ret
    exact ⟨rfl, (Below.refl _ _).alloc (Nat.le_refl _) _⟩
set_option maxRecDepth 100000 in
set_option maxHeartbeats 2000000 in
theorem twin_any (x : Vh) (w : World) (hr : ReadsInt w .i64 x.A x.mem.length x.mem) (hn : x.mem.length ≤ 1000000) :
    Calls Tryd.prog 26 #[.agg #[.int .i64 x.s, .int .i64 x.b, .int .i64 x.kd, .int .i64 x.c, .int .i64 x.q, .string x.data, .slice x.A x.mem.length x.cap, .int .i64 x.dst]] w fun e w' => ∃ A1 c1, e = .returned (.agg #[.int .i64 x.s, .int .i64 x.b, .int .i64 x.kd, .int .i64 x.c, .int .i64 x.q, .string x.data, .slice A1 x.mem.length c1, .int .i64 x.dst]) ∧ w'.ownsRow w.heap.size 3 1 (.slice A1 x.mem.length c1) x.mem.length (nums .i64 x.mem) ∧ Below w.heap.size w w' := by
  obtain ⟨sl, bn, kd, c, q, data, A, cap, mem, dst⟩ := x
  dsimp only at hr hn ⊢
  have HR := Lib.hid hr
  clear hr
  go_enter Tryd.func26, Tryd.ntmps26
  go_wp2_with fail
  generalize hW : (w.alloc _).alloc _ = W
  have hsz : W.heap.size = w.heap.size + 2 := by rw [← hW]; simp
  have hB0 : Below w.heap.size w W := by rw [← hW]; exact ((Below.refl _ _).alloc (Nat.le_refl _) _).alloc (by simp) _
  have hb0 : W.heap[w.heap.size]? = some (.cells #[.int .i64 sl, .int .i64 bn, .int .i64 kd, .int .i64 c, .int .i64 q, .string data, .slice A mem.length cap, .int .i64 dst] 41 (0, 0)) := by rw [← hW]; exact blk_alloc (heap_alloc_new w _) _
  have hb1 : W.heap[w.heap.size + 1]? = some (.cells #[.int .i64 0, .int .i64 0, .int .i64 0, .int .i64 0, .int .i64 0, .string ByteArray.empty, .slice none 0 0, .int .i64 0] 41 (0, 0)) := by rw [← hW]; exact alloc2 _ _ _
  have HB0 := Lib.hid hB0
  have Hb0 := Lib.hid hb0
  have Hb1 := Lib.hid hb1
  have HSZ := Lib.hid hsz
  have hc4 := blk_cell hb0 6
  have HRW := Lib.hid (HR.out.below hB0)
  clear hb0 hb1 hB0 hW hsz
  go_wp2_with (go_at_call 35; refine (clone_any W A mem.length cap mem HRW.out hn).mono ?_
               rintro e w1 ⟨v, rfl, hR, hB⟩
               obtain ⟨A1, c1, rfl⟩ := own_slice hR
               have HR1 := Lib.hid hR
               have HB1 := Lib.hid hB
               have h1 := blk_below Hb0.out hB
               have h2 := blk_below Hb1.out hB
               have hf4 := blk_frozen h1 6
               have e0 := blk_cell h1 6
               have h3 := blk_set h1 6 (.slice A1 mem.length c1)
               have h4 : (w1.setCell ⟨w.heap.size, 6, none⟩ (.slice A1 mem.length c1)).heap[w.heap.size + 1]? = _ := blk_far h2 (by show w.heap.size + 1 ≠ w.heap.size; omega) (.slice A1 mem.length c1)
               have q0 := blk_cell h3 0
               have r0 := blk_cell h4 0
               have q1 := blk_cell h3 1
               have r1 := blk_cell h4 1
               have q2 := blk_cell h3 2
               have r2 := blk_cell h4 2
               have q3 := blk_cell h3 3
               have r3 := blk_cell h4 3
               have q4 := blk_cell h3 4
               have r4 := blk_cell h4 4
               have q5 := blk_cell h3 5
               have r5 := blk_cell h4 5
               have q6 := blk_cell h3 6
               have r6 := blk_cell h4 6
               have q7 := blk_cell h3 7
               have r7 := blk_cell h4 7
               have f0 := fun j => blk_frozen h4 j
               have H4 := Lib.hid h4
               clear hR hB h1 h2 h3 h4)
  have h6 := set8_blk H4.out (.int .i64 sl) (.int .i64 bn) (.int .i64 kd) (.int .i64 c) (.int .i64 q) (.string data) (.slice A1 mem.length c1) (.int .i64 dst)
  have hk : Keep (fun k => k = w.heap.size ∨ k = w.heap.size + 1) w1 (set8 (w1.setCell ⟨w.heap.size, 6, none⟩ (.slice A1 mem.length c1)) (w.heap.size + 1) (.int .i64 sl) (.int .i64 bn) (.int .i64 kd) (.int .i64 c) (.int .i64 q) (.string data) (.slice A1 mem.length c1) (.int .i64 dst)) :=
    set8_keep ((Keep.refl _ _).setCell _ _ (.inl (.inl rfl))) (.inl (.inr rfl)) _ _ _ _ _ _ _ _
  have hf : ∀ v, (set8 (w1.setCell ⟨w.heap.size, 6, none⟩ (.slice A1 mem.length c1)) (w.heap.size + 1) (.int .i64 sl) (.int .i64 bn) (.int .i64 kd) (.int .i64 c) (.int .i64 q) (.string data) (.slice A1 mem.length c1) (.int .i64 dst)) = v → v = (((((((((w1.setCell ⟨w.heap.size, 6, none⟩ (.slice A1 mem.length c1)).setCell ⟨w.heap.size + 1, 0, none⟩ (.int .i64 sl)).setCell ⟨w.heap.size + 1, 1, none⟩ (.int .i64 bn)).setCell ⟨w.heap.size + 1, 2, none⟩ (.int .i64 kd)).setCell ⟨w.heap.size + 1, 3, none⟩ (.int .i64 c)).setCell ⟨w.heap.size + 1, 4, none⟩ (.int .i64 q)).setCell ⟨w.heap.size + 1, 5, none⟩ (.string data)).setCell ⟨w.heap.size + 1, 6, none⟩ (.slice A1 mem.length c1)).setCell ⟨w.heap.size + 1, 7, none⟩ (.int .i64 dst)) := fun v hv => hv.symm
  rw [← hf _ rfl]
  clear hf q0 q1 q2 q3 q4 q5 q6 q7 r0 r1 r2 r3 r4 r5 r6 r7 f0 hf4 e0
  generalize set8 (w1.setCell ⟨w.heap.size, 6, none⟩ (.slice A1 mem.length c1)) (w.heap.size + 1) (.int .i64 sl) (.int .i64 bn) (.int .i64 kd) (.int .i64 c) (.int .i64 q) (.string data) (.slice A1 mem.length c1) (.int .i64 dst) = W6 at *
  have r0 := blk_cell h6 0
  have r1 := blk_cell h6 1
  have r2 := blk_cell h6 2
  have r3 := blk_cell h6 3
  have r4 := blk_cell h6 4
  have r5 := blk_cell h6 5
  have r6 := blk_cell h6 6
  have r7 := blk_cell h6 7
  have hown := hk.own HR1.out (fun k hk' hc => by have := own_base HR1.out k hk'; have := HSZ.out; omega)
  refine bodyPost_ret (v := .agg #[.int .i64 sl, .int .i64 bn, .int .i64 kd, .int .i64 c, .int .i64 q, .string data, .slice A1 mem.length c1, .int .i64 dst]) (by simp [results, Tryd.results26, go_sem, r0, r1, r2, r3, r4, r5, r6, r7]) rfl ⟨_, _, rfl, own_less hown HB0.out.size, ?_⟩
  exact (HB0.out.trans (Below.mono HB1.out (by have := HSZ.out; omega))).trans (hk.to_below (by have := HB0.out.size; have := HB1.out.size; omega) (fun k h => by omega))
end Go.Proofs.YtgkhkcoojfjofaaDoor
