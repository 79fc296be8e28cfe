/- The walks of New, Len, Put. -/
import Derived.Test.YtacbebkaammcnaaDoorTwinW
import Derived.Deep.RegionHeld3
import Derived.Deep.DeepCutAuto
set_option linter.unusedVariables false
set_option linter.unusedSimpArgs false
namespace Go.Proofs.YtacbebkaammcnaaDoor
open Go.RowKit Go.Proofs.YtacbebkaammcnaaDoorW.PrintWords Go.Proofs.Mine

/-- A table of the call's own (from w0's end on). -/
def TabIn (w0 : World) (b : Nat) (s : TSt) (w : World) (F : Nat → Prop) : Prop := TableAt w w0.heap.size F b s ∧ Below w0.heap.size w0 w
theorem TabIn.step {w0 w w' : World} {b : Nat} {F : Nat → Prop} {s s' : TSt} (h : TabIn w0 b s w F) (hs : Table' w w0.heap.size F b s' w') :
    ∃ F', TabIn w0 b s' w' F' ∧ (∀ k, F' k → F k ∨ w.heap.size ≤ k) ∧ Keep F w w' := by
  obtain ⟨F', h1, h2, h3⟩ := hs
  exact ⟨F', ⟨h1, h.2.trans (h3.to_below (by have := h.2.size; omega) (fun k hk => (h.1.2.1 k hk).1))⟩, h2, h3⟩
theorem TabIn.other {w0 w w' : World} {b : Nat} {F : Nat → Prop} {s : TSt} (h : TabIn w0 b s w F) (hk : Keep (fun _ => False) w w') : TabIn w0 b s w' F :=
  ⟨h.1.keep hk (fun _ _ hG => hG), h.2.trans (hk.to_below (by have := h.2.size; omega) (fun k hk => hk.elim))⟩
theorem TabIn.below {w0 w w' : World} {b : Nat} {F : Nat → Prop} {s : TSt} (h : TabIn w0 b s w F) (hb : Below w.heap.size w w') : TabIn w0 b s w' F := h.other (Keep.of_below hb _)
theorem TabIn.alloc {w0 w : World} {b : Nat} {F : Nat → Prop} {s : TSt} (h : TabIn w0 b s w F) (o : Obj) : TabIn w0 b s (w.alloc o) F := h.other ((Keep.refl _ w).alloc o)
def tab0 : TSt := ⟨[], fun _ => none, fun _ => none⟩
theorem tab_new {w0 w : World} (h : Below w0.heap.size w0 w) :
    TabIn w0 (w.heap.size + 2) tab0 (((w.alloc (.map #[] 0)).alloc (.map #[] 0)).alloc (.cells #[.slice none 0 0, .map (some w.heap.size), .map (some (w.heap.size + 1))] 49)) (fun k => k = w.heap.size ∨ k = w.heap.size + 1 ∨ k = w.heap.size + 2) := by
  have h1 : ∀ X Y Z : Obj, (((w.alloc X).alloc Y).alloc Z).heap[w.heap.size + 2]? = some Z := fun X Y Z => by have := heap_alloc_new ((w.alloc X).alloc Y) Z; simpa using this
  refine ⟨⟨.inr (.inr rfl), fun k hk => ?_, _, _, _, h1 _ _ _, Kd.R_nil _ _ _ _ _, ?_, ?_, .inl rfl, .inr (.inl rfl), by omega⟩, ((h.alloc h.size _).alloc (by have := h.size; simp; omega) _).alloc (by have := h.size; simp; omega) _⟩
  · have := h.size
    simp only [World.alloc, Array.size_push]
    omega
  · exact (MapG.new w).move (blk_alloc (blk_alloc (heap_alloc_new w _) _) _ |>.trans (heap_alloc_new w _).symm)
  · have h2 := MapI.new (α := Int) (enc := Value.int .i64) (w.alloc (.map #[] 0))
    have e : (w.alloc (.map #[] 0)).heap.size = w.heap.size + 1 := by simp
    rw [e] at h2
    exact h2.move (Below.heap_alloc _ _ _ (by simp))
set_option maxHeartbeats 400000 in
theorem new_tab (w : World) :
    Calls Tryd.prog 8 #[] w fun e w' => e = .returned (.pointer (some ⟨w.heap.size + 2, 0, none⟩)) ∧ w' = ((w.alloc (.map #[] 0)).alloc (.map #[] 0)).alloc (.cells #[.slice none 0 0, .map (some w.heap.size), .map (some (w.heap.size + 1))] 49) := by
  have h46 := run_makeMap (P := Tryd.prog)
  go_enter Tryd.func8, Tryd.ntmps8
  go_wp2
  go_ret
  exact ⟨rfl, rfl⟩
set_option maxHeartbeats 400000 in
theorem len_any (w : World) (base : Nat) (F : Nat → Prop) (b : Nat) (s : TSt) (h : TableAt w base F b s) :
    Calls Tryd.prog 12 #[.pointer (some ⟨b, 0, none⟩)] w fun e w' => e = .returned (.int .i64 s.l.length) ∧ w = w' := by
  obtain ⟨_, _, vl, B1, B2, hb, hR, _⟩ := h
  obtain ⟨A, c, rfl⟩ := Kd.R_slice hR
  have hc := blk_cell hb 0
  have HB := Lib.hid hb
  clear hb hR
  go_enter Tryd.func12, Tryd.ntmps12
  go_wp2
  go_ret
  exact ⟨rfl, rfl⟩
theorem Tryd.zero3 (w : World) : (zeroValue 3).run Tryd.prog w = .ok (.int .i64 0) w := by kernel_rfl
theorem gr_look {w : World} {B : Nat} {s : TSt} (h : MapI (Value.int .i64) w B s.gr) (c : Int) : (Instr.lookup 47 (.map (some B)) (.int .i64 c) false).run Tryd.prog w = .ok (.int .i64 (grN s c)) w := by
  rw [h.lookup Tryd.underlying47 Tryd.underlying3 (Tryd.zero3 w)]
  unfold grN
  cases s.gr c <;> rfl
theorem pl_look {w : World} {B : Nat} {s : TSt} (h : MapG reqV (Value.int .i64) w B s.pl) (c q : Int) : (Instr.lookup 46 (.map (some B)) (.agg #[.int .i64 c, .int .i64 q]) false).run Tryd.prog w = .ok (.int .i64 (plN s c q)) w := by
  have := h.lookup (P := Tryd.prog) reqOk Tryd.underlying46 (Tryd.zero3 w) (c, q) false
  unfold plN
  rw [show Value.agg #[.int .i64 c, .int .i64 q] = reqV (c, q) from rfl, this]
  cases s.pl (c, q) <;> rfl
/-- An entry that may not be placed. -/
theorem okPut_false {s : TSt} {x : Ent} (h : okPut s x = false) : (x.kd ≠ 1 ∧ x.kd ≠ 2 ∧ x.kd ≠ 3) ∨ x.c < 1 ∨ x.q < 1 ∨ x.q ≤ grN s x.c := by
  simp only [okPut, Bool.and_eq_false_iff, Bool.or_eq_false_iff, beq_eq_false_iff_ne, decide_eq_false_iff_not] at h
  omega
theorem okPut_true {s : TSt} {x : Ent} (h : okPut s x = true) : (x.kd = 1 ∨ x.kd = 2 ∨ x.kd = 3) ∧ 1 ≤ x.c ∧ 1 ≤ x.q ∧ grN s x.c < x.q := by
  simp only [okPut, Bool.and_eq_true, Bool.or_eq_true, beq_iff_eq, decide_eq_true_eq] at h
  omega
theorem kinds_of {kd : Int} (k : kd = 1 ∨ kd = 2 ∨ kd = 3) : (kd == 1) = true ∨ ((kd == 1) = false ∧ (kd == 2) = true) ∨ ((kd == 1) = false ∧ (kd == 2) = false ∧ (kd == 3) = true) := by
  rcases k with rfl | rfl | rfl
  · exact .inl rfl
  · exact .inr (.inl ⟨rfl, rfl⟩)
  · exact .inr (.inr ⟨rfl, rfl, rfl⟩)
def kindB (kd : Int) : Bool := kd == 1 || kd == 2 || kd == 3
theorem kindB_true {kd : Int} (k : kd = 1 ∨ kd = 2 ∨ kd = 3) : kindB kd = true := by rcases k with rfl | rfl | rfl <;> rfl
theorem kindB_false {kd : Int} (k : ¬ (kd = 1 ∨ kd = 2 ∨ kd = 3)) : kindB kd = false := by
  unfold kindB
  rw [beq_eq_false_iff_ne.mpr (by omega), beq_eq_false_iff_ne.mpr (by omega), beq_eq_false_iff_ne.mpr (by omega)]; rfl
set_option maxRecDepth 100000 in
set_option maxHeartbeats 8000000 in
theorem put_no (w : World) (base : Nat) (F : Nat → Prop) (b : Nat) (s : TSt) (x : Ent) (v : Value) (h : TableAt w base F b s) (hno : okPut s x = false) :
    Calls Tryd.prog 10 #[.pointer (some ⟨b, 0, none⟩), x.val v] w fun e w' => e = .returned (.tuple #[.int .i64 0, .bool false]) ∧ Below w.heap.size w w' := by
  obtain ⟨_, _, vl, B1, B2, hb, hR, hM1, hM2, _⟩ := h
  have hn := okPut_false hno
  obtain ⟨kd, c, q, data, mem, dst⟩ := x
  simp only [Ent.val] at hn ⊢
  clear hno hM1
  generalize hg : grN s c = g at hn
  have HL : RowKit.Hid (∀ X nq, (Instr.lookup 47 (.map (some B2)) (.int .i64 c) false).run Tryd.prog ((w.alloc X).drewN nq) = .ok (.int .i64 g) ((w.alloc X).drewN nq)) := fun X nq => by rw [gr_look (w := (w.alloc X).drewN nq) (hM2.move (Below.heap_alloc w X _ hM2.lt)), hg]
  have HC2 : RowKit.Hid (∀ X, (w.alloc X).cell? ⟨b, 2, none⟩ = some (.map (some B2))) := fun X => blk_cell (blk_alloc hb X) 2
  clear hb hR hM2 hg
  go_enter Tryd.func10, Tryd.ntmps10
  go_upto_region 1 with fail
  generalize hW : w.alloc _ = W
  have hb0 : W.heap[w.heap.size]? = some (.cells #[.int .i64 kd, .int .i64 c, .int .i64 q, .string data, v, .int .i64 dst] 31 (0, 0)) := by rw [← hW]; exact heap_alloc_new w _
  have e0 := blk_cell hb0 0
  have e1 := blk_cell hb0 1
  have e2 := blk_cell hb0 2
  have hc2 : W.cell? ⟨b, 2, none⟩ = some (.map (some B2)) := by rw [← hW]; exact HC2.out _
  have hlk : ∀ nq, (Instr.lookup 47 (.map (some B2)) (.int .i64 c) false).run Tryd.prog (W.drewN nq) = .ok (.int .i64 g) (W.drewN nq) := fun nq => by rw [← hW]; exact HL.out _ nq
  have HB : RowKit.Hid (Below w.heap.size w W) := by rw [← hW]; exact (Below.refl _ _).alloc (Nat.le_refl _) _
  clear hW hb0
  go_cut [6] (fun v wx => v = .bool (kindB kd) ∧ wx = W)
  case first =>
    by_cases k : kd = 1 ∨ kd = 2 ∨ kd = 3
    · have hk := kindB_true k
      have k := kinds_of k
      rcases k with k1 | ⟨k1, k2⟩ | ⟨k1, k2, k3⟩
      all_goals
        go_wp2
        go_meet
        case rel => exact ⟨by rw [hk], rfl⟩
    · have hk := kindB_false k
      have k1 : (kd == 1) = false := beq_eq_false_iff_ne.mpr (by omega)
      have k2 : (kd == 2) = false := beq_eq_false_iff_ne.mpr (by omega)
      have k3 : (kd == 3) = false := beq_eq_false_iff_ne.mpr (by omega)
      go_wp2
      go_meet
      case rel => exact ⟨by rw [hk], rfl⟩
  case rest =>
    obtain ⟨rfl, rfl⟩ := hcut
    by_cases k : kd = 1 ∨ kd = 2 ∨ kd = 3
    · rw [kindB_true k]
      have hn2 : c < 1 ∨ (1 ≤ c ∧ q < 1) ∨ (1 ≤ c ∧ 1 ≤ q ∧ q ≤ g) := by omega
      clear hn
      rcases hn2 with hc | ⟨hc, hq⟩ | ⟨hc, hq, hg⟩
      · have d1 : decide (c < 1) = true := by simpa using hc
        clear hc
        go_wp2_with fail
        go_quiet (fail)
        go_wp2
        go_ret2
        exact ⟨rfl, pw_below_drewN HB.out _⟩
      · have d1 : decide (c < 1) = false := by simpa using hc
        have d2 : decide (q < 1) = true := by simpa using hq
        clear hc hq
        go_wp2_with fail
        go_quiet (fail)
        go_wp2
        go_ret2
        exact ⟨rfl, pw_below_drewN HB.out _⟩
      · have d1 : decide (c < 1) = false := by simpa using hc
        have d2 : decide (q < 1) = false := by simpa using hq
        have d3 : decide (q ≤ g) = true := by simpa using hg
        clear hc hq hg
        go_wp2_with fail
        go_quiet (fail)
        go_wp2
        go_ret2
        exact ⟨rfl, pw_below_drewN HB.out _⟩
    · rw [kindB_false k]
      clear hn k
      go_wp2_with fail
      go_quiet (fail)
      go_wp2
      go_ret2
      exact ⟨rfl, pw_below_drewN HB.out _⟩
end Go.Proofs.YtacbebkaammcnaaDoor
