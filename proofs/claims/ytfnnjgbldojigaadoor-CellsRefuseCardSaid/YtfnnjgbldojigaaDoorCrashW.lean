/- The walk of Crash. -/
import Derived.Test.YtfnnjgbldojigaaDoorAppW
set_option linter.unusedVariables false
set_option linter.unusedSimpArgs false
namespace Go.Proofs.YtfnnjgbldojigaaDoor
open Go.RowKit Go.Proofs.YtfnnjgbldojigaaDoorW.PrintWords Go.Proofs.Mine

theorem cut_run (A : Option Addr) (L c m : Nat) (h : m ≤ c) (W : World) : (Instr.slice 32 (.slice A L c) none (some (.int .i64 (m : Int))) (some (.int .i64 (m : Int)))).run Tryd.prog W = .ok (.slice A m m) W := by
  have h1 : ¬ ((c : Int) < (m : Int)) := by omega
  simp [Instr.slice, run_underlying Tryd.underlying32, Instr.sliceBounds, Instr.sliceBound, asIntOf, h1, h]
  intro _
  cases A <;> simp [Addr.add]
theorem tmod_bounds (a n : Int) (hn : 0 < n) : -n < a.tmod n ∧ a.tmod n < n := by
  have := Int.tmod_eq_emod (a := a) (b := n)
  have h3 := Int.emod_nonneg a (show n ≠ 0 by omega)
  have h4 := Int.emod_lt_of_pos a hn
  split at this <;> omega
theorem tmod_twice (a n : Int) (hn : 0 < n) : (a.tmod n + n).tmod n = a % n := by
  have h1 := tmod_bounds a n hn
  have h2 := Int.tmod_add_mul_tdiv a n
  rw [Int.tmod_eq_emod_of_nonneg (by omega)]
  have : a = (a.tmod n + n) + n * (a.tdiv n - 1) := by rw [Int.mul_sub, Int.mul_one]; omega
  conv => rhs; rw [this, Int.add_mul_emod_self_left]
theorem cap_le {k : IntKind} {e : TypeId} {w : World} {base : Nat} {A : Option Addr} {c : Nat} {l : List Int} (h : Buf k e w base (.slice A l.length c) l) : l.length ≤ c := by
  rcases h with ⟨_, rfl⟩ | ⟨g, cap, cur, hv, _, _, h3, _⟩
  · simp
  · injection hv with _ _ hc; omega
/-- What Crash leaves of the block. -/
theorem tape_crash {w W : World} {base b : Nat} {F : Nat → Prop} {s : TS} {A : Option Addr} {c m : Nat} (h : TOpen w base F b s A c) (hW : Keep (fun _ => False) w W) (hm : m ≤ s.l.length) :
    Tape' w base F b { s with l := s.l.take m, synced := m, dead := false, left := 0 } ((((W.setCell ⟨b, 1, none⟩ (.slice A m m)).setCell ⟨b, 2, none⟩ (.int .i64 (m : Int))).setCell ⟨b, 4, none⟩ (.bool false)).setCell ⟨b, 3, none⟩ (.int .i64 0)) := by
  have hb : W.heap[b]? = some (.cells #[.int .i64 s.room, .slice A s.l.length c, .int .i64 (s.synced : Int), .int .i64 s.left, .bool s.dead, .int .i64 s.ops] 78 (0, 0)) := hW.blk h.blk (fun h => h)
  have hk : Keep (fun k => k = b) w ((((W.setCell ⟨b, 1, none⟩ (.slice A m m)).setCell ⟨b, 2, none⟩ (.int .i64 (m : Int))).setCell ⟨b, 4, none⟩ (.bool false)).setCell ⟨b, 3, none⟩ (.int .i64 0)) :=
    ((((Keep.mono (G := fun k => k = b) hW (fun _ h _ => h.elim)).setCell ⟨b, 1, none⟩ _ (.inl rfl)).setCell ⟨b, 2, none⟩ _ (.inl rfl)).setCell ⟨b, 4, none⟩ _ (.inl rfl)).setCell ⟨b, 3, none⟩ _ (.inl rfl)
  refine ⟨F, ⟨h.inF, fun k hk2 => ⟨(h.lt k hk2).1, Nat.lt_of_lt_of_le (h.lt k hk2).2 hk.size⟩, .slice A m m, ?_, (h.buf.keep hk (fun j hj e => (h.own j hj).2 e)).cut m hm, fun k hk => h.own k (by cases A <;> exact hk)⟩, fun _ h => .inl h, hk.mono (fun k e _ => by subst e; exact h.inF)⟩
  exact blk_set (blk_set (blk_set (blk_set hb 1 _) 2 _) 4 _) 3 _
/-- A piece of the code that ends as it should. -/
def Norm (R : Act → World → Prop) : Exit → Act → World → Prop
  | .normal, a, w => R a w
  | _, _, _ => False
theorem wp_norm {P : Program} {s : Code} {K : Act → World → Prop} {Q' : Exit → Act → World → Prop} {a : Act} {w : World} (R : Act → World → Prop)
    (first : s.wp P (Norm R) a w) (rest : ∀ a' w', R a' w' → K a' w') : s.wp P (Exit.then K Q') a w := by
  refine wp_mono first ?_
  intro e a' w' h
  cases e with
  | normal => exact rest _ _ h
  | exit k => exact h.elim
  | goto l => exact h.elim
  | ret => exact h.elim
  | panic ch => exact h.elim
  | outgrown => exact h.elim
theorem Norm.mk {R : Act → World → Prop} {a : Act} {w : World} (h : R a w) : Norm R .normal a w := h
def CrashRel (b m : Nat) (A : Option Addr) (pick : Int) (N k : Nat) (W : World) (a' : Act) (w' : World) : Prop :=
  ∃ (x7 x8 x9 x10 x11 x12 x13 x14 x15 x16 x17 x18 x19 x20 x21 x22 x23 x24 x25 x26 x27 x28 x29 x30 x31 x32 x33 x34 x35 x36 x37 x38 x39 x40 x41 x42 x43 x44 x45 x46 : Value), a' = ⟨#[.pointer (some ⟨b, 0, none⟩), .int .i64 pick, undef, undef, .int .i64 0, .int .i64 (N : Int), .int .i64 (k : Int), x7, x8, x9, x10, x11, x12, x13, x14, x15, x16, x17, x18, x19, x20, x21, x22, x23, x24, x25, x26, x27, x28, x29, x30, x31, x32, x33, x34, x35, x36, x37, x38, x39, x40, x41, x42, x43, x44, x45, x46, undef, undef, undef, undef, undef, undef, undef, undef, undef, undef, undef, undef, undef, undef, undef], []⟩ ∧ w' = W.setCell ⟨b, 1, none⟩ (.slice A m m)
theorem CrashRel.mk {b m : Nat} {A : Option Addr} {pick : Int} {N k : Nat} {W : World} {a' : Act} {w' : World} {x7 x8 x9 x10 x11 x12 x13 x14 x15 x16 x17 x18 x19 x20 x21 x22 x23 x24 x25 x26 x27 x28 x29 x30 x31 x32 x33 x34 x35 x36 x37 x38 x39 x40 x41 x42 x43 x44 x45 x46 : Value} (ha : a' = ⟨#[.pointer (some ⟨b, 0, none⟩), .int .i64 pick, undef, undef, .int .i64 0, .int .i64 (N : Int), .int .i64 (k : Int), x7, x8, x9, x10, x11, x12, x13, x14, x15, x16, x17, x18, x19, x20, x21, x22, x23, x24, x25, x26, x27, x28, x29, x30, x31, x32, x33, x34, x35, x36, x37, x38, x39, x40, x41, x42, x43, x44, x45, x46, undef, undef, undef, undef, undef, undef, undef, undef, undef, undef, undef, undef, undef, undef, undef], []⟩) (hw : w' = W.setCell ⟨b, 1, none⟩ (.slice A m m)) : CrashRel b m A pick N k W a' w' := ⟨x7, x8, x9, x10, x11, x12, x13, x14, x15, x16, x17, x18, x19, x20, x21, x22, x23, x24, x25, x26, x27, x28, x29, x30, x31, x32, x33, x34, x35, x36, x37, x38, x39, x40, x41, x42, x43, x44, x45, x46, ha, hw⟩
set_option maxRecDepth 100000 in
set_option maxHeartbeats 4000000 in
theorem crash_any (pick : Int) (w : World) (base b : Nat) (F : Nat → Prop) (s : TS) (hk : TOk s) (h : TapeAt w base F b s) :
    Calls Tryd.prog 19 #[.pointer (some ⟨b, 0, none⟩), .int .i64 pick] w fun r w' => r = .returned (.int .i64 (crashK s pick : Int)) ∧ Tape' w base F b (crashS s pick) w' := by
  obtain ⟨A, c, ho⟩ := h.open_
  have hcl := cap_le ho.buf
  have hlr : (s.l.length : Int) ≤ 1073741824 := by have := hk.len; have := hk.room2; omega
  have hsy := hk.syn
  obtain ⟨N, hN⟩ : ∃ N : Nat, N = s.l.length - s.synced := ⟨_, rfl⟩
  obtain ⟨k, hkk⟩ : ∃ k : Nat, k = crashK s pick := ⟨_, rfl⟩
  obtain ⟨m, hm⟩ : ∃ m : Nat, m = s.synced + k := ⟨_, rfl⟩
  have hkI : pick % ((N : Int) + 1) = (k : Int) := by
    rw [hkk, crashK, ← hN]
    have := Int.emod_nonneg pick (show ((N : Int) + 1) ≠ 0 by omega)
    omega
  have hkN : k ≤ N := by have := Int.emod_lt_of_pos pick (show (0 : Int) < (N : Int) + 1 by omega); omega
  have hml : m ≤ s.l.length := by omega
  have hS : crashS s pick = { s with l := s.l.take m, synced := m, dead := false, left := 0 } := by rw [hm, hkk]; rfl
  rw [hS, ← hkk]
  have hb1 := tmod_bounds pick ((N : Int) + 1) (by omega)
  have htw := tmod_twice pick ((N : Int) + 1) (by omega)
  rw [hkI] at htw
  obtain ⟨t1, ht1⟩ : ∃ t, t = pick.tmod ((N : Int) + 1) := ⟨_, rfl⟩
  rw [← ht1] at hb1 htw
  have hz : ((N : Int) + 1 == 0) = false := by simp; omega
  have hwN : IntKind.i64.wrap ((s.l.length : Int) - (s.synced : Int)) = (N : Int) := (IntWalk.i64_in _ (by omega)).trans (by omega)
  have hwm : IntKind.i64.wrap ((s.synced : Int) + (k : Int)) = (m : Int) := (IntWalk.i64_in _ (by omega)).trans (by omega)
  have hcut := cut_run A s.l.length c m (by omega)
  have p1 : ∀ nq, (w.drewN nq).cell? ⟨b, 1, none⟩ = some (.slice A s.l.length c) := fun _ => blk_cell ho.blk 1
  have p2 : ∀ nq, (w.drewN nq).cell? ⟨b, 2, none⟩ = some (.int .i64 (s.synced : Int)) := fun _ => blk_cell ho.blk 2
  have f1 : ∀ nq, (w.drewN nq).frozen? ⟨b, 1, none⟩ = false := fun _ => blk_frozen ho.blk 1
  have HO := Lib.hid ho
  have hT1 := ht1.symm
  have htw2 : (t1 + (N : Int) + 1).tmod ((N : Int) + 1) = (k : Int) := by rw [Int.add_assoc]; exact htw
  have hN0 : (0 : Int) ≤ (N : Int) := by omega
  have hN1 : (N : Int) ≤ 1073741824 := by omega
  have ht0 : -1073741826 ≤ t1 := by omega
  have ht2 : t1 ≤ 1073741826 := by omega
  have htn : 0 ≤ t1 + (N : Int) := by omega
  clear h ho hk hkk hN hm hS htw hkI ht1 hb1
  go_enter Tryd.func19, Tryd.ntmps19
  go_wp2_with fail
  go_quiet (fail)
  go_wp2_with fail
  have HKW := Lib.hid (show Keep (fun _ => False) w ((w.drewN nq).drew) from ⟨rfl, rfl, rfl, Nat.le_refl _, fun _ _ _ => rfl⟩)
  have c1 : (w.drewN nq).drew.cell? ⟨b, 1, none⟩ = some (.slice A s.l.length c) := blk_cell HO.out.blk 1
  have c2 : (w.drewN nq).drew.cell? ⟨b, 2, none⟩ = some (.int .i64 (s.synced : Int)) := blk_cell HO.out.blk 2
  have c3 : (w.drewN nq).drew.cell? ⟨b, 3, none⟩ = some (.int .i64 s.left) := blk_cell HO.out.blk 3
  have c4 : (w.drewN nq).drew.cell? ⟨b, 4, none⟩ = some (.bool s.dead) := blk_cell HO.out.blk 4
  have g1 : (w.drewN nq).drew.frozen? ⟨b, 1, none⟩ = false := blk_frozen HO.out.blk 1
  have g2 : (w.drewN nq).drew.frozen? ⟨b, 2, none⟩ = false := blk_frozen HO.out.blk 2
  have g3 : (w.drewN nq).drew.frozen? ⟨b, 3, none⟩ = false := blk_frozen HO.out.blk 3
  have g4 : (w.drewN nq).drew.frozen? ⟨b, 4, none⟩ = false := blk_frozen HO.out.blk 4
  have HT := Lib.hid (tape_crash (m := m) HO.out HKW.out hml)
  -- CUT
  generalize hW : (w.drewN nq).drew = W at *
  refine wp_norm (CrashRel b m A pick N k W) ?_ ?_
  · go_region_law (fail)
    all_goals
      go_wp2
      exact Norm.mk (CrashRel.mk rfl (by first | rfl | (rw [← hW]; rfl)))
  rintro a' w' ⟨x7, x8, x9, x10, x11, x12, x13, x14, x15, x16, x17, x18, x19, x20, x21, x22, x23, x24, x25, x26, x27, x28, x29, x30, x31, x32, x33, x34, x35, x36, x37, x38, x39, x40, x41, x42, x43, x44, x45, x46, rfl, rfl⟩
  clear hW
  go_step
  go_step
  go_wp2
  go_ret
  exact ⟨rfl, HT.out⟩
end Go.Proofs.YtfnnjgbldojigaaDoor
