/- The reference's tape: Crash, New walked. -/
import Derived.Test.YtjjlojaaefipmaaDoorRefX
set_option linter.unusedVariables false
set_option linter.unusedSimpArgs false
namespace Go.Proofs.YtjjlojaaefipmaaDoor
open Go.RowKit Go.Proofs.YtjjlojaaefipmaaDoorW.PrintWords Go.Proofs.Mine

def RCrashRel (b m c : Nat) (A : Option Addr) (pick : Int) (N k : Nat) (W : World) (a' : Act) (w' : World) : Prop :=
  ∃ (x7 x8 x9 x10 x11 x12 x13 x14 x15 x16 x17 x18 x19 x20 x21 x22 x23 x24 x25 x26 x27 x28 x29 x30 x31 x32 x33 x34 x35 x36 x37 x38 x39 x40 : Value), a' = ⟨#[.pointer (some ⟨b, 0, none⟩), .int .i64 pick, undef, undef, .int .i64 0, .int .i64 (N : Int), .int .i64 (k : Int), x7, x8, x9, x10, x11, x12, x13, x14, x15, x16, x17, x18, x19, x20, x21, x22, x23, x24, x25, x26, x27, x28, x29, x30, x31, x32, x33, x34, x35, x36, x37, x38, x39, x40, undef, undef, undef, undef, undef, undef, undef, undef, undef, undef, undef, undef, undef, undef, undef], []⟩ ∧ w' = W.setCell ⟨b, 2, none⟩ (.slice A m c)
theorem RCrashRel.mk {b m c : Nat} {A : Option Addr} {pick : Int} {N k : Nat} {W : World} {a' : Act} {w' : World} {x7 x8 x9 x10 x11 x12 x13 x14 x15 x16 x17 x18 x19 x20 x21 x22 x23 x24 x25 x26 x27 x28 x29 x30 x31 x32 x33 x34 x35 x36 x37 x38 x39 x40 : Value} (ha : a' = ⟨#[.pointer (some ⟨b, 0, none⟩), .int .i64 pick, undef, undef, .int .i64 0, .int .i64 (N : Int), .int .i64 (k : Int), x7, x8, x9, x10, x11, x12, x13, x14, x15, x16, x17, x18, x19, x20, x21, x22, x23, x24, x25, x26, x27, x28, x29, x30, x31, x32, x33, x34, x35, x36, x37, x38, x39, x40, undef, undef, undef, undef, undef, undef, undef, undef, undef, undef, undef, undef, undef, undef, undef], []⟩) (hw : w' = W.setCell ⟨b, 2, none⟩ (.slice A m c)) : RCrashRel b m c A pick N k W a' w' := ⟨x7, x8, x9, x10, x11, x12, x13, x14, x15, x16, x17, x18, x19, x20, x21, x22, x23, x24, x25, x26, x27, x28, x29, x30, x31, x32, x33, x34, x35, x36, x37, x38, x39, x40, ha, hw⟩
theorem buf_front {k : IntKind} {e : TypeId} {w : World} {base : Nat} {A : Option Addr} {c : Nat} {l : List Int} (h : Buf k e w base (.slice A l.length c) l) (n : Nat) (hn : n ≤ l.length) : Buf k e w base (.slice A n c) (l.take n) := by
  rcases h with ⟨hv, rfl⟩ | ⟨g, cap, cur, hv, h1, h2, h3, h4, h5, h6⟩
  · injection hv with h1 h2 h3
    subst h1 h3
    have : n = 0 := by simpa using hn
    subst this
    exact .inl ⟨rfl, rfl⟩
  · injection hv with hA _ hc
    subst hA hc
    have hl : (l.take n).length = n := by rw [List.length_take]; omega
    refine .inr ⟨g, c, cur, by rw [hl], h1, h2, by rw [hl]; omega, h4, h5, ?_⟩
    rw [hl]
    have := congrArg (List.take n) h6
    rw [List.take_take, Nat.min_eq_left hn] at this
    rw [this]; simp [nums, List.map_take]
theorem ref_crash {w W : World} {base b : Nat} {F : Nat → Prop} {s : TS} {A : Option Addr} {c m : Nat} (h : ROpen w base F b s A c) (hW : Keep (fun _ => False) w W) (hm : m ≤ s.l.length) :
    Ref' w base F b { s with l := s.l.take m, synced := m, dead := false, left := 0 } ((((W.setCell ⟨b, 2, none⟩ (.slice A m c)).setCell ⟨b, 1, none⟩ (.int .i64 (m : Int))).setCell ⟨b, 5, none⟩ (.bool false)).setCell ⟨b, 3, none⟩ (.int .i64 0)) := by
  have hb : W.heap[b]? = some (.cells #[.int .i64 s.room, .int .i64 (s.synced : Int), .slice A s.l.length c, .int .i64 s.left, .int .i64 s.ops, .bool s.dead] 49 (0, 0)) := hW.blk h.blk (fun h => h)
  have hk : Keep (fun k => k = b) w ((((W.setCell ⟨b, 2, none⟩ (.slice A m c)).setCell ⟨b, 1, none⟩ (.int .i64 (m : Int))).setCell ⟨b, 5, none⟩ (.bool false)).setCell ⟨b, 3, none⟩ (.int .i64 0)) :=
    ((((Keep.mono (G := fun k => k = b) hW (fun _ h _ => h.elim)).setCell ⟨b, 2, none⟩ _ (.inl rfl)).setCell ⟨b, 1, none⟩ _ (.inl rfl)).setCell ⟨b, 5, none⟩ _ (.inl rfl)).setCell ⟨b, 3, none⟩ _ (.inl rfl)
  refine ⟨F, ⟨h.inF, fun k hk2 => ⟨(h.lt k hk2).1, Nat.lt_of_lt_of_le (h.lt k hk2).2 hk.size⟩, .slice A m c, ?_, buf_front (h.buf.keep hk (fun j hj e => (h.own j hj).2 e)) m hm, fun k hk => h.own k (by cases A <;> exact hk)⟩, fun _ h => .inl h, hk.mono (fun k e _ => by subst e; exact h.inF)⟩
  exact blk_set (blk_set (blk_set (blk_set hb 2 _) 1 _) 5 _) 3 _
set_option maxRecDepth 100000 in
set_option maxHeartbeats 4000000 in
theorem rcrash_any (pick : Int) (w : World) (base b : Nat) (F : Nat → Prop) (s : TS) (hk : TOk s) (h : RefAt w base F b s) :
    Calls Tryd.prog 22 #[.pointer (some ⟨b, 0, none⟩), .int .i64 pick] w fun r w' => r = .returned (.int .i64 (crashK s pick : Int)) ∧ Ref' w base F b (crashS s pick) w' := by
  obtain ⟨A, c, ho⟩ := h.open_
  have hcl := cap_le ho.buf
  have hlr : (s.l.length : Int) ≤ 1073741824 := by have := hk.len; have := hk.room2; omega
  have hsy := hk.syn
  obtain ⟨N, hN⟩ : ∃ N : Nat, N = s.l.length - s.synced := ⟨_, rfl⟩
  obtain ⟨k, hkk⟩ : ∃ k : Nat, k = crashK s pick := ⟨_, rfl⟩
  obtain ⟨m, hm⟩ : ∃ m : Nat, m = s.synced + k := ⟨_, rfl⟩
  have hkI : pick % ((N : Int) + 1) = (k : Int) := by
    rw [hkk, crashK, ← hN]
    have := Int.emod_nonneg pick (show ((N : Int) + 1) ≠ 0 by omega)
    omega
  have hkN : k ≤ N := by have := Int.emod_lt_of_pos pick (show (0 : Int) < (N : Int) + 1 by omega); omega
  have hml : m ≤ s.l.length := by omega
  have hS : crashS s pick = { s with l := s.l.take m, synced := m, dead := false, left := 0 } := by rw [hm, hkk]; rfl
  rw [hS, ← hkk]
  have hb1 := tmod_bounds pick ((N : Int) + 1) (by omega)
  have htf := tmod_fix pick ((N : Int) + 1) (by omega)
  rw [hkI] at htf
  obtain ⟨t1, ht1⟩ : ∃ t, t = pick.tmod ((N : Int) + 1) := ⟨_, rfl⟩
  rw [← ht1] at hb1 htf
  have hz : ((N : Int) + 1 == 0) = false := by simp; omega
  have hwN : IntKind.i64.wrap ((s.l.length : Int) - (s.synced : Int)) = (N : Int) := (IntWalk.i64_in _ (by omega)).trans (by omega)
  have hwm : IntKind.i64.wrap ((s.synced : Int) + (k : Int)) = (m : Int) := (IntWalk.i64_in _ (by omega)).trans (by omega)
  have hcut := cut_to A s.l.length c m (by omega)
  have p2 : ∀ nq, (w.drewN nq).cell? ⟨b, 2, none⟩ = some (.slice A s.l.length c) := fun _ => blk_cell ho.blk 2
  have p1 : ∀ nq, (w.drewN nq).cell? ⟨b, 1, none⟩ = some (.int .i64 (s.synced : Int)) := fun _ => blk_cell ho.blk 1
  have HO := Lib.hid ho
  have hT1 := ht1.symm
  have hN0 : (0 : Int) ≤ (N : Int) := by omega
  have hN1 : (N : Int) ≤ 1073741824 := by omega
  have ht0 : -1073741826 ≤ t1 := by omega
  have ht2 : t1 ≤ 1073741826 := by omega
  have hb2 := hb1.1
  clear h ho hk hkk hN hm hS hkI ht1 hb1
  by_cases hneg : t1 < 0
  · rw [if_pos hneg] at htf
    have htn : -1 ≤ t1 + (N : Int) := by omega
    have htf2 : t1 + (N : Int) + 1 = (k : Int) := by omega
    clear htf
    go_enter Tryd.func22, Tryd.ntmps22
    go_wp2_with fail
    go_quiet (fail)
    go_wp2_with fail
    have HKW := Lib.hid (show Keep (fun _ => False) w ((w.drewN nq).drew) from ⟨rfl, rfl, rfl, Nat.le_refl _, fun _ _ _ => rfl⟩)
    have c2 : (w.drewN nq).drew.cell? ⟨b, 2, none⟩ = some (.slice A s.l.length c) := blk_cell HO.out.blk 2
    have c1 : (w.drewN nq).drew.cell? ⟨b, 1, none⟩ = some (.int .i64 (s.synced : Int)) := blk_cell HO.out.blk 1
    have c3 : (w.drewN nq).drew.cell? ⟨b, 3, none⟩ = some (.int .i64 s.left) := blk_cell HO.out.blk 3
    have c5 : (w.drewN nq).drew.cell? ⟨b, 5, none⟩ = some (.bool s.dead) := blk_cell HO.out.blk 5
    have g1 : (w.drewN nq).drew.frozen? ⟨b, 1, none⟩ = false := blk_frozen HO.out.blk 1
    have g2 : (w.drewN nq).drew.frozen? ⟨b, 2, none⟩ = false := blk_frozen HO.out.blk 2
    have g3 : (w.drewN nq).drew.frozen? ⟨b, 3, none⟩ = false := blk_frozen HO.out.blk 3
    have g5 : (w.drewN nq).drew.frozen? ⟨b, 5, none⟩ = false := blk_frozen HO.out.blk 5
    have HT := Lib.hid (ref_crash (m := m) HO.out HKW.out hml)
    generalize hW : (w.drewN nq).drew = W at *
    refine wp_norm (RCrashRel b m c A pick N k W) ?_ ?_
    · go_region_law (fail)
      all_goals
        go_wp2
        exact Norm.mk (RCrashRel.mk rfl (by first | rfl | (rw [← hW]; rfl)))
    rintro a' w' ⟨x7, x8, x9, x10, x11, x12, x13, x14, x15, x16, x17, x18, x19, x20, x21, x22, x23, x24, x25, x26, x27, x28, x29, x30, x31, x32, x33, x34, x35, x36, x37, x38, x39, x40, rfl, rfl⟩
    clear hW
    go_step
    go_step
    go_wp2
    go_ret
    exact ⟨rfl, HT.out⟩
  · rw [if_neg hneg] at htf
    have hge : 0 ≤ t1 := by omega
    subst htf
    go_enter Tryd.func22, Tryd.ntmps22
    go_wp2_with fail
    go_quiet (fail)
    go_wp2_with fail
    have HKW := Lib.hid (show Keep (fun _ => False) w ((w.drewN nq).drew) from ⟨rfl, rfl, rfl, Nat.le_refl _, fun _ _ _ => rfl⟩)
    have c2 : (w.drewN nq).drew.cell? ⟨b, 2, none⟩ = some (.slice A s.l.length c) := blk_cell HO.out.blk 2
    have c1 : (w.drewN nq).drew.cell? ⟨b, 1, none⟩ = some (.int .i64 (s.synced : Int)) := blk_cell HO.out.blk 1
    have c3 : (w.drewN nq).drew.cell? ⟨b, 3, none⟩ = some (.int .i64 s.left) := blk_cell HO.out.blk 3
    have c5 : (w.drewN nq).drew.cell? ⟨b, 5, none⟩ = some (.bool s.dead) := blk_cell HO.out.blk 5
    have g1 : (w.drewN nq).drew.frozen? ⟨b, 1, none⟩ = false := blk_frozen HO.out.blk 1
    have g2 : (w.drewN nq).drew.frozen? ⟨b, 2, none⟩ = false := blk_frozen HO.out.blk 2
    have g3 : (w.drewN nq).drew.frozen? ⟨b, 3, none⟩ = false := blk_frozen HO.out.blk 3
    have g5 : (w.drewN nq).drew.frozen? ⟨b, 5, none⟩ = false := blk_frozen HO.out.blk 5
    have HT := Lib.hid (ref_crash (m := m) HO.out HKW.out hml)
    generalize hW : (w.drewN nq).drew = W at *
    refine wp_norm (RCrashRel b m c A pick N k W) ?_ ?_
    · go_region_law (fail)
      all_goals
        go_wp2
        exact Norm.mk (RCrashRel.mk rfl (by first | rfl | (rw [← hW]; rfl)))
    rintro a' w' ⟨x7, x8, x9, x10, x11, x12, x13, x14, x15, x16, x17, x18, x19, x20, x21, x22, x23, x24, x25, x26, x27, x28, x29, x30, x31, x32, x33, x34, x35, x36, x37, x38, x39, x40, rfl, rfl⟩
    clear hW
    go_step
    go_step
    go_wp2
    go_ret
    exact ⟨rfl, HT.out⟩
set_option maxRecDepth 100000 in
set_option maxHeartbeats 4000000 in
theorem rnew_ok (room : Int) (w : World) (h1 : 1 ≤ room) (h2 : room ≤ 1073741824) :
    Calls Tryd.prog 17 #[.int .i64 room] w fun r w' => r = .returned (.tuple #[.pointer (some ⟨w.heap.size, 0, none⟩), .int .i64 0]) ∧ w' = w.alloc (.cells #[.int .i64 room, .int .i64 0, .slice none 0 0, .int .i64 0, .int .i64 0, .bool false] 49) := by
  have hd : decide (room < 1) = false := by simp; omega
  have hd2 : decide (1073741824 < room) = false := by simp; omega
  go_enter Tryd.func17, Tryd.ntmps17
  go_wp2
  go_ret2
  exact ⟨rfl, rfl⟩
set_option maxRecDepth 100000 in
set_option maxHeartbeats 4000000 in
theorem rnew_no (room : Int) (w : World) (h : room < 1 ∨ 1073741824 < room) :
    Calls Tryd.prog 17 #[.int .i64 room] w fun r w' => r = .returned (.tuple #[.pointer none, .int .i64 1]) ∧ w' = w := by
  cases hd : decide (room < 1) <;> cases hd2 : decide (1073741824 < room)
  · exact absurd h (by have := of_decide_eq_false hd; have := of_decide_eq_false hd2; omega)
  all_goals
    go_enter Tryd.func17, Tryd.ntmps17
    go_wp2
    go_ret2
    exact ⟨rfl, rfl⟩
end Go.Proofs.YtjjlojaaefipmaaDoor
