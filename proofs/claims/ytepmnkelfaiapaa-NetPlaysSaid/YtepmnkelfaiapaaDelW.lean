/- The walk of slices.Delete of one message. -/
import Derived.Test.YtepmnkelfaiapaaBase
import Derived.Deep.RegionLaw
set_option linter.unusedVariables false
set_option linter.unusedSimpArgs false
namespace Go.Proofs.Ytepmnkelfaiapaa
open Go.RowKit Go.Proofs.YtepmnkelfaiapaaW.PrintWords Go.Proofs.Mine

theorem Try.zero32 (w : World) : (zeroValue 32).run Try.prog w = .ok (.agg #[.int .i64 0, .int .i64 0, .int .i64 0, .int .i64 0, .int .i64 0, .int .i64 0, .int .i64 0, .int .i64 0, .bool false, .slice none 0 0, .slice none 0 0, .slice none 0 0, .slice none 0 0]) w := by kernel_rfl
theorem Try.size32 (w : World) : (sizeOf 32).run Try.prog w = .ok 13 w := by kernel_rfl
theorem Try.info32' : ∃ i, Try.prog.info? 32 = some i ∧ i.size = 13 := by
  have h : (Try.prog.info? 32).map (·.size) = some 13 := by kernel_rfl
  obtain ⟨i, h1, h2⟩ := Option.map_eq_some_iff.1 h
  exact ⟨i, h1, h2⟩
/-- A row of messages, laid open. -/
def RowM (w : World) (g cap : Nat) (l : List Pm) : Prop :=
  ∃ cur, w.heap[g]? = some (.cells cur 32 (0, 0)) ∧ l.length ≤ cap ∧ cap ≤ maxLen ∧ cur.size = cap * 13 ∧ cur.toList.take (l.length * 13) = l.flatMap Pm.cells
/-- A suffix of a row as a slice. -/
theorem cut_suffix {g cap L k : Nat} (hk : k ≤ L) (hL : L ≤ cap) (A : Addr) (hA : A = if cap = k then ⟨g, 0, none⟩ else ⟨g, k * 13, none⟩) (W : World) :
    (Instr.slice 27 (.slice (some ⟨g, 0, none⟩) L cap) (some (.int .i64 (k : Int))) none none).run Try.prog W = .ok (.slice (some A) (L - k) (cap - k)) W := by
  subst hA
  by_cases h : cap = k
  · simp [Instr.slice, run_underlying Try.underlying27, Instr.sliceBounds, Instr.sliceBound, asIntOf, Try.size32, h]
    intro; omega
  · simp [Instr.slice, run_underlying Try.underlying27, Instr.sliceBounds, Instr.sliceBound, asIntOf, Try.size32, h]
    rw [if_pos hk, add_plain]
theorem cut_prefix {cap L k : Nat} (hk : k ≤ cap) (W : World) (a : Option Addr) :
    (Instr.slice 27 (.slice a L cap) none (some (.int .i64 (k : Int))) none).run Try.prog W = .ok (.slice a k cap) W := by
  simp [Instr.slice, run_underlying Try.underlying27, Instr.sliceBounds, Instr.sliceBound, asIntOf, Try.size32]
  rw [if_pos hk]
  by_cases h : cap = 0
  · simp [h]
  · cases a <;> simp [h, Addr.add]
theorem cut_mid {g cap L i : Nat} (hi : i < L) (hL : L ≤ cap) (W : World) :
    ∃ v, (Instr.slice 27 (.slice (some ⟨g, 0, none⟩) L cap) (some (.int .i64 (i : Int))) (some (.int .i64 ((i : Int) + 1))) (some (.int .i64 (L : Int)))).run Try.prog W = .ok v W := by
  have h1 : (i : Int) + 1 ≤ L := by omega
  have h2 : (L : Int) ≤ cap := by omega
  have h3 : (0 : Int) ≤ (i : Int) + 1 := by omega
  have h4 : (((i : Int) + 1).toNat : Int) = (i : Int) + 1 := by omega
  have h5 : (i : Int) ≤ (i : Int) + 1 := by omega
  simp [Instr.slice, run_underlying Try.underlying27, Instr.sliceBounds, Instr.sliceBound, asIntOf, Try.size32, h1, h2, h3, h4, h5, hL]
theorem cut_one {g cap L p : Nat} (hp : p + 1 = L) (hL : L ≤ cap) (W : World) :
    (Instr.slice 27 (.slice (some ⟨g, 0, none⟩) p cap) (some (.int .i64 (p : Int))) (some (.int .i64 (L : Int))) none).run Try.prog W = .ok (.slice (some ⟨g, p * 13, none⟩) 1 (cap - p)) W := by
  have h1 : p ≤ L := by omega
  have h2 : L - p = 1 := by omega
  have h3 : ¬ cap = p := by omega
  simp [Instr.slice, run_underlying Try.underlying27, Instr.sliceBounds, Instr.sliceBound, asIntOf, Try.size32, h1, hL, h2, h3, add_plain]
theorem flat_one (l : List Pm) : ∀ u ∈ l.flatMap Pm.cells, u.oneCell' = true := by
  intro u hu
  obtain ⟨m, _, hm⟩ := List.mem_flatMap.1 hu
  exact msgK.K_one (w := default) (x := m) (cs := m.cells) rfl u hm
/-- What stands in a row behind the removal. -/
theorem row_cut {w : World} {g cap i : Nat} {l : List Pm} (hi : i < l.length) (hR : RowM w g cap l) :
    ∃ w1 w2, w1 = w.drew.setCells g (0 + i * 13) ((l.drop (i + 1)).flatMap Pm.cells) ∧ w2 = w1.setCells g ((l.length - 1) * 13) (Builtin.zeroCells (Value.agg #[.int .i64 0, .int .i64 0, .int .i64 0, .int .i64 0, .int .i64 0, .int .i64 0, .int .i64 0, .int .i64 0, .bool false, .slice none 0 0, .slice none 0 0, .slice none 0 0, .slice none 0 0]).cells 1).toList ∧
      (∀ j, j < cap * 13 → (w1.cell? ⟨g, j, none⟩).isSome = true ∧ w1.frozen? ⟨g, j, none⟩ = false) ∧ RowM w2 g cap (l.eraseIdx i) ∧ Keep (fun k => k = g) w w2 ∧ w2.heap.size = w.heap.size := by
  obtain ⟨cur, hh, h1, h2, h3, h4⟩ := hR
  have hfl := flat_length (enc := Pm.cells) (n := 13) (fun _ => rfl) (l.drop (i + 1))
  rw [List.length_drop] at hfl
  obtain ⟨cur1, b1, b2, b3⟩ := setCells_blk (t := 32) ((l.drop (i + 1)).flatMap Pm.cells) (0 + i * 13) w.drew cur hh (by rw [hfl, h3]; omega)
  have hzl : (Builtin.zeroCells (Value.agg #[.int .i64 0, .int .i64 0, .int .i64 0, .int .i64 0, .int .i64 0, .int .i64 0, .int .i64 0, .int .i64 0, .bool false, .slice none 0 0, .slice none 0 0, .slice none 0 0, .slice none 0 0]).cells 1).toList.length = 13 := by simp [Builtin.zeroCells, Value.cells]
  generalize (Builtin.zeroCells (Value.agg #[.int .i64 0, .int .i64 0, .int .i64 0, .int .i64 0, .int .i64 0, .int .i64 0, .int .i64 0, .int .i64 0, .bool false, .slice none 0 0, .slice none 0 0, .slice none 0 0, .slice none 0 0]).cells 1).toList = zs at *
  obtain ⟨cur2, c1, c2, c3⟩ := setCells_blk (t := 32) zs ((l.length - 1) * 13) _ cur1 b1 (by rw [hzl, b2, h3]; omega)
  refine ⟨_, _, rfl, rfl, ?_, ⟨cur2, c1, ?_, h2, by rw [c2, b2, h3], ?_⟩, ?_, ?_⟩
  · intro j hj
    exact ⟨by rw [blk_cell b1 j, Array.getElem?_eq_getElem (by rw [b2, h3]; exact hj)]; rfl, blk_frozen b1 j⟩
  · rw [List.length_eraseIdx_of_lt hi]; omega
  · have hl1 : cur1.toList.length = cap * 13 := by rw [Array.length_toList, b2, h3]
    rw [List.length_eraseIdx_of_lt hi, c3, List.append_assoc, List.take_append_of_le_length (by rw [List.length_take, hl1]; omega), List.take_take, Nat.min_self, b3, List.eraseIdx_eq_take_drop_succ, List.flatMap_append, ← flat_take (n := 13) (fun _ => rfl), ← h4, List.take_take, Nat.min_eq_left (by omega), Nat.zero_add]
    have ha : (cur.toList.take (i * 13)).length = i * 13 := by rw [List.length_take, Array.length_toList, h3]; omega
    rw [List.take_append_of_le_length (by rw [List.length_append, ha, hfl]; omega), List.take_of_length_le (by rw [List.length_append, ha, hfl]; omega)]
  · exact Keep.setCells g _ _ _ (Keep.setCells g _ _ _ ((Keep.refl _ w).drew) (.inl rfl)) (.inl rfl)
  · rw [setCells_size, setCells_size]; rfl
set_option maxHeartbeats 1000000 in
theorem delete_any (w : World) (g cap i : Nat) (l : List Pm) (hi : i < l.length) (hl : l.length ≤ 1000000) (hR : RowM w g cap l) :
    Calls Try.prog 22 #[.slice (some ⟨g, 0, none⟩) l.length cap, .int .i64 (i : Int), .int .i64 ((i : Int) + 1)] w fun e w' => e = .returned (.slice (some ⟨g, 0, none⟩) (l.length - 1) cap) ∧ RowM w' g cap (l.eraseIdx i) ∧ Keep (fun k => k = g) w w' ∧ w'.heap.size = w.heap.size := by
  obtain ⟨w1, w2, hw1, hw2, hcf, hfin⟩ := row_cut hi hR
  obtain ⟨cur, hh, h1, h2, h3, h4⟩ := hR
  obtain ⟨v, hv⟩ := cut_mid (g := g) hi h1 w
  obtain ⟨A, hA⟩ : ∃ A : Addr, A = if cap = i + 1 then ⟨g, 0, none⟩ else ⟨g, (i + 1) * 13, none⟩ := ⟨_, rfl⟩
  have hs := cut_suffix (show i + 1 ≤ l.length by omega) h1 A hA
  have hp := cut_prefix (L := l.length) (cap := cap) (k := i) (by omega) (a := some ⟨g, 0, none⟩)
  have hfl := flat_length (enc := Pm.cells) (n := 13) (fun _ => rfl) (l.drop (i + 1))
  have ho1 := flat_one (l.drop (i + 1))
  rw [List.length_drop] at hfl
  -- the cells that are moved
  have hnews : ∀ j u, ((l.drop (i + 1)).flatMap Pm.cells)[j]? = some u → w.cell? (A.add j) = some u := by
    intro j u hj
    rw [← flat_drop (n := 13) (fun _ => rfl), ← h4, List.getElem?_drop, List.getElem?_take] at hj
    split at hj
    · rename_i hlt
      have hne : ¬ cap = i + 1 := by omega
      rw [hA, if_neg hne]
      have : (⟨g, (i + 1) * 13, none⟩ : Addr).add j = ⟨g, (i + 1) * 13 + j, none⟩ := by unfold Addr.add; split <;> simp_all
      rw [this, blk_cell hh]
      simpa using hj
    · cases hj
  have hspare : ∀ j, j < ((l.drop (i + 1)).flatMap Pm.cells).length → (w.cell? ⟨g, 0 + i * 13 + j, none⟩).isSome = true ∧ w.frozen? ⟨g, 0 + i * 13 + j, none⟩ = false := by
    intro j hj
    rw [hfl] at hj
    exact ⟨by rw [blk_cell hh, Array.getElem?_eq_getElem (by rw [h3]; omega)]; rfl, blk_frozen hh _⟩
  generalize (l.drop (i + 1)).flatMap Pm.cells = news at *
  obtain ⟨m, hm⟩ : ∃ m, l.length - (i + 1) = m := ⟨_, rfl⟩
  obtain ⟨p, hpL⟩ : ∃ p, l.length - 1 = p := ⟨_, rfl⟩
  rw [hpL] at hw2
  rw [hm] at hs hfl
  have hone := cut_one (g := g) (show p + 1 = l.length by omega) h1
  have hnm : i + m = p := by omega
  rw [hpL]
  generalize hL : l.length = L at *
  have hroom : i + m ≤ cap := by omega
  simp only [Int.natCast_add, Int.natCast_one] at hs
  have hclr : (Builtin.clear_ #[27] 0 #[.slice (some ⟨g, p * 13, none⟩) 1 (cap - p)]).run Try.prog w1 = .ok (.tuple #[]) w2 := by
    rw [hw2]
    exact run_clear_cells w1 27 32 0 _ Try.underlying27 Try.zero32 (by intro u hu; exact msgK.K_one (w := default) (x := ⟨0, 0, 0, 0⟩) rfl u (by simpa [Value.cells, Pm.cells] using hu)) (by simp [Value.cells]) ⟨g, p * 13, none⟩ g (p * 13) 1 (cap - p) (fun _ => rfl)
      (fun j hj => (hcf (p * 13 + j) (by simp [Value.cells] at hj; omega)).1) (fun j hj => (hcf (p * 13 + j) (by simp [Value.cells] at hj; omega)).2)
  have HFIN := Lib.hid hfin
  have HS := Lib.hid hspare
  have HNW := Lib.hid hnews
  have HO := Lib.hid ho1
  have HW1 := Lib.hid hw1
  have HW2 := Lib.hid hw2
  have HFL := Lib.hid hfl
  have HNM := Lib.hid hnm
  clear h4 hh hcf hfin hspare hnews ho1 hA hw1 hw2 hm hpL hL h3 hfl hnm
  obtain ⟨inf, hinf, hisz⟩ := Try.info32'
  go_enter Try.func22, Try.ntmps22
  go_wp2_with fail
  go_region_law (refine step_append_room rfl _ _ 27 rfl 32 _ 13 Try.underlying27 hinf hisz g 0 i cap rfl A m (cap - (i + 1)) news rfl HFL.out HNW.out HO.out hroom HS.out ?_; rw [HNM.out, ← HW1.out])
  go_wp2
  go_ret
  exact ⟨rfl, HFIN.out⟩
end Go.Proofs.Ytepmnkelfaiapaa
