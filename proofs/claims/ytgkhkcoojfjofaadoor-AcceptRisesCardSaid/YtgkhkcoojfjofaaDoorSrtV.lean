/- slices.SortFunc of votes. -/
import Derived.Test.YtgkhkcoojfjofaaDoorDlgV
import Derived.Shelf.SlSortCmp.WholeK
import Derived.Shelf.SlGeneric
set_option linter.unusedVariables false
set_option linter.unusedSimpArgs false
namespace Go.Proofs.YtgkhkcoojfjofaaDoor
open Go.RowKit Go.Shelf Go.Lib Go.Proofs.YtgkhkcoojfjofaaDoorW.PrintWords Go.Proofs.Mine

def sortV_ren : Go.Shelf.Ren := ⟨fun | 6 => 29 | 15 => 38 | 14 => 37 | 28 => 51 | 29 => 52 | 20 => 43 | 21 => 44 | 22 => 45 | 23 => 46 | 24 => 47 | 25 => 48 | 26 => 49 | 27 => 50 | 46 => 57 | 47 => 58 | 48 => 59 | 49 => 60 | 50 => 61 | 57 => 64 | n => n, fun | 22 => 35 | 24 => 41 | 25 => 75 | 3 => 3 | 39 => 82 | 0 => 0 | 53 => 103 | 55 => 105 | 4 => 4 | 46 => 96 | 45 => 95 | 50 => 100 | 5 => 5 | 9 => 9 | 66 => 127 | 70 => 131 | 76 => 138 | 77 => 139 | n => n, fun | n => n⟩
theorem sortV : Go.Proofs.SlLaysF0.n6 Tryd.prog sortV_ren where
  mixed := by kernel_rfl
  f6 := ⟨ "slices.SortFunc[[]synodal/accept.Vote,synodal/accept.Vote]", by decide, Tryd.func29.trans (congrArg some (by kernel_rfl))⟩
  f14 := ⟨ "slices.pdqsortCmpFunc[synodal/accept.Vote]", by decide, Tryd.func37.trans (congrArg some (by kernel_rfl))⟩
  f15 := Tryd.func38.trans (congrArg some (by kernel_rfl))
  f20 := ⟨ "slices.insertionSortCmpFunc[synodal/accept.Vote]", by decide, Tryd.func43.trans (congrArg some (by kernel_rfl))⟩
  f21 := ⟨ "slices.heapSortCmpFunc[synodal/accept.Vote]", by decide, Tryd.func44.trans (congrArg some (by kernel_rfl))⟩
  f22 := ⟨ "slices.breakPatternsCmpFunc[synodal/accept.Vote]", by decide, Tryd.func45.trans (congrArg some (by kernel_rfl))⟩
  f23 := ⟨ "slices.choosePivotCmpFunc[synodal/accept.Vote]", by decide, Tryd.func46.trans (congrArg some (by kernel_rfl))⟩
  f24 := ⟨ "slices.reverseRangeCmpFunc[synodal/accept.Vote]", by decide, Tryd.func47.trans (congrArg some (by kernel_rfl))⟩
  f25 := ⟨ "slices.partialInsertionSortCmpFunc[synodal/accept.Vote]", by decide, Tryd.func48.trans (congrArg some (by kernel_rfl))⟩
  f26 := ⟨ "slices.partitionEqualCmpFunc[synodal/accept.Vote]", by decide, Tryd.func49.trans (congrArg some (by kernel_rfl))⟩
  f27 := ⟨ "slices.partitionCmpFunc[synodal/accept.Vote]", by decide, Tryd.func50.trans (congrArg some (by kernel_rfl))⟩
  f28 := Tryd.func51.trans (congrArg some (by kernel_rfl))
  f29 := Tryd.func52.trans (congrArg some (by kernel_rfl))
  f46 := ⟨ "slices.siftDownCmpFunc[synodal/accept.Vote]", by decide, Tryd.func57.trans (congrArg some (by kernel_rfl))⟩
  f47 := Tryd.func58.trans (congrArg some (by kernel_rfl))
  f48 := Tryd.func59.trans (congrArg some (by kernel_rfl))
  f49 := ⟨ "slices.medianAdjacentCmpFunc[synodal/accept.Vote]", by decide, Tryd.func60.trans (congrArg some (by kernel_rfl))⟩
  f50 := ⟨ "slices.medianCmpFunc[synodal/accept.Vote]", by decide, Tryd.func61.trans (congrArg some (by kernel_rfl))⟩
  f57 := ⟨ "slices.order2CmpFunc[synodal/accept.Vote]", by decide, Tryd.func64.trans (congrArg some (by kernel_rfl))⟩
  t0 := Tryd.underlying0
  a0 := Tryd.isAgg0
  z0 := Tryd.sizeOf0
  v0 := Tryd.zeroValue0
  t3 := Tryd.underlying3
  a3 := Tryd.isAgg3
  z3 := Tryd.sizeOf3
  v3 := Tryd.zeroValue3
  t4 := Tryd.underlying4
  a4 := Tryd.isAgg4
  z4 := Tryd.sizeOf4
  v4 := Tryd.zeroValue4
  t5 := Tryd.underlying5
  a5 := Tryd.isAgg5
  z5 := Tryd.sizeOf5
  v5 := Tryd.zeroValue5
  t9 := Tryd.underlying9
  a9 := Tryd.isAgg9
  z9 := Tryd.sizeOf9
  v9 := Tryd.zeroValue9
  t22 := Tryd.underlying35
  a22 := Tryd.isAgg35
  z22 := Tryd.sizeOf35
  v22 := Tryd.zeroValue35
  t25 := Tryd.underlying75
  a25 := Tryd.isAgg75
  z25 := Tryd.sizeOf75
  v25 := Tryd.zeroValue75
  t39 := Tryd.underlying82
  a39 := Tryd.isAgg82
  z39 := Tryd.sizeOf82
  v39 := Tryd.zeroValue82
  t45 := Tryd.underlying95
  a45 := Tryd.isAgg95
  z45 := Tryd.sizeOf95
  v45 := Tryd.zeroValue95
  t46 := Tryd.underlying96
  a46 := Tryd.isAgg96
  z46 := Tryd.sizeOf96
  v46 := Tryd.zeroValue96
  t50 := Tryd.underlying100
  a50 := Tryd.isAgg100
  z50 := Tryd.sizeOf100
  v50 := Tryd.zeroValue100
  t53 := Tryd.underlying103
  a53 := Tryd.isAgg103
  z53 := Tryd.sizeOf103
  v53 := Tryd.zeroValue103
  t55 := Tryd.underlying105
  a55 := Tryd.isAgg105
  z55 := Tryd.sizeOf105
  v55 := Tryd.zeroValue105
  t66 := Tryd.underlying127
  a66 := Tryd.isAgg127
  z66 := Tryd.sizeOf127
  v66 := Tryd.zeroValue127
  t70 := Tryd.underlying131
  a70 := Tryd.isAgg131
  z70 := Tryd.sizeOf131
  v70 := Tryd.zeroValue131
  t76 := Tryd.underlying138
  a76 := Tryd.isAgg138
  z76 := Tryd.sizeOf138
  v76 := Tryd.zeroValue138
  t77 := Tryd.underlying139
  a77 := Tryd.isAgg139
  z77 := Tryd.sizeOf139
  v77 := Tryd.zeroValue139
instance : Inhabited Vh := ⟨vh0⟩
theorem flatK_list (d : Array Vh) : (Go.Sort.flatK Vh.cells 8 d).toList = d.toList.flatMap Vh.cells := by
  apply List.ext_getElem?
  intro t
  by_cases ht : t < d.size * 8
  · have hk : t / 8 < d.size := by omega
    have h1 : d.toList[t / 8]? = some d[t / 8] := by simp [hk]
    have h2 := flat_get (enc := Vh.cells) (n := 8) (fun _ => rfl) d.toList (t / 8) _ h1
    have h3 : ((d.toList.flatMap Vh.cells).drop (t / 8 * 8))[t % 8]? = (d[t / 8]).cells[t % 8]? := by
      rw [← h2, List.getElem?_take, if_pos (by omega)]
    rw [List.getElem?_drop, show t / 8 * 8 + t % 8 = t from by omega] at h3
    rw [h3]
    have h4 := Go.Sort.get_flatK Vh.cells 8 d t ht
    have h5 : t < (Go.Sort.flatK Vh.cells 8 d).size := by rw [Go.Sort.size_flatK]; exact ht
    rw [getElem!_pos (Go.Sort.flatK Vh.cells 8 d) t h5, getElem!_pos d (t / 8) hk] at h4
    have h6 : t % 8 < (d[t / 8]).cells.length := by show t % 8 < 8; omega
    rw [getElem!_pos (d[t / 8]).cells (t % 8) h6] at h4
    rw [List.getElem?_eq_getElem h6, ← h4]
    simp [h5]
  · rw [List.getElem?_eq_none (by simp; omega), List.getElem?_eq_none (by rw [flat_length (enc := Vh.cells) (n := 8) (fun _ => rfl)]; simp; omega)]
theorem RowV.holds {w : World} {g cap : Nat} {l : List Vh} (h : RowV w g cap l) : Go.Sort.HoldsK Vh.cells 8 w g 0 l.toArray := by
  obtain ⟨cur, h1, h2, h3, h4, h5⟩ := h
  intro j hj
  rw [Nat.zero_add]
  refine ⟨?_, blk_frozen h1 j⟩
  rw [blk_cell h1]
  have hl := flatK_list l.toArray
  rw [show l.toArray.toList = l from rfl, ← h5] at hl
  have hj2 : j < l.length * 8 := by simpa using hj
  have h6 : (Go.Sort.flatK Vh.cells 8 l.toArray).toList[j]? = (cur.toList.take (l.length * 8))[j]? := by rw [hl]
  rw [List.getElem?_take, if_pos hj2] at h6
  rw [getElem!_pos (Go.Sort.flatK Vh.cells 8 l.toArray) j hj, List.getElem?_eq_getElem (by simpa using hj2)] at *
  simp at h6
  rw [← h6]
  simp
theorem sort_world {w : World} {g cap : Nat} {l : List Vh} (h : RowV w g cap l) (d : Array Vh) (hd : d.size = l.length) (n : Nat) (os : Array Obj) : RowV (sortWorldK Vh.cells 8 w g 0 n d os) g cap d.toList ∧ Keep (fun k => k = g) w (sortWorldK Vh.cells 8 w g 0 n d os) := by
  have hlt := h.lt
  obtain ⟨cur, h1, h2, h3, h4, h5⟩ := h
  have hb : (sortWorldK Vh.cells 8 w g 0 n d os).heap = w.heap.modify g (Go.Sort.onCells (Go.Sort.putCells id 0 (Go.Sort.flatK Vh.cells 8 d))) ++ os := rfl
  refine ⟨⟨Go.Sort.putCells id 0 (Go.Sort.flatK Vh.cells 8 d) cur, ?_, by simp [hd]; exact h2, h3, by simp [Go.Sort.putCells, h4], ?_⟩, ⟨rfl, rfl, rfl, by rw [hb]; simp, fun k hk hkg => ?_⟩⟩
  · rw [hb, Array.getElem?_append_left (by simpa using hlt), Array.getElem?_modify, h1]
    simp [Go.Sort.onCells]
  · rw [← flatK_list]
    apply List.ext_getElem?
    intro t
    by_cases ht : t < d.toList.length * 8
    · have ht2 : t < d.size * 8 := by simpa using ht
      have htc : t < cur.size := by rw [h4]; omega
      rw [List.getElem?_take, if_pos ht]
      simp [Go.Sort.putCells, htc, ht2]
    · have h6 : ¬ t < d.size * 8 := by simpa using ht
      rw [List.getElem?_take, if_neg ht, List.getElem?_eq_none (by simp; omega)]
  · rw [hb, Array.getElem?_append_left (by simpa using hk), Array.getElem?_modify, if_neg (fun e => hkg e.symm)]
def cmpI (a b : Int) : Int := if a < b then -1 else if b < a then 1 else 0
def cmpS (x y : Vh) : Int := cmpI x.s y.s
theorem ltS (x y : Vh) : ltOf cmpS x y = decide (x.s < y.s) := by
  unfold ltOf cmpS cmpI
  by_cases h1 : x.s < y.s
  · simp [h1]
  · by_cases h2 : y.s < x.s <;> simp [h1, h2]
theorem swoS : Go.Sort.SWO (ltOf cmpS) where
  irrefl x := by rw [ltS]; simp
  trans x y z h1 h2 := by rw [ltS] at *; simp at *; omega
  ntrans x y z h1 h2 := by rw [ltS] at *; simp at *; omega
set_option maxRecDepth 100000 in
set_option maxHeartbeats 2000000 in
theorem nan_any (a : Int) (w : World) : Calls Tryd.prog 39 #[.int .i64 a] w fun e w' => e = .returned (.bool false) ∧ w = w' := by
  go_enter Tryd.func39, Tryd.ntmps39
  go_wp2
  go_ret
  exact ⟨rfl, rfl⟩
theorem cmp_any (a b : Int) (w : World) : Calls Tryd.prog 31 #[.int .i64 a, .int .i64 b] w fun e w' => e = .returned (.int .i64 (cmpI a b)) ∧ w = w' := by
  unfold cmpI
  by_cases h1 : a < b
  · rw [if_pos h1]
    go_enter Tryd.func31, Tryd.ntmps31
    go_wp2_with (go_at_call 39; refine (nan_any _ _).mono ?_; rintro e w' ⟨rfl, rfl⟩)
    go_ret
    exact ⟨rfl, rfl⟩
  · rw [if_neg h1]
    by_cases h2 : b < a
    · rw [if_pos h2]
      go_enter Tryd.func31, Tryd.ntmps31
      go_wp2_with (go_at_call 39; refine (nan_any _ _).mono ?_; rintro e w' ⟨rfl, rfl⟩)
      go_ret
      exact ⟨rfl, rfl⟩
    · rw [if_neg h2]
      go_enter Tryd.func31, Tryd.ntmps31
      go_wp2_with (go_at_call 39; refine (nan_any _ _).mono ?_; rintro e w' ⟨rfl, rfl⟩)
      go_ret
      exact ⟨rfl, rfl⟩
theorem by_slot (x y : Vh) (W : World) : Calls Tryd.prog 30 #[.agg #[.int .i64 x.s, .int .i64 x.b, .int .i64 x.kd, .int .i64 x.c, .int .i64 x.q, .string x.data, .slice x.A x.mem.length x.cap, .int .i64 x.dst], .agg #[.int .i64 y.s, .int .i64 y.b, .int .i64 y.kd, .int .i64 y.c, .int .i64 y.q, .string y.data, .slice y.A y.mem.length y.cap, .int .i64 y.dst]] W fun e w' => e = .returned (.int .i64 (cmpS x y)) ∧ ∃ q os', w' = Go.Sort.grow (W.drewN q) os' := by
  have hcon := fun W' => cmp_any x.s y.s W'
  unfold cmpS
  generalize cmpI x.s y.s = r at hcon ⊢
  go_enter Tryd.func30, Tryd.ntmps30
  go_wp2_with (go_at_call 31; refine (hcon _).mono ?_; rintro e w' ⟨rfl, rfl⟩)
  go_ret
  exact ⟨rfl, 0, _, by rw [Go.Sort.alloc_eq_grow, Go.Sort.alloc_eq_grow, Go.Sort.grow_grow]; rfl⟩
theorem sort_row {w : World} {g cap : Nat} {l : List Vh} (h : RowV w g cap l) (hl : l.length < 1000000) : Calls Tryd.prog 29 #[.slice (some ⟨g, 0, none⟩) l.length cap, .func (.func 30) #[] #[]] w fun e w' => e = .returned (.tuple #[]) ∧ ∃ l', l'.Perm l ∧ l'.Pairwise (fun x y => x.s ≤ y.s) ∧ RowV w' g cap l' ∧ Keep (fun k => k = g) w w' := by
  have eg : ∀ args w, (callFunc 30 args).run Tryd.prog w = .ok (.enter 30 args) w := enters_of Tryd.func30 (by kernel_rfl) rfl
  have hcon := AnyQ.slices_SortFunc sortV 8 Tryd.isAgg41 Tryd.sizeOf41 Vh.cells (fun _ => rfl) vh_one cmpS swoS 30 #[] g 0 cap l.toArray w eg (fun _ _ _ _ x y => by_slot x y _) h.holds h.lt (by simp; omega)
  change Calls Tryd.prog 29 _ _ _ at hcon
  refine hcon.mono ?_
  rintro e w' ⟨rfl, d, n, os, hp, hs, rfl⟩
  have hd : d.size = l.length := by simpa using hp.1
  obtain ⟨k1, k2⟩ := sort_world h d hd n os
  refine ⟨rfl, d.toList, ?_, ?_, k1, k2⟩
  · have hpp := hp.2.2
    simp at hpp
    rwa [List.take_of_length_le (by simp [hd])] at hpp
  · rw [List.pairwise_iff_getElem]
    intro i j hi hj hij
    have h1 := hs i j (Nat.zero_le _) hij (by simp at hj; simpa [hd] using hj)
    rw [ltS] at h1
    have hi' : i < d.size := by simpa using hi
    have hj' : j < d.size := by simpa using hj
    rw [getElem!_pos d j hj', getElem!_pos d i hi'] at h1
    simpa using h1
end Go.Proofs.YtgkhkcoojfjofaaDoor
