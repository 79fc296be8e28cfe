/- Good. -/
import Derived.Test.YtkdlghbfplhkpaaDoorGodA
import Derived.Test.YtkdlghbfplhkpaaDoorRdF
import Derived.Deep.RegionHeld3
set_option linter.unusedVariables false
set_option linter.unusedSimpArgs false
namespace Go.Proofs.YtkdlghbfplhkpaaDoor
open Go.RowKit Go.Proofs.YtkdlghbfplhkpaaDoorW.PrintWords Go.Proofs.Mine

/-- An entry as it lies. -/
structure Eh where
  kd : Int
  c : Int
  q : Int
  data : ByteArray
  A : Option Addr
  cap : Nat
  mem : List Int
  dst : Int
def Eh.e (x : Eh) : Ent := ⟨x.kd, x.c, x.q, x.data, x.mem, x.dst⟩
def Eh.cells (x : Eh) : List Value := [.int .i64 x.kd, .int .i64 x.c, .int .i64 x.q, .string x.data, .slice x.A x.mem.length x.cap, .int .i64 x.dst]
theorem entE_zero {x : Ent} (h1 : 0 ≤ x.kd ∧ x.kd ≤ 4) (h2 : x.data.size ≤ 16) (h3 : x.mem.length ≤ 9) (h4 : 0 ≤ x.dst ∧ x.dst ≤ 2) : entE x = 0 := by
  unfold entE kindsE textE manyE
  rw [if_neg (by omega), if_neg (by omega), if_neg (by omega), if_neg (by omega)]
  rfl
/-- What Good tells. -/
def GoodR (A : Option Addr) (mem : List Int) (r : Ending) : Prop := ∃ x : Eh, r = .returned (.agg #[.int .i64 x.kd, .int .i64 x.c, .int .i64 x.q, .string x.data, .slice x.A x.mem.length x.cap, .int .i64 x.dst]) ∧ entE x.e = 0 ∧ x.data.size ≤ 16 ∧ x.mem.length ≤ 9 ∧ x.mem.length ≤ x.cap ∧ ∀ W, ReadsInt W .i64 A mem.length mem → ReadsInt W .i64 x.A x.mem.length x.mem
set_option maxRecDepth 100000 in
set_option maxHeartbeats 4000000 in
theorem good_lit (kd c q dst : Int) (data : ByteArray) (mem : List Int) (A : Option Addr) (cap : Nat) (w : World) (hr : ReadsInt w .i64 A mem.length mem) (hc : mem.length ≤ cap) :
    Calls Tryd.prog 14 #[.agg #[.int .i64 kd, .int .i64 c, .int .i64 q, .string data, .slice A mem.length cap, .int .i64 dst]] w fun r w' => GoodR A mem r ∧ Below w.heap.size w w' := by
  have HR := Lib.hid hr
  have HCap := Lib.hid hc
  clear hr hc
  obtain ⟨W1, hW⟩ : ∃ W1, W1 = (w.alloc (.cells #[.int .i64 kd, .int .i64 c, .int .i64 q, .string data, .slice A mem.length cap, .int .i64 dst] 27 (0, 0))).alloc (.cells #[.int .i64 0, .int .i64 0, .int .i64 0, .string ⟨#[]⟩, .slice none 0 0, .int .i64 0] 27 (0, 0)) := ⟨_, rfl⟩
  obtain ⟨g1, hg1⟩ : ∃ g, g = w.heap.size := ⟨_, rfl⟩
  obtain ⟨g2, hg2⟩ : ∃ g, g = w.heap.size + 1 := ⟨_, rfl⟩
  have hB1 : Below w.heap.size w W1 := by rw [hW]; exact ((Below.refl _ w).alloc (Nat.le_refl _) _).alloc (by simp) _
  have hb1 : W1.heap[g1]? = some (.cells #[.int .i64 kd, .int .i64 c, .int .i64 q, .string data, .slice A mem.length cap, .int .i64 dst] 27 (0, 0)) := by rw [hW, hg1]; exact blk_alloc (heap_alloc_new w _) _
  have hb2 : W1.heap[g2]? = some (.cells zeroEnt 27 (0, 0)) := by rw [hW, hg2]; exact (by rw [show w.heap.size + 1 = (w.alloc (.cells #[.int .i64 kd, .int .i64 c, .int .i64 q, .string data, .slice A mem.length cap, .int .i64 dst] 27 (0, 0))).heap.size from by simp]; exact heap_alloc_new _ _)
  have HB1 := Lib.hid hB1
  have Hb1 := Lib.hid hb1
  have Hb2 := Lib.hid hb2
  have HG1 := Lib.hid hg1
  have HG2 := Lib.hid hg2
  have HW := Lib.hid hW
  have h12 : g1 ≠ g2 := by omega
  clear hB1 hb1 hb2 hg1 hg2 hW
  go_enter Tryd.func14, Tryd.ntmps14
  go_wp2_with fail
  rw [← HW.out, ← HG2.out, ← HG1.out]
  have q0 := blk_cell Hb1.out 0
  have q1 := blk_cell Hb1.out 1
  have q2 := blk_cell Hb1.out 2
  have q3 := blk_cell Hb1.out 3
  have q4 := blk_cell Hb1.out 4
  have q5 := blk_cell Hb1.out 5
  have f0 := fun j => blk_frozen Hb1.out j
  obtain ⟨k5, hk5⟩ : ∃ k, k = kd % 5 := ⟨_, rfl⟩
  obtain ⟨d3, hd3⟩ : ∃ k, k = dst % 3 := ⟨_, rfl⟩
  have HK5 := Lib.hid hk5
  have HD3 := Lib.hid hd3
  clear hk5 hd3
  refine wp_region_noPanic ?_
  refine wp_region_held_drew (S := (fun _ => True)) (by kernel_rfl) trivial (fun hHeld => ?_)
  refine wpAnyH_take (i := 0) (v := ?vg1) (by simp only [List.getElem?_toArray, List.getElem?_cons_zero, List.getElem?_cons_succ]; rfl) (by kernel_rfl) (by kernel_rfl) (by kernel_rfl) (fun _ _ _ h => h) (Or.inl ⟨by rfl, ?hg1⟩) hHeld ?qg1
  case hg1 => (intro w hSw; (try dsimp only at hSw); go_simp <;> with_reducible rfl)
  try simp only [Act.put, List.setIfInBounds_toArray, List.set_cons_zero, List.set_cons_succ]
  refine wpAnyH_take (i := 3) (v := ?vg2) (by simp only [List.getElem?_toArray, List.getElem?_cons_zero, List.getElem?_cons_succ]; rfl) (by kernel_rfl) (by kernel_rfl) (by kernel_rfl) (fun _ _ _ h => h) (Or.inl ⟨by rfl, ?hg2⟩) hHeld ?qg2
  case hg2 => (intro w hSw; (try dsimp only at hSw); go_simp <;> with_reducible rfl)
  try simp only [Act.put, List.setIfInBounds_toArray, List.set_cons_zero, List.set_cons_succ]
  refine wpAnyH_ready (rs := [1, 4]) (by kernel_rfl) (by simp) ?_
  refine AllReadyH.cons (by simp only [List.getElem?_toArray, List.getElem?_cons_zero, List.getElem?_cons_succ]; rfl) (fun K hK => ?g3a) (AllReadyH.cons (by simp only [List.getElem?_toArray, List.getElem?_cons_zero, List.getElem?_cons_succ]; rfl) (fun K hK => ?g3b) AllReadyH.nil)
  case' g3a =>
    go_simp
    refine hK.out _ _ trivial (fun hHeld => ?_)
    clear hK K
    try simp only [Act.put, List.setIfInBounds_toArray, List.set_cons_zero, List.set_cons_succ]
    refine wpAnyH_ready (rs := [2, 4]) (by kernel_rfl) (by simp) ?_
    refine AllReadyH.cons (by simp only [List.getElem?_toArray, List.getElem?_cons_zero, List.getElem?_cons_succ]; rfl) (fun K hK => ?g4a) (AllReadyH.cons (by simp only [List.getElem?_toArray, List.getElem?_cons_zero, List.getElem?_cons_succ]; rfl) (fun K hK => ?g4b) AllReadyH.nil)
    case' g4a =>
      go_simp
      go_at_call 7
      refine (within_any kd 5 _ (by decide) (by decide)).mono ?_
      rintro r w2 ⟨rfl, rfl⟩
      rw [← HK5.out]
      refine hK.out _ _ trivial (fun hHeld => ?_)
      clear hK K
      try simp only [Act.put, List.setIfInBounds_toArray, List.set_cons_zero, List.set_cons_succ]
      refine wpAnyH_ready (rs := [4]) (by kernel_rfl) (by simp) ?_
      refine AllReadyH.cons (by simp only [List.getElem?_toArray, List.getElem?_cons_zero, List.getElem?_cons_succ]; rfl) (fun K hK => ?_) AllReadyH.nil
      go_simp
      refine hK.out _ _ trivial (fun hHeld => ?_)
      clear hK K
      try simp only [Act.put, List.setIfInBounds_toArray, List.set_cons_zero, List.set_cons_succ]
      refine wpAnyH_take (i := 6) (v := ?vg6) (by simp only [List.getElem?_toArray, List.getElem?_cons_zero, List.getElem?_cons_succ]; rfl) (by kernel_rfl) (by kernel_rfl) (by kernel_rfl) (fun _ _ _ h => h) (Or.inl ⟨by rfl, ?hg6⟩) hHeld ?qg6
      case hg6 => (intro w hSw; (try dsimp only at hSw); go_simp <;> with_reducible rfl)
      try simp only [Act.put, List.setIfInBounds_toArray, List.set_cons_zero, List.set_cons_succ]
      refine wpAnyH_ready (rs := [5]) (by kernel_rfl) (by simp) ?_
      refine AllReadyH.cons (by simp only [List.getElem?_toArray, List.getElem?_cons_zero, List.getElem?_cons_succ]; rfl) (fun K hK => ?_) AllReadyH.nil
      go_simp
      go_at_call 7
      refine (within_any dst 3 _ (by decide) (by decide)).mono ?_
      rintro r w2 ⟨rfl, rfl⟩
      rw [← HD3.out]
      refine hK.out _ _ trivial (fun hHeld => ?_)
      clear hK K
      try simp only [Act.put, List.setIfInBounds_toArray, List.set_cons_zero, List.set_cons_succ]
      refine wpAnyH_ready (rs := [7]) (by kernel_rfl) (by simp) ?_
      refine AllReadyH.cons (by simp only [List.getElem?_toArray, List.getElem?_cons_zero, List.getElem?_cons_succ]; rfl) (fun K hK => ?_) AllReadyH.nil
      go_simp
      refine hK.out _ _ trivial (fun hHeld => ?_)
      clear hK K
      try simp only [Act.put, List.setIfInBounds_toArray, List.set_cons_zero, List.set_cons_succ]
      refine wpAnyH_take (i := 8) (v := ?vg9) (by simp only [List.getElem?_toArray, List.getElem?_cons_zero, List.getElem?_cons_succ]; rfl) (by kernel_rfl) (by kernel_rfl) (by kernel_rfl) (fun _ _ _ h => h) (Or.inl ⟨by rfl, ?hg9⟩) hHeld ?qg9
      case hg9 => (intro w hSw; (try dsimp only at hSw); go_simp <;> with_reducible rfl)
      try simp only [Act.put, List.setIfInBounds_toArray, List.set_cons_zero, List.set_cons_succ]
      refine wpAnyH_ready (rs := [9]) (by kernel_rfl) (by simp) ?_
      refine AllReadyH.cons (by simp only [List.getElem?_toArray, List.getElem?_cons_zero, List.getElem?_cons_succ]; rfl) (fun K hK => ?_) AllReadyH.nil
      go_simp
      refine hK.out _ _ trivial (fun hHeld => ?_)
      clear hK K
      try simp only [Act.put, List.setIfInBounds_toArray, List.set_cons_zero, List.set_cons_succ]
      refine wpAnyH_done (by kernel_rfl) ?_ _
      refine NoPanic.normal ?_
    case' g4b =>
      go_simp
      refine hK.out _ _ trivial (fun hHeld => ?_)
      clear hK K
      try simp only [Act.put, List.setIfInBounds_toArray, List.set_cons_zero, List.set_cons_succ]
      refine wpAnyH_ready (rs := [2]) (by kernel_rfl) (by simp) ?_
      refine AllReadyH.cons (by simp only [List.getElem?_toArray, List.getElem?_cons_zero, List.getElem?_cons_succ]; rfl) (fun K hK => ?_) AllReadyH.nil
      go_simp
      go_at_call 7
      refine (within_any kd 5 _ (by decide) (by decide)).mono ?_
      rintro r w2 ⟨rfl, rfl⟩
      rw [← HK5.out]
      refine hK.out _ _ trivial (fun hHeld => ?_)
      clear hK K
      try simp only [Act.put, List.setIfInBounds_toArray, List.set_cons_zero, List.set_cons_succ]
      refine wpAnyH_take (i := 6) (v := ?vg12) (by simp only [List.getElem?_toArray, List.getElem?_cons_zero, List.getElem?_cons_succ]; rfl) (by kernel_rfl) (by kernel_rfl) (by kernel_rfl) (fun _ _ _ h => h) (Or.inl ⟨by rfl, ?hg12⟩) hHeld ?qg12
      case hg12 => (intro w hSw; (try dsimp only at hSw); go_simp <;> with_reducible rfl)
      try simp only [Act.put, List.setIfInBounds_toArray, List.set_cons_zero, List.set_cons_succ]
      refine wpAnyH_ready (rs := [5]) (by kernel_rfl) (by simp) ?_
      refine AllReadyH.cons (by simp only [List.getElem?_toArray, List.getElem?_cons_zero, List.getElem?_cons_succ]; rfl) (fun K hK => ?_) AllReadyH.nil
      go_simp
      go_at_call 7
      refine (within_any dst 3 _ (by decide) (by decide)).mono ?_
      rintro r w2 ⟨rfl, rfl⟩
      rw [← HD3.out]
      refine hK.out _ _ trivial (fun hHeld => ?_)
      clear hK K
      try simp only [Act.put, List.setIfInBounds_toArray, List.set_cons_zero, List.set_cons_succ]
      refine wpAnyH_ready (rs := [7]) (by kernel_rfl) (by simp) ?_
      refine AllReadyH.cons (by simp only [List.getElem?_toArray, List.getElem?_cons_zero, List.getElem?_cons_succ]; rfl) (fun K hK => ?_) AllReadyH.nil
      go_simp
      refine hK.out _ _ trivial (fun hHeld => ?_)
      clear hK K
      try simp only [Act.put, List.setIfInBounds_toArray, List.set_cons_zero, List.set_cons_succ]
      refine wpAnyH_take (i := 8) (v := ?vg15) (by simp only [List.getElem?_toArray, List.getElem?_cons_zero, List.getElem?_cons_succ]; rfl) (by kernel_rfl) (by kernel_rfl) (by kernel_rfl) (fun _ _ _ h => h) (Or.inl ⟨by rfl, ?hg15⟩) hHeld ?qg15
      case hg15 => (intro w hSw; (try dsimp only at hSw); go_simp <;> with_reducible rfl)
      try simp only [Act.put, List.setIfInBounds_toArray, List.set_cons_zero, List.set_cons_succ]
      refine wpAnyH_ready (rs := [9]) (by kernel_rfl) (by simp) ?_
      refine AllReadyH.cons (by simp only [List.getElem?_toArray, List.getElem?_cons_zero, List.getElem?_cons_succ]; rfl) (fun K hK => ?_) AllReadyH.nil
      go_simp
      refine hK.out _ _ trivial (fun hHeld => ?_)
      clear hK K
      try simp only [Act.put, List.setIfInBounds_toArray, List.set_cons_zero, List.set_cons_succ]
      refine wpAnyH_done (by kernel_rfl) ?_ _
      refine NoPanic.normal ?_
  case' g3b =>
    go_simp
    refine hK.out _ _ trivial (fun hHeld => ?_)
    clear hK K
    try simp only [Act.put, List.setIfInBounds_toArray, List.set_cons_zero, List.set_cons_succ]
    refine wpAnyH_ready (rs := [1]) (by kernel_rfl) (by simp) ?_
    refine AllReadyH.cons (by simp only [List.getElem?_toArray, List.getElem?_cons_zero, List.getElem?_cons_succ]; rfl) (fun K hK => ?_) AllReadyH.nil
    go_simp
    refine hK.out _ _ trivial (fun hHeld => ?_)
    clear hK K
    try simp only [Act.put, List.setIfInBounds_toArray, List.set_cons_zero, List.set_cons_succ]
    refine wpAnyH_ready (rs := [2]) (by kernel_rfl) (by simp) ?_
    refine AllReadyH.cons (by simp only [List.getElem?_toArray, List.getElem?_cons_zero, List.getElem?_cons_succ]; rfl) (fun K hK => ?_) AllReadyH.nil
    go_simp
    go_at_call 7
    refine (within_any kd 5 _ (by decide) (by decide)).mono ?_
    rintro r w2 ⟨rfl, rfl⟩
    rw [← HK5.out]
    refine hK.out _ _ trivial (fun hHeld => ?_)
    clear hK K
    try simp only [Act.put, List.setIfInBounds_toArray, List.set_cons_zero, List.set_cons_succ]
    refine wpAnyH_take (i := 6) (v := ?vg19) (by simp only [List.getElem?_toArray, List.getElem?_cons_zero, List.getElem?_cons_succ]; rfl) (by kernel_rfl) (by kernel_rfl) (by kernel_rfl) (fun _ _ _ h => h) (Or.inl ⟨by rfl, ?hg19⟩) hHeld ?qg19
    case hg19 => (intro w hSw; (try dsimp only at hSw); go_simp <;> with_reducible rfl)
    try simp only [Act.put, List.setIfInBounds_toArray, List.set_cons_zero, List.set_cons_succ]
    refine wpAnyH_ready (rs := [5]) (by kernel_rfl) (by simp) ?_
    refine AllReadyH.cons (by simp only [List.getElem?_toArray, List.getElem?_cons_zero, List.getElem?_cons_succ]; rfl) (fun K hK => ?_) AllReadyH.nil
    go_simp
    go_at_call 7
    refine (within_any dst 3 _ (by decide) (by decide)).mono ?_
    rintro r w2 ⟨rfl, rfl⟩
    rw [← HD3.out]
    refine hK.out _ _ trivial (fun hHeld => ?_)
    clear hK K
    try simp only [Act.put, List.setIfInBounds_toArray, List.set_cons_zero, List.set_cons_succ]
    refine wpAnyH_ready (rs := [7]) (by kernel_rfl) (by simp) ?_
    refine AllReadyH.cons (by simp only [List.getElem?_toArray, List.getElem?_cons_zero, List.getElem?_cons_succ]; rfl) (fun K hK => ?_) AllReadyH.nil
    go_simp
    refine hK.out _ _ trivial (fun hHeld => ?_)
    clear hK K
    try simp only [Act.put, List.setIfInBounds_toArray, List.set_cons_zero, List.set_cons_succ]
    refine wpAnyH_take (i := 8) (v := ?vg22) (by simp only [List.getElem?_toArray, List.getElem?_cons_zero, List.getElem?_cons_succ]; rfl) (by kernel_rfl) (by kernel_rfl) (by kernel_rfl) (fun _ _ _ h => h) (Or.inl ⟨by rfl, ?hg22⟩) hHeld ?qg22
    case hg22 => (intro w hSw; (try dsimp only at hSw); go_simp <;> with_reducible rfl)
    try simp only [Act.put, List.setIfInBounds_toArray, List.set_cons_zero, List.set_cons_succ]
    refine wpAnyH_ready (rs := [9]) (by kernel_rfl) (by simp) ?_
    refine AllReadyH.cons (by simp only [List.getElem?_toArray, List.getElem?_cons_zero, List.getElem?_cons_succ]; rfl) (fun K hK => ?_) AllReadyH.nil
    go_simp
    refine hK.out _ _ trivial (fun hHeld => ?_)
    clear hK K
    try simp only [Act.put, List.setIfInBounds_toArray, List.set_cons_zero, List.set_cons_succ]
    refine wpAnyH_done (by kernel_rfl) ?_ _
    refine NoPanic.normal ?_
  all_goals
    generalize hW2 : ((W1.setCell ⟨g1, 0, none⟩ (.int .i64 k5)).setCell ⟨g1, 5, none⟩ (.int .i64 d3)).drew = W2
    have hb12 : W2.heap[g1]? = some (.cells #[.int .i64 k5, .int .i64 c, .int .i64 q, .string data, .slice A mem.length cap, .int .i64 d3] 27 (0, 0)) := by rw [← hW2]; exact blk_set (blk_set Hb1.out 0 (.int .i64 k5)) 5 (.int .i64 d3)
    have hk12 : Keep (fun k => k = g1) W1 W2 := by rw [← hW2]; exact (((Keep.refl (fun k => k = g1) W1).setCell ⟨g1, 0, none⟩ _ (.inl rfl)).setCell ⟨g1, 5, none⟩ _ (.inl rfl)).drew
    have hb22 := hk12.blk Hb2.out (fun e => h12 e.symm)
    have hB2 : Below w.heap.size w W2 := HB1.out.trans (hk12.to_below HB1.out.size (fun k hk => by have e : k = g1 := hk; rw [e, HG1.out]; exact Nat.le_refl _))
    clear q0 q1 q2 q3 q4 q5 f0 hW2 hk12
    have HB2 := Lib.hid hB2
    have Hb12 := Lib.hid hb12
    have Hb22 := Lib.hid hb22
    have q0 := blk_cell hb12 0
    have q1 := blk_cell hb12 1
    have q2 := blk_cell hb12 2
    have q3 := blk_cell hb12 3
    have q4 := blk_cell hb12 4
    have q5 := blk_cell hb12 5
    have f0 := fun j => blk_frozen hb12 j
    have r0 := blk_cell hb22 0
    have r1 := blk_cell hb22 1
    have r2 := blk_cell hb22 2
    have r3 := blk_cell hb22 3
    have r4 := blk_cell hb22 4
    have r5 := blk_cell hb22 5
    have g0 := fun j => blk_frozen hb22 j
    have h21 : g2 ≠ g1 := fun e => h12 e.symm
    have HK : RowKit.Hid (0 ≤ k5 ∧ k5 ≤ 4) := Lib.hid (by have := HK5.out; omega)
    have HD : RowKit.Hid (0 ≤ d3 ∧ d3 ≤ 2) := Lib.hid (by have := HD3.out; omega)
    clear hB2 hb12 hb22
    by_cases a1 : (16 : Int) < (data.size : Int)
    · by_cases a2 : (9 : Int) < (mem.length : Int)
      · obtain ⟨d16, hd16⟩ : ∃ d, d = data.extract 0 16 := ⟨_, rfl⟩
        have hcs : ∀ W, (Instr.slice 9 (.string data) none (some (.int .i64 16)) none).run Tryd.prog W = .ok (.string d16) W := fun W => by rw [hd16]; exact cut_s data 16 (by omega) W
        have HSZ := Lib.hid (show d16.size = 16 from by rw [hd16, ByteArray.size_extract]; omega)
        clear hd16
        have hci : ∀ W, (Instr.slice 25 (.slice A mem.length cap) none (some (.int .i64 9)) none).run Tryd.prog W = .ok (.slice A 9 cap) W := fun W => cut_i A mem.length cap 9 (by have := HCap.out; omega) W
        go_wp2_with fail
        clear q0 q1 q2 q3 q4 q5 f0 r0 r1 r2 r3 r4 r5 g0
        have hkg : Keep (fun k => k = g1) W2 ((W2.setCell ⟨g1, 3, none⟩ (.string d16)).setCell ⟨g1, 4, none⟩ (.slice A 9 cap)) := (((Keep.refl (fun k => k = g1) W2).setCell ⟨g1, 3, none⟩ _ (.inl rfl)).setCell ⟨g1, 4, none⟩ _ (.inl rfl))
        have hbg2 := hkg.blk Hb22.out (fun e => h21 e)
        have hf : ((((((((W2.setCell ⟨g1, 3, none⟩ (.string d16)).setCell ⟨g1, 4, none⟩ (.slice A 9 cap)).setCell ⟨g2, 0, none⟩ (.int .i64 k5)).setCell ⟨g2, 1, none⟩ (.int .i64 c)).setCell ⟨g2, 2, none⟩ (.int .i64 q)).setCell ⟨g2, 3, none⟩ (.string d16)).setCell ⟨g2, 4, none⟩ (.slice A 9 cap)).setCell ⟨g2, 5, none⟩ (.int .i64 d3)) = ((W2.setCell ⟨g1, 3, none⟩ (.string d16)).setCell ⟨g1, 4, none⟩ (.slice A 9 cap)).setCells g2 0 [.int .i64 k5, .int .i64 c, .int .i64 q, .string d16, .slice A 9 cap, .int .i64 d3] := rfl
        rw [hf]
        clear hf
        have hkr := Keep.setCells (F := fun k => k = g2) g2 [.int .i64 k5, .int .i64 c, .int .i64 q, .string d16, .slice A 9 cap, .int .i64 d3] 0 _ (Keep.refl (fun k => k = g2) ((W2.setCell ⟨g1, 3, none⟩ (.string d16)).setCell ⟨g1, 4, none⟩ (.slice A 9 cap))) (.inl rfl)
        obtain ⟨cur, hc1, hc2, hc3⟩ := setCells_blk [.int .i64 k5, .int .i64 c, .int .i64 q, .string d16, .slice A 9 cap, .int .i64 d3] 0 ((W2.setCell ⟨g1, 3, none⟩ (.string d16)).setCell ⟨g1, 4, none⟩ (.slice A 9 cap)) zeroEnt hbg2 (Nat.le_refl 6)
        have hcur : cur = #[.int .i64 k5, .int .i64 c, .int .i64 q, .string d16, .slice A 9 cap, .int .i64 d3] := by
          apply Array.toList_inj.1
          rw [hc3]
          rfl
        subst hcur
        generalize ((W2.setCell ⟨g1, 3, none⟩ (.string d16)).setCell ⟨g1, 4, none⟩ (.slice A 9 cap)).setCells g2 0 [.int .i64 k5, .int .i64 c, .int .i64 q, .string d16, .slice A 9 cap, .int .i64 d3] = W7 at *
        have r0 := blk_cell hc1 0
        have r1 := blk_cell hc1 1
        have r2 := blk_cell hc1 2
        have r3 := blk_cell hc1 3
        have r4 := blk_cell hc1 4
        have r5 := blk_cell hc1 5
        simp only [List.getElem?_toArray, List.getElem?_cons_zero, List.getElem?_cons_succ] at r0 r1 r2 r3 r4 r5
        have hB7 := (HB2.out.trans (hkg.to_below HB2.out.size (fun k hk => by have e : k = g1 := hk; rw [e, HG1.out]; exact Nat.le_refl _)))
        have hB8 := hB7.trans (hkr.to_below hB7.size (fun k hk => by have e : k = g2 := hk; rw [e, HG2.out]; omega))
        have hl9 : (mem.take 9).length = 9 := by rw [List.length_take]; omega
        have hs16 : d16.size ≤ 16 := by have := HSZ.out; omega
        have hm9 : (mem.take 9).length ≤ 9 := by omega
        refine bodyPost_ret (v := .agg #[.int .i64 k5, .int .i64 c, .int .i64 q, .string d16, .slice A 9 cap, .int .i64 d3]) (by simp [results, Tryd.results14, go_sem, r0, r1, r2, r3, r4, r5]) rfl ⟨⟨⟨k5, c, q, d16, A, cap, mem.take 9, d3⟩, (by show Ending.returned _ = Ending.returned (.agg #[.int .i64 k5, .int .i64 c, .int .i64 q, .string d16, .slice A (mem.take 9).length cap, .int .i64 d3]); rw [hl9]), entE_zero HK.out hs16 hm9 HD.out, hs16, hm9, by have := HCap.out; show (mem.take 9).length ≤ cap; omega, fun W h => by show ReadsInt W .i64 A (mem.take 9).length (mem.take 9); rw [hl9]; exact takeI h 9 (by omega)⟩, hB8⟩
      · obtain ⟨d16, hd16⟩ : ∃ d, d = data.extract 0 16 := ⟨_, rfl⟩
        have hcs : ∀ W, (Instr.slice 9 (.string data) none (some (.int .i64 16)) none).run Tryd.prog W = .ok (.string d16) W := fun W => by rw [hd16]; exact cut_s data 16 (by omega) W
        have HSZ := Lib.hid (show d16.size = 16 from by rw [hd16, ByteArray.size_extract]; omega)
        clear hd16
        go_wp2_with fail
        clear q0 q1 q2 q3 q4 q5 f0 r0 r1 r2 r3 r4 r5 g0
        have hkg : Keep (fun k => k = g1) W2 (W2.setCell ⟨g1, 3, none⟩ (.string d16)) := ((Keep.refl (fun k => k = g1) W2).setCell ⟨g1, 3, none⟩ _ (.inl rfl))
        have hbg2 := hkg.blk Hb22.out (fun e => h21 e)
        have hf : (((((((W2.setCell ⟨g1, 3, none⟩ (.string d16)).setCell ⟨g2, 0, none⟩ (.int .i64 k5)).setCell ⟨g2, 1, none⟩ (.int .i64 c)).setCell ⟨g2, 2, none⟩ (.int .i64 q)).setCell ⟨g2, 3, none⟩ (.string d16)).setCell ⟨g2, 4, none⟩ (.slice A mem.length cap)).setCell ⟨g2, 5, none⟩ (.int .i64 d3)) = (W2.setCell ⟨g1, 3, none⟩ (.string d16)).setCells g2 0 [.int .i64 k5, .int .i64 c, .int .i64 q, .string d16, .slice A mem.length cap, .int .i64 d3] := rfl
        rw [hf]
        clear hf
        have hkr := Keep.setCells (F := fun k => k = g2) g2 [.int .i64 k5, .int .i64 c, .int .i64 q, .string d16, .slice A mem.length cap, .int .i64 d3] 0 _ (Keep.refl (fun k => k = g2) (W2.setCell ⟨g1, 3, none⟩ (.string d16))) (.inl rfl)
        obtain ⟨cur, hc1, hc2, hc3⟩ := setCells_blk [.int .i64 k5, .int .i64 c, .int .i64 q, .string d16, .slice A mem.length cap, .int .i64 d3] 0 (W2.setCell ⟨g1, 3, none⟩ (.string d16)) zeroEnt hbg2 (Nat.le_refl 6)
        have hcur : cur = #[.int .i64 k5, .int .i64 c, .int .i64 q, .string d16, .slice A mem.length cap, .int .i64 d3] := by
          apply Array.toList_inj.1
          rw [hc3]
          rfl
        subst hcur
        generalize (W2.setCell ⟨g1, 3, none⟩ (.string d16)).setCells g2 0 [.int .i64 k5, .int .i64 c, .int .i64 q, .string d16, .slice A mem.length cap, .int .i64 d3] = W7 at *
        have r0 := blk_cell hc1 0
        have r1 := blk_cell hc1 1
        have r2 := blk_cell hc1 2
        have r3 := blk_cell hc1 3
        have r4 := blk_cell hc1 4
        have r5 := blk_cell hc1 5
        simp only [List.getElem?_toArray, List.getElem?_cons_zero, List.getElem?_cons_succ] at r0 r1 r2 r3 r4 r5
        have hB7 := (HB2.out.trans (hkg.to_below HB2.out.size (fun k hk => by have e : k = g1 := hk; rw [e, HG1.out]; exact Nat.le_refl _)))
        have hB8 := hB7.trans (hkr.to_below hB7.size (fun k hk => by have e : k = g2 := hk; rw [e, HG2.out]; omega))
        have hs16 : d16.size ≤ 16 := by have := HSZ.out; omega
        have hm9 : (mem).length ≤ 9 := by omega
        refine bodyPost_ret (v := .agg #[.int .i64 k5, .int .i64 c, .int .i64 q, .string d16, .slice A mem.length cap, .int .i64 d3]) (by simp [results, Tryd.results14, go_sem, r0, r1, r2, r3, r4, r5]) rfl ⟨⟨⟨k5, c, q, d16, A, cap, mem, d3⟩, rfl, entE_zero HK.out hs16 hm9 HD.out, hs16, hm9, HCap.out, fun _ h => h⟩, hB8⟩
    · by_cases a2 : (9 : Int) < (mem.length : Int)
      · have hci : ∀ W, (Instr.slice 25 (.slice A mem.length cap) none (some (.int .i64 9)) none).run Tryd.prog W = .ok (.slice A 9 cap) W := fun W => cut_i A mem.length cap 9 (by have := HCap.out; omega) W
        go_wp2_with fail
        clear q0 q1 q2 q3 q4 q5 f0 r0 r1 r2 r3 r4 r5 g0
        have hkg : Keep (fun k => k = g1) W2 (W2.setCell ⟨g1, 4, none⟩ (.slice A 9 cap)) := ((Keep.refl (fun k => k = g1) W2).setCell ⟨g1, 4, none⟩ _ (.inl rfl))
        have hbg2 := hkg.blk Hb22.out (fun e => h21 e)
        have hf : (((((((W2.setCell ⟨g1, 4, none⟩ (.slice A 9 cap)).setCell ⟨g2, 0, none⟩ (.int .i64 k5)).setCell ⟨g2, 1, none⟩ (.int .i64 c)).setCell ⟨g2, 2, none⟩ (.int .i64 q)).setCell ⟨g2, 3, none⟩ (.string data)).setCell ⟨g2, 4, none⟩ (.slice A 9 cap)).setCell ⟨g2, 5, none⟩ (.int .i64 d3)) = (W2.setCell ⟨g1, 4, none⟩ (.slice A 9 cap)).setCells g2 0 [.int .i64 k5, .int .i64 c, .int .i64 q, .string data, .slice A 9 cap, .int .i64 d3] := rfl
        rw [hf]
        clear hf
        have hkr := Keep.setCells (F := fun k => k = g2) g2 [.int .i64 k5, .int .i64 c, .int .i64 q, .string data, .slice A 9 cap, .int .i64 d3] 0 _ (Keep.refl (fun k => k = g2) (W2.setCell ⟨g1, 4, none⟩ (.slice A 9 cap))) (.inl rfl)
        obtain ⟨cur, hc1, hc2, hc3⟩ := setCells_blk [.int .i64 k5, .int .i64 c, .int .i64 q, .string data, .slice A 9 cap, .int .i64 d3] 0 (W2.setCell ⟨g1, 4, none⟩ (.slice A 9 cap)) zeroEnt hbg2 (Nat.le_refl 6)
        have hcur : cur = #[.int .i64 k5, .int .i64 c, .int .i64 q, .string data, .slice A 9 cap, .int .i64 d3] := by
          apply Array.toList_inj.1
          rw [hc3]
          rfl
        subst hcur
        generalize (W2.setCell ⟨g1, 4, none⟩ (.slice A 9 cap)).setCells g2 0 [.int .i64 k5, .int .i64 c, .int .i64 q, .string data, .slice A 9 cap, .int .i64 d3] = W7 at *
        have r0 := blk_cell hc1 0
        have r1 := blk_cell hc1 1
        have r2 := blk_cell hc1 2
        have r3 := blk_cell hc1 3
        have r4 := blk_cell hc1 4
        have r5 := blk_cell hc1 5
        simp only [List.getElem?_toArray, List.getElem?_cons_zero, List.getElem?_cons_succ] at r0 r1 r2 r3 r4 r5
        have hB7 := (HB2.out.trans (hkg.to_below HB2.out.size (fun k hk => by have e : k = g1 := hk; rw [e, HG1.out]; exact Nat.le_refl _)))
        have hB8 := hB7.trans (hkr.to_below hB7.size (fun k hk => by have e : k = g2 := hk; rw [e, HG2.out]; omega))
        have hl9 : (mem.take 9).length = 9 := by rw [List.length_take]; omega
        have hs16 : data.size ≤ 16 := by omega
        have hm9 : (mem.take 9).length ≤ 9 := by omega
        refine bodyPost_ret (v := .agg #[.int .i64 k5, .int .i64 c, .int .i64 q, .string data, .slice A 9 cap, .int .i64 d3]) (by simp [results, Tryd.results14, go_sem, r0, r1, r2, r3, r4, r5]) rfl ⟨⟨⟨k5, c, q, data, A, cap, mem.take 9, d3⟩, (by show Ending.returned _ = Ending.returned (.agg #[.int .i64 k5, .int .i64 c, .int .i64 q, .string data, .slice A (mem.take 9).length cap, .int .i64 d3]); rw [hl9]), entE_zero HK.out hs16 hm9 HD.out, hs16, hm9, by have := HCap.out; show (mem.take 9).length ≤ cap; omega, fun W h => by show ReadsInt W .i64 A (mem.take 9).length (mem.take 9); rw [hl9]; exact takeI h 9 (by omega)⟩, hB8⟩
      · go_wp2_with fail
        clear q0 q1 q2 q3 q4 q5 f0 r0 r1 r2 r3 r4 r5 g0
        have hkg : Keep (fun k => k = g1) W2 W2 := (Keep.refl (fun k => k = g1) W2)
        have hbg2 := hkg.blk Hb22.out (fun e => h21 e)
        have hf : ((((((W2.setCell ⟨g2, 0, none⟩ (.int .i64 k5)).setCell ⟨g2, 1, none⟩ (.int .i64 c)).setCell ⟨g2, 2, none⟩ (.int .i64 q)).setCell ⟨g2, 3, none⟩ (.string data)).setCell ⟨g2, 4, none⟩ (.slice A mem.length cap)).setCell ⟨g2, 5, none⟩ (.int .i64 d3)) = W2.setCells g2 0 [.int .i64 k5, .int .i64 c, .int .i64 q, .string data, .slice A mem.length cap, .int .i64 d3] := rfl
        rw [hf]
        clear hf
        have hkr := Keep.setCells (F := fun k => k = g2) g2 [.int .i64 k5, .int .i64 c, .int .i64 q, .string data, .slice A mem.length cap, .int .i64 d3] 0 _ (Keep.refl (fun k => k = g2) W2) (.inl rfl)
        obtain ⟨cur, hc1, hc2, hc3⟩ := setCells_blk [.int .i64 k5, .int .i64 c, .int .i64 q, .string data, .slice A mem.length cap, .int .i64 d3] 0 W2 zeroEnt hbg2 (Nat.le_refl 6)
        have hcur : cur = #[.int .i64 k5, .int .i64 c, .int .i64 q, .string data, .slice A mem.length cap, .int .i64 d3] := by
          apply Array.toList_inj.1
          rw [hc3]
          rfl
        subst hcur
        generalize W2.setCells g2 0 [.int .i64 k5, .int .i64 c, .int .i64 q, .string data, .slice A mem.length cap, .int .i64 d3] = W7 at *
        have r0 := blk_cell hc1 0
        have r1 := blk_cell hc1 1
        have r2 := blk_cell hc1 2
        have r3 := blk_cell hc1 3
        have r4 := blk_cell hc1 4
        have r5 := blk_cell hc1 5
        simp only [List.getElem?_toArray, List.getElem?_cons_zero, List.getElem?_cons_succ] at r0 r1 r2 r3 r4 r5
        have hB7 := (HB2.out.trans (hkg.to_below HB2.out.size (fun k hk => by have e : k = g1 := hk; rw [e, HG1.out]; exact Nat.le_refl _)))
        have hB8 := hB7.trans (hkr.to_below hB7.size (fun k hk => by have e : k = g2 := hk; rw [e, HG2.out]; omega))
        have hs16 : data.size ≤ 16 := by omega
        have hm9 : (mem).length ≤ 9 := by omega
        refine bodyPost_ret (v := .agg #[.int .i64 k5, .int .i64 c, .int .i64 q, .string data, .slice A mem.length cap, .int .i64 d3]) (by simp [results, Tryd.results14, go_sem, r0, r1, r2, r3, r4, r5]) rfl ⟨⟨⟨k5, c, q, data, A, cap, mem, d3⟩, rfl, entE_zero HK.out hs16 hm9 HD.out, hs16, hm9, HCap.out, fun _ h => h⟩, hB8⟩
end Go.Proofs.YtkdlghbfplhkpaaDoor
