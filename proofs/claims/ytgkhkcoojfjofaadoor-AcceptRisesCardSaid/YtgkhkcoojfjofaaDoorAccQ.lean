/- Pick, the code's and the document's. -/
import Derived.Test.YtgkhkcoojfjofaaDoorAccN
set_option linter.unusedVariables false
set_option linter.unusedSimpArgs false
namespace Go.Proofs.YtgkhkcoojfjofaaDoor
open Go.RowKit Go.Shelf Go.Proofs.YtgkhkcoojfjofaaDoorW.PrintWords Go.Proofs.Mine

/-- Votes as they lie, in a row of one's own. -/
def vhK : Kd Vh where
  sz := 8
  E := []
  K := fun _ x cs => cs = x.cells
  M := fun _ _ _ x cs => cs = x.cells
  K_len := by rintro w x cs rfl; rfl
  K_one := by
    rintro w x cs rfl u hu
    simp only [Vh.cells, List.mem_cons, List.not_mem_nil, or_false] at hu
    rcases hu with rfl | rfl | rfl | rfl | rfl | rfl | rfl | rfl <;> rfl
  K_below := by rintro w w1 x cs hb h; exact h
  K_of_M := by rintro w base ok x cs h; exact h
  M_mono := by rintro w base ok ok' x cs hk h; exact h
  M_bound := by rintro w base ok x cs h; exact h
  M_move := by rintro w w1 base ok x cs hm h; exact h
  M_lower := by rintro w base base' ok x cs hb h; exact h
/-- The best vote. -/
def best (l : List Vh) : Option Nat → Vh
  | none => vh0
  | some j => l.getD j vh0
def entV (x : Vh) (A : Option Addr) (c : Nat) : Value := .agg #[.int .i64 x.kd, .int .i64 x.c, .int .i64 x.q, .string x.data, .slice A x.mem.length c, .int .i64 x.dst]
theorem best_some {l : List Vh} {j : Nat} {y : Vh} (h : l[j]? = some y) : best l (some j) = y := by
  show l.getD j vh0 = y
  rw [List.getD_eq_getElem?_getD, h]; rfl
theorem best_in {l : List Vh} {slot : Int} {w : World} {k : Nat} (hin : VIn w l) : ReadsInt w .i64 (best l (pk l slot k)).A (best l (pk l slot k)).mem.length (best l (pk l slot k)).mem := by
  cases h : pk l slot k with
  | none => exact ⟨rfl, show 0 ≤ 9223372036854775807 by decide, fun hp => absurd hp (show ¬ 0 < 0 by decide)⟩
  | some j =>
    have hj := (pk_lt l slot k j h).2
    rw [best_some (List.getElem?_eq_getElem hj)]
    exact hin _ (List.getElem_mem hj)
theorem best_len {l : List Vh} {slot : Int} {k : Nat} (hm : ∀ x ∈ l, x.mem.length ≤ 1000000) : (best l (pk l slot k)).mem.length ≤ 1000000 := by
  cases h : pk l slot k with
  | none => exact (show 0 ≤ 1000000 by decide)
  | some j =>
    have hj := (pk_lt l slot k j h).2
    rw [best_some (List.getElem?_eq_getElem hj)]
    exact hm _ (List.getElem_mem hj)
set_option maxRecDepth 100000 in
set_option maxHeartbeats 2000000 in
theorem pick_any (A : Option Addr) (c : Nat) (l : List Vh) (slot : Int) (w : World) (h : VRow w A l.length l) (hin : VIn w l) (hm : ∀ x ∈ l, x.mem.length ≤ 1000000) :
    Calls Tryd.prog 20 #[.slice A l.length c, .int .i64 slot] w fun r w' => ∃ A1 c1, r = .returned (.tuple #[entV (best l (pk l slot l.length)) A1 c1, .bool (pk l slot l.length).isSome]) ∧ ReadsInt w' .i64 A1 (best l (pk l slot l.length)).mem.length (best l (pk l slot l.length)).mem ∧ Below w.heap.size w w' := by
  have H := Lib.hid h
  have HIN := Lib.hid hin
  have HM := Lib.hid hm
  have hmx := h.2.1
  clear h hin hm
  go_enter Tryd.func20, Tryd.ntmps20
  go_wp2_with fail
  generalize hW : (w.alloc _).alloc _ = W0
  have hb4 : W0.heap[w.heap.size]? = some (.cells #[.int .i64 0, .int .i64 0, .int .i64 0, .string ByteArray.empty, .slice none 0 0, .int .i64 0] 29 (0, 0)) := by rw [← hW]; exact blk_alloc (heap_alloc_new w _) _
  have hb6 : W0.heap[w.heap.size + 1]? = some (.cells #[.int .i64 0, .int .i64 0, .int .i64 0, .int .i64 0, .int .i64 0, .string ByteArray.empty, .slice none 0 0, .int .i64 0] 41 (0, 0)) := by rw [← hW]; exact alloc2 _ _ _
  have hB0 : Below w.heap.size w W0 := by rw [← hW]; exact ((Below.refl _ _).alloc (Nat.le_refl _) _).alloc (by simp) _
  clear hW
  obtain ⟨p6, hp6⟩ : ∃ p6, p6 = w.heap.size + 1 := ⟨_, rfl⟩
  rw [← hp6] at hb6 ⊢
  obtain ⟨p4, hp4⟩ : ∃ p4, p4 = w.heap.size := ⟨_, rfl⟩
  rw [← hp4] at hb4 ⊢
  have H46 := Lib.hid (show p4 ≠ p6 from by omega)
  have H6 := Lib.hid (show w.heap.size ≤ p6 ∧ p6 < W0.heap.size from ⟨by omega, blk_lt hb6⟩)
  have H4 := Lib.hid (show w.heap.size ≤ p4 from by omega)
  have HZ4 := Lib.hid hb4
  have HZ6 := Lib.hid hb6
  have HB0 := Lib.hid hB0
  clear hb4 hb6 hB0 hp6 hp4
  go_loopw [7, 9, 13] (fun is _ iv wr => ∃ (k : Nat), k ≤ l.length ∧ iv = .int .i64 (k : Int) ∧ is = .bool (pk l slot k).isSome ∧ RowKit.Hid (wr.heap[p6]? = some (.cells (best l (pk l slot k)).cells.toArray 41 (0, 0))) ∧ RowKit.Hid (wr.heap[p4]? = some (.cells #[.int .i64 0, .int .i64 0, .int .i64 0, .string ByteArray.empty, .slice none 0 0, .int .i64 0] 29 (0, 0))) ∧ RowKit.Hid (Below w.heap.size w wr)) (fun _ _ iv _ => l.length - (intOf iv).toNat)
  case atStart => exact ⟨0, by omega, rfl, rfl, HZ6, HZ4, HB0⟩
  case round =>
    rename_i wr
    obtain ⟨k, hk, rfl, rfl, H6k, H4k, HBk⟩ := hrel
    by_cases hlt : k < l.length
    · have hlt2 : (k : Int) < (l.length : Int) := by omega
      have hk0 : (0 : Int) ≤ (k : Int) := by omega
      obtain ⟨x, hx⟩ : ∃ x, l[k]? = some x := ⟨_, List.getElem?_eq_getElem hlt⟩
      obtain ⟨ad, rfl, hv⟩ := vh_at H.out hx
      obtain ⟨v0, v1, v2, v3, v4, v5, v6, v7⟩ := hv.below HBk.out
      obtain ⟨ea, hea⟩ : ∃ ea, ea = ad.add (k * 8) := ⟨_, rfl⟩
      rw [← hea] at v0 v1 v2 v3 v4 v5 v6 v7
      have hea2 := hea.symm
      obtain ⟨pc, hpc⟩ : ∃ pc, pc = wr.heap.size := ⟨_, rfl⟩
      obtain ⟨W, hW⟩ : ∃ z, wr.alloc (.cells #[.int .i64 x.s, .int .i64 x.b, .int .i64 x.kd, .int .i64 x.c, .int .i64 x.q, .string x.data, .slice x.A x.mem.length x.cap, .int .i64 x.dst] 41) = z := ⟨_, rfl⟩
      have hBW : Below wr.heap.size wr W := by rw [← hW]; exact (Below.refl _ wr).alloc (Nat.le_refl _) _
      have hb9 : W.heap[wr.heap.size]? = some (.cells #[.int .i64 x.s, .int .i64 x.b, .int .i64 x.kd, .int .i64 x.c, .int .i64 x.q, .string x.data, .slice x.A x.mem.length x.cap, .int .i64 x.dst] 41 (0, 0)) := by rw [← hW]; exact heap_alloc_new wr _
      have HBW := Lib.hid (HBk.out.trans (hBW.mono HBk.out.size))
      have HB6 := Lib.hid (blk_below H6k.out hBW)
      have HB4 := Lib.hid (blk_below H4k.out hBW)
      have HL6 := Lib.hid HBW.out.size
      have HX := Lib.hid hx
      have HSTEP := Lib.hid (fun h => pk_no (slot := slot) hx h)
      obtain ⟨y, hy⟩ : ∃ y, y = best l (pk l slot k) := ⟨_, rfl⟩
      have hb6 : W.heap[p6]? = some (.cells #[.int .i64 y.s, .int .i64 y.b, .int .i64 y.kd, .int .i64 y.c, .int .i64 y.q, .string y.data, .slice y.A y.mem.length y.cap, .int .i64 y.dst] 41 (0, 0)) := by rw [hy]; exact HB6.out
      have HY := Lib.hid hy
      have c60 : W.cell? ⟨p6, 0, none⟩ = some (.int .i64 y.s) := blk_cell hb6 0
      have c61 : W.cell? ⟨p6, 1, none⟩ = some (.int .i64 y.b) := blk_cell hb6 1
      have c62 : W.cell? ⟨p6, 2, none⟩ = some (.int .i64 y.kd) := blk_cell hb6 2
      have c63 : W.cell? ⟨p6, 3, none⟩ = some (.int .i64 y.c) := blk_cell hb6 3
      have c64 : W.cell? ⟨p6, 4, none⟩ = some (.int .i64 y.q) := blk_cell hb6 4
      have c65 : W.cell? ⟨p6, 5, none⟩ = some (.string y.data) := blk_cell hb6 5
      have c66 : W.cell? ⟨p6, 6, none⟩ = some (.slice y.A y.mem.length y.cap) := blk_cell hb6 6
      have c67 : W.cell? ⟨p6, 7, none⟩ = some (.int .i64 y.dst) := blk_cell hb6 7
      have f6 : ∀ j, W.frozen? ⟨p6, j, none⟩ = false := fun j => blk_frozen hb6 j
      have c90 : W.cell? ⟨wr.heap.size, 0, none⟩ = some (.int .i64 x.s) := blk_cell hb9 0
      have c91 : W.cell? ⟨wr.heap.size, 1, none⟩ = some (.int .i64 x.b) := blk_cell hb9 1
      have c92 : W.cell? ⟨wr.heap.size, 2, none⟩ = some (.int .i64 x.kd) := blk_cell hb9 2
      have c93 : W.cell? ⟨wr.heap.size, 3, none⟩ = some (.int .i64 x.c) := blk_cell hb9 3
      have c94 : W.cell? ⟨wr.heap.size, 4, none⟩ = some (.int .i64 x.q) := blk_cell hb9 4
      have c95 : W.cell? ⟨wr.heap.size, 5, none⟩ = some (.string x.data) := blk_cell hb9 5
      have c96 : W.cell? ⟨wr.heap.size, 6, none⟩ = some (.slice x.A x.mem.length x.cap) := blk_cell hb9 6
      have c97 : W.cell? ⟨wr.heap.size, 7, none⟩ = some (.int .i64 x.dst) := blk_cell hb9 7
      have HPK := Lib.hid (rfl : (pk l slot k).isSome = (pk l slot k).isSome)
      clear hBW hb9 hx hv hea hy hpc
      by_cases hs : x.s = slot
      · have hsb : (x.s == slot) = true := beq_iff_eq.mpr hs
        cases hpk : pk l slot k with
        | none =>
          have HN := Lib.hid (pk_first HX.out hs hpk)
          clear hs hpk
          simp only [Option.isSome_none]
          have h8 := set8_blk hb6 (.int .i64 x.s) (.int .i64 x.b) (.int .i64 x.kd) (.int .i64 x.c) (.int .i64 x.q) (.string x.data) (.slice x.A x.mem.length x.cap) (.int .i64 x.dst)
          have HK8 := Lib.hid (set8_keep (F := fun k => k = p6) (Keep.refl _ W) (.inl rfl) (.int .i64 x.s) (.int .i64 x.b) (.int .i64 x.kd) (.int .i64 x.c) (.int .i64 x.q) (.string x.data) (.slice x.A x.mem.length x.cap) (.int .i64 x.dst))
          have H8 := Lib.hid h8
          clear h8
          go_wp2_with fail
          exact ⟨⟨k + 1, by omega, by simp, by rw [HN.out]; rfl, Lib.hid (by rw [HN.out, best_some HX.out]; exact H8.out), Lib.hid ((HK8.out.block p4 (blk_lt HB4.out) (fun e => H46.out e)).trans HB4.out), Lib.hid (HBW.out.trans (HK8.out.to_below HBW.out.size (fun k hk => hk ▸ H6.out.1)))⟩, by simp [intOf]; omega⟩
        | some j =>
          have hyj : l[j]? = some y := by
            have h1 := (pk_lt l slot k j hpk).2
            rw [HY.out, hpk, best_some (List.getElem?_eq_getElem h1)]
            exact List.getElem?_eq_getElem h1
          simp only [Option.isSome_some]
          by_cases hb : y.b < x.b
          · have HN := Lib.hid (pk_more HX.out hs hpk hyj hb)
            clear hs hpk hyj
            have h8 := set8_blk hb6 (.int .i64 x.s) (.int .i64 x.b) (.int .i64 x.kd) (.int .i64 x.c) (.int .i64 x.q) (.string x.data) (.slice x.A x.mem.length x.cap) (.int .i64 x.dst)
            have HK8 := Lib.hid (set8_keep (F := fun k => k = p6) (Keep.refl _ W) (.inl rfl) (.int .i64 x.s) (.int .i64 x.b) (.int .i64 x.kd) (.int .i64 x.c) (.int .i64 x.q) (.string x.data) (.slice x.A x.mem.length x.cap) (.int .i64 x.dst))
            have H8 := Lib.hid h8
            clear h8
            go_wp2_with fail
            exact ⟨⟨k + 1, by omega, by simp, by rw [HN.out]; rfl, Lib.hid (by rw [HN.out, best_some HX.out]; exact H8.out), Lib.hid ((HK8.out.block p4 (blk_lt HB4.out) (fun e => H46.out e)).trans HB4.out), Lib.hid (HBW.out.trans (HK8.out.to_below HBW.out.size (fun k hk => hk ▸ H6.out.1)))⟩, by simp [intOf]; omega⟩
          · have HN := Lib.hid ((pk_stays HX.out hpk hyj hb).trans hpk.symm)
            have HPS := Lib.hid (show (pk l slot k).isSome = true from by rw [hpk]; rfl)
            clear hs hpk hyj hb6
            go_wp2_with fail
            exact ⟨⟨k + 1, by omega, by simp, by rw [HN.out, HPS.out], Lib.hid (by rw [HN.out]; exact HB6.out), HB4, HBW⟩, by simp [intOf]; omega⟩
      · have hsb : (x.s == slot) = false := beq_eq_false_iff_ne.mpr hs
        have HN := Lib.hid (HSTEP.out hs)
        clear hb6 hs
        go_wp2_with fail
        exact ⟨⟨k + 1, by omega, by simp, by rw [HN.out], Lib.hid (by rw [HN.out]; exact HB6.out), HB4, HBW⟩, by simp [intOf]; omega⟩
    · obtain rfl : k = l.length := by omega
      have HRD := Lib.hid ((best_in (slot := slot) (k := l.length) HIN.out).below HBk.out)
      have HLN := Lib.hid (best_len (slot := slot) (k := l.length) HM.out)
      generalize hY : best l (pk l slot l.length) = y at *
      generalize hIS : (pk l slot l.length).isSome = is at *
      have HY := Lib.hid hY
      have HIS := Lib.hid hIS
      clear hY hIS
      have hb6 : wr.heap[p6]? = some (.cells #[.int .i64 y.s, .int .i64 y.b, .int .i64 y.kd, .int .i64 y.c, .int .i64 y.q, .string y.data, .slice y.A y.mem.length y.cap, .int .i64 y.dst] 41 (0, 0)) := H6k.out
      have c60 : wr.cell? ⟨p6, 0, none⟩ = some (.int .i64 y.s) := blk_cell hb6 0
      have c61 : wr.cell? ⟨p6, 1, none⟩ = some (.int .i64 y.b) := blk_cell hb6 1
      have c62 : wr.cell? ⟨p6, 2, none⟩ = some (.int .i64 y.kd) := blk_cell hb6 2
      have c63 : wr.cell? ⟨p6, 3, none⟩ = some (.int .i64 y.c) := blk_cell hb6 3
      have c64 : wr.cell? ⟨p6, 4, none⟩ = some (.int .i64 y.q) := blk_cell hb6 4
      have c65 : wr.cell? ⟨p6, 5, none⟩ = some (.string y.data) := blk_cell hb6 5
      have c66 : wr.cell? ⟨p6, 6, none⟩ = some (.slice y.A y.mem.length y.cap) := blk_cell hb6 6
      have c67 : wr.cell? ⟨p6, 7, none⟩ = some (.int .i64 y.dst) := blk_cell hb6 7
      clear hb6
      have hfld : ∀ (A1 : Option Addr) (c1 : Nat) (W : World), (Instr.field 41 (.agg #[.int .i64 y.s, .int .i64 y.b, .int .i64 y.kd, .int .i64 y.c, .int .i64 y.q, .string y.data, .slice A1 y.mem.length c1, .int .i64 y.dst]) 2).run Tryd.prog W = .ok (entV y A1 c1) W := fun A1 c1 W => by kernel_rfl
      unfold entV at hfld
      go_wp2_with (go_at_call 26
                   refine (twin_any y wr HRD.out HLN.out).mono ?_
                   rintro r w1 ⟨A1, c1, rfl, hO, hB1⟩
                   have HO := Lib.hid hO
                   have HB1 := Lib.hid hB1
                   have h4 := blk_below H4k.out hB1
                   have f0 : ∀ j, w1.frozen? ⟨p4, j, none⟩ = false := fun j => blk_frozen h4 j
                   have r0 := blk_cell h4 0
                   have r1 := blk_cell h4 1
                   have r2 := blk_cell h4 2
                   have r3 := blk_cell h4 3
                   have r4 := blk_cell h4 4
                   have r5 := blk_cell h4 5
                   have H4b := Lib.hid h4
                   clear hO hB1 h4)
      have h6 := set6_blk H4b.out (.int .i64 y.kd) (.int .i64 y.c) (.int .i64 y.q) (.string y.data) (.slice A1 y.mem.length c1) (.int .i64 y.dst)
      have hk := set6_keep (F := fun k => k = p4) (Keep.refl _ w1) (.inl rfl) (.int .i64 y.kd) (.int .i64 y.c) (.int .i64 y.q) (.string y.data) (.slice A1 y.mem.length c1) (.int .i64 y.dst)
      have hf : ∀ v, (set6 w1 p4 (.int .i64 y.kd) (.int .i64 y.c) (.int .i64 y.q) (.string y.data) (.slice A1 y.mem.length c1) (.int .i64 y.dst)) = v → v = ((((((w1.setCell ⟨p4, 0, none⟩ (.int .i64 y.kd)).setCell ⟨p4, 1, none⟩ (.int .i64 y.c)).setCell ⟨p4, 2, none⟩ (.int .i64 y.q)).setCell ⟨p4, 3, none⟩ (.string y.data)).setCell ⟨p4, 4, none⟩ (.slice A1 y.mem.length c1)).setCell ⟨p4, 5, none⟩ (.int .i64 y.dst)) := fun v hv => hv.symm
      rw [← hf _ rfl]
      clear hf r0 r1 r2 r3 r4 r5 f0
      generalize set6 w1 p4 (.int .i64 y.kd) (.int .i64 y.c) (.int .i64 y.q) (.string y.data) (.slice A1 y.mem.length c1) (.int .i64 y.dst) = W6 at *
      have r0 := blk_cell h6 0
      have r1 := blk_cell h6 1
      have r2 := blk_cell h6 2
      have r3 := blk_cell h6 3
      have r4 := blk_cell h6 4
      have r5 := blk_cell h6 5
      have hlt4 := blk_lt H4k.out
      have hown := hk.own HO.out (fun k hk' hc => by have := own_base HO.out k hk'; have hc : k = p4 := hc; omega)
      obtain ⟨A1', c1', he, hrd⟩ := own_reads hown
      obtain rfl : A1 = A1' := by injection he
      refine bodyPost_ret (v := .tuple #[entV y A1 c1, .bool is]) (by simp [results, Tryd.results20, go_sem, r0, r1, r2, r3, r4, r5, entV]) rfl ?_
      rw [HY.out, HIS.out]
      exact ⟨A1, c1, rfl, hrd, (HBk.out.trans (HB1.out.mono HBk.out.size)).trans (hk.to_below (Nat.le_trans HBk.out.size HB1.out.size) (fun k h => h ▸ H4.out))⟩
def pkI : Option Nat → Int
  | none => -1
  | some j => (j : Int)
set_option maxRecDepth 100000 in
set_option maxHeartbeats 2000000 in
theorem rpick_any (A : Option Addr) (c : Nat) (l : List Vh) (slot : Int) (w : World) (h : VRow w A l.length l) :
    Calls Tryd.prog 21 #[.slice A l.length c, .int .i64 slot] w fun r w' => r = .returned (.tuple #[entV (best l (pk l slot l.length)) (best l (pk l slot l.length)).A (best l (pk l slot l.length)).cap, .bool (pk l slot l.length).isSome]) ∧ Below w.heap.size w w' := by
  have H := Lib.hid h
  have hmx := h.2.1
  clear h
  go_enter Tryd.func21, Tryd.ntmps21
  go_wp2_with fail
  generalize hW : w.alloc _ = W0
  have hb4 : W0.heap[w.heap.size]? = some (.cells #[.int .i64 0, .int .i64 0, .int .i64 0, .string ByteArray.empty, .slice none 0 0, .int .i64 0] 29 (0, 0)) := by rw [← hW]; exact heap_alloc_new w _
  have hB0 : Below w.heap.size w W0 := by rw [← hW]; exact (Below.refl _ _).alloc (Nat.le_refl _) _
  clear hW
  obtain ⟨p4, hp4⟩ : ∃ p4, p4 = w.heap.size := ⟨_, rfl⟩
  rw [← hp4] at hb4 ⊢
  have H4 := Lib.hid (show w.heap.size ≤ p4 from by omega)
  have HZ4 := Lib.hid hb4
  have HB0 := Lib.hid hB0
  clear hb4 hB0 hp4
  go_loopw [6, 7] (fun bi iv wr => ∃ (k : Nat), k ≤ l.length ∧ iv = .int .i64 (k : Int) ∧ bi = .int .i64 (pkI (pk l slot k)) ∧ RowKit.Hid (wr.heap[p4]? = some (.cells #[.int .i64 0, .int .i64 0, .int .i64 0, .string ByteArray.empty, .slice none 0 0, .int .i64 0] 29 (0, 0))) ∧ RowKit.Hid (Below w.heap.size w wr)) (fun _ iv _ => l.length - (intOf iv).toNat)
  case atStart => exact ⟨0, by omega, rfl, rfl, HZ4, HB0⟩
  case round =>
    rename_i wr
    obtain ⟨k, hk, rfl, rfl, H4k, HBk⟩ := hrel
    by_cases hlt : k < l.length
    · have hlt2 : (k : Int) < (l.length : Int) := by omega
      have hk0 : (0 : Int) ≤ (k : Int) := by omega
      obtain ⟨x, hx⟩ : ∃ x, l[k]? = some x := ⟨_, List.getElem?_eq_getElem hlt⟩
      obtain ⟨ad, rfl, hv⟩ := vh_at H.out hx
      obtain ⟨v0, v1, v2, v3, v4, v5, v6, v7⟩ := hv.below HBk.out
      obtain ⟨ea, hea⟩ : ∃ ea, ea = ad.add (k * 8) := ⟨_, rfl⟩
      rw [← hea] at v0 v1
      have hea2 := hea.symm
      have p0 : ∀ nq, (wr.drewN nq).cell? ea = some (.int .i64 x.s) := fun _ => v0
      have p1 : ∀ nq, (wr.drewN nq).cell? ⟨ea.block, ea.off + 1, none⟩ = some (.int .i64 x.b) := fun _ => v1
      have HX := Lib.hid hx
      have HSTEP := Lib.hid (fun h => pk_no (slot := slot) hx h)
      have HFIN := Lib.hid (show ∀ n, (wr.drewN n).heap[p4]? = some (.cells #[.int .i64 0, .int .i64 0, .int .i64 0, .string ByteArray.empty, .slice none 0 0, .int .i64 0] 29 (0, 0)) from fun n => H4k.out)
      clear hea v0 v1 v2 v3 v4 v5 v6 v7 hv hx
      by_cases hs : x.s = slot
      · have hsb : (x.s == slot) = true := beq_iff_eq.mpr hs
        cases hpk : pk l slot k with
        | none =>
          have HN := Lib.hid (pk_first HX.out hs hpk)
          clear hs hpk
          simp only [pkI]
          go_wp2_with fail
          go_quiet (fail)
          go_wp2_with fail
          exact ⟨⟨k + 1, by omega, by simp, by rw [HN.out]; first | done | rfl, Lib.hid (HFIN.out _), Lib.hid (pw_below_drewN HBk.out _)⟩, by simp [intOf]; omega⟩
        | some j =>
          have hjl := (pk_lt l slot k j hpk).2
          obtain ⟨y, hyj⟩ : ∃ y, l[j]? = some y := ⟨_, List.getElem?_eq_getElem hjl⟩
          obtain ⟨ad', e', hu⟩ := vh_at H.out hyj
          injection e' with e'
          subst e'
          obtain ⟨u0, u1, _⟩ := hu.below HBk.out
          obtain ⟨eb, heb⟩ : ∃ eb, eb = ad.add (j * 8) := ⟨_, rfl⟩
          rw [← heb] at u0 u1
          have heb2 := heb.symm
          have z1 : ∀ nq, (wr.drewN nq).cell? ⟨eb.block, eb.off + 1, none⟩ = some (.int .i64 y.b) := fun _ => u1
          have hj0 : (0 : Int) ≤ (j : Int) := by omega
          have hj1 : (j : Int) < (l.length : Int) := by omega
          clear u0 u1 heb hu
          simp only [pkI]
          by_cases hb : y.b < x.b
          · have HN := Lib.hid (pk_more HX.out hs hpk hyj hb)
            clear hs hpk hyj
            go_wp2_with fail
            go_quiet (fail)
            go_wp2_with fail
            exact ⟨⟨k + 1, by omega, by simp, by rw [HN.out]; first | done | rfl, Lib.hid (HFIN.out _), Lib.hid (pw_below_drewN HBk.out _)⟩, by simp [intOf]; omega⟩
          · have HN := Lib.hid (pk_stays HX.out hpk hyj hb)
            clear hs hpk hyj
            go_wp2_with fail
            go_quiet (fail)
            go_wp2_with fail
            exact ⟨⟨k + 1, by omega, by simp, by rw [HN.out]; first | done | rfl, Lib.hid (HFIN.out _), Lib.hid (pw_below_drewN HBk.out _)⟩, by simp [intOf]; omega⟩
      · have hsb : (x.s == slot) = false := beq_eq_false_iff_ne.mpr hs
        have HN := Lib.hid (HSTEP.out hs)
        clear hs
        go_wp2_with fail
        go_quiet (fail)
        go_wp2_with fail
        exact ⟨⟨k + 1, by omega, by simp, by rw [HN.out], Lib.hid (HFIN.out _), Lib.hid (pw_below_drewN HBk.out _)⟩, by simp [intOf]; omega⟩
    · obtain rfl : k = l.length := by omega
      have z0 := blk_cell H4k.out 0
      have z1 := blk_cell H4k.out 1
      have z2 := blk_cell H4k.out 2
      have z3 := blk_cell H4k.out 3
      have z4 := blk_cell H4k.out 4
      have z5 := blk_cell H4k.out 5
      have f0 : ∀ j, wr.frozen? ⟨p4, j, none⟩ = false := fun j => blk_frozen H4k.out j
      cases hpk : pk l slot l.length with
      | none =>
        have HPK := Lib.hid hpk
        clear hpk
        simp only [pkI]
        go_wp2_with fail
        have h6 := set6_blk H4k.out (.int .i64 0) (.int .i64 0) (.int .i64 0) (.string ⟨#[]⟩) (.slice none 0 0) (.int .i64 0)
        have hk := set6_keep (F := fun k => k = p4) (Keep.refl _ wr) (.inl rfl) (.int .i64 0) (.int .i64 0) (.int .i64 0) (.string ⟨#[]⟩) (.slice none 0 0) (.int .i64 0)
        have hf : ∀ v, (set6 wr p4 (.int .i64 0) (.int .i64 0) (.int .i64 0) (.string ⟨#[]⟩) (.slice none 0 0) (.int .i64 0)) = v → v = ((((((wr.setCell ⟨p4, 0, none⟩ (.int .i64 0)).setCell ⟨p4, 1, none⟩ (.int .i64 0)).setCell ⟨p4, 2, none⟩ (.int .i64 0)).setCell ⟨p4, 3, none⟩ (.string ⟨#[]⟩)).setCell ⟨p4, 4, none⟩ (.slice none 0 0)).setCell ⟨p4, 5, none⟩ (.int .i64 0)) := fun v hv => hv.symm
        rw [← hf _ rfl]
        clear hf z0 z1 z2 z3 z4 z5 f0
        generalize set6 wr p4 (.int .i64 0) (.int .i64 0) (.int .i64 0) (.string ⟨#[]⟩) (.slice none 0 0) (.int .i64 0) = W6 at *
        have r0 := blk_cell h6 0
        have r1 := blk_cell h6 1
        have r2 := blk_cell h6 2
        have r3 := blk_cell h6 3
        have r4 := blk_cell h6 4
        have r5 := blk_cell h6 5
        refine bodyPost_ret (v := .tuple #[.agg #[.int .i64 0, .int .i64 0, .int .i64 0, .string ⟨#[]⟩, .slice none 0 0, .int .i64 0], .bool false]) (by simp [results, Tryd.results21, go_sem, r0, r1, r2, r3, r4, r5]) rfl ?_
        rw [HPK.out]
        exact ⟨rfl, HBk.out.trans (hk.to_below HBk.out.size (fun k h => h ▸ H4.out))⟩
      | some j =>
        have hjl := (pk_lt l slot l.length j hpk).2
        obtain ⟨y, hyj⟩ : ∃ y, l[j]? = some y := ⟨_, List.getElem?_eq_getElem hjl⟩
        obtain ⟨ad, rfl, hu⟩ := vh_at H.out hyj
        obtain ⟨u0, u1, u2, u3, u4, u5, u6, u7⟩ := hu.below HBk.out
        obtain ⟨eb, heb⟩ : ∃ eb, eb = ad.add (j * 8) := ⟨_, rfl⟩
        rw [← heb] at u2 u3 u4 u5 u6 u7
        have heb2 := heb.symm
        have hj0 : (0 : Int) ≤ (j : Int) := by omega
        have hj1 : (j : Int) < (l.length : Int) := by omega
        have HPK := Lib.hid hpk
        have HBEST := Lib.hid (show Ending.returned (.tuple #[entV (best l (some j)) (best l (some j)).A (best l (some j)).cap, .bool (some j).isSome]) = Ending.returned (.tuple #[.agg #[.int .i64 y.kd, .int .i64 y.c, .int .i64 y.q, .string y.data, .slice y.A y.mem.length y.cap, .int .i64 y.dst], .bool true]) from by rw [best_some hyj]; rfl)
        clear hpk hyj hu heb u0 u1
        simp only [pkI]
        go_wp2_with fail
        have h6 := set6_blk H4k.out (.int .i64 y.kd) (.int .i64 y.c) (.int .i64 y.q) (.string y.data) (.slice y.A y.mem.length y.cap) (.int .i64 y.dst)
        have hk := set6_keep (F := fun k => k = p4) (Keep.refl _ wr) (.inl rfl) (.int .i64 y.kd) (.int .i64 y.c) (.int .i64 y.q) (.string y.data) (.slice y.A y.mem.length y.cap) (.int .i64 y.dst)
        have hf : ∀ v, (set6 wr p4 (.int .i64 y.kd) (.int .i64 y.c) (.int .i64 y.q) (.string y.data) (.slice y.A y.mem.length y.cap) (.int .i64 y.dst)) = v → v = ((((((wr.setCell ⟨p4, 0, none⟩ (.int .i64 y.kd)).setCell ⟨p4, 1, none⟩ (.int .i64 y.c)).setCell ⟨p4, 2, none⟩ (.int .i64 y.q)).setCell ⟨p4, 3, none⟩ (.string y.data)).setCell ⟨p4, 4, none⟩ (.slice y.A y.mem.length y.cap)).setCell ⟨p4, 5, none⟩ (.int .i64 y.dst)) := fun v hv => hv.symm
        rw [← hf _ rfl]
        clear hf z0 z1 z2 z3 z4 z5 f0
        generalize set6 wr p4 (.int .i64 y.kd) (.int .i64 y.c) (.int .i64 y.q) (.string y.data) (.slice y.A y.mem.length y.cap) (.int .i64 y.dst) = W6 at *
        have r0 := blk_cell h6 0
        have r1 := blk_cell h6 1
        have r2 := blk_cell h6 2
        have r3 := blk_cell h6 3
        have r4 := blk_cell h6 4
        have r5 := blk_cell h6 5
        refine bodyPost_ret (v := .tuple #[.agg #[.int .i64 y.kd, .int .i64 y.c, .int .i64 y.q, .string y.data, .slice y.A y.mem.length y.cap, .int .i64 y.dst], .bool true]) (by simp [results, Tryd.results21, go_sem, r0, r1, r2, r3, r4, r5]) rfl ?_
        rw [HPK.out]
        exact ⟨HBEST.out.symm, HBk.out.trans (hk.to_below HBk.out.size (fun k h => h ▸ H4.out))⟩
end Go.Proofs.YtgkhkcoojfjofaaDoor
