/- Cells as they are read; what a record of cells is. cells.write. Cells in memory: their map, their log. The cells of a record. Get and All of cells. Open of cells. -/
import Derived.Test.YtfnnjgbldojigaaDoorEchoQ
import Derived.Test.YtfnnjgbldojigaaDoorOpen
import Derived.Laws.BitsLemmas
import Derived.Test.YtfnnjgbldojigaaDoorAllW
import Derived.Test.YtfnnjgbldojigaaDoorRowK
set_option linter.unusedVariables false
set_option linter.unusedSimpArgs false
namespace Go.Proofs.YtfnnjgbldojigaaDoor
/- Cells as they are read; what a record of cells is. -/
section
open Go.RowKit Go.Proofs.YtfnnjgbldojigaaDoorW.PrintWords Go.Proofs.Mine Go.Proofs.Mine.Crc
open Go.ChangeShapes Go.WideShapes Go.ChangeAt

/-- A cell: its number, its bytes. -/
abbrev Ce := Int × List UInt8
abbrev ceK : Kd Ce := pairK (Kd.int .i64) rowsK
theorem two {α : Type} {l : List α} (h : l.length = 2) : ∃ a0 a1, l = [a0, a1] := by
  match l, h with
  | [a0, a1], _ => exact ⟨a0, a1, rfl⟩
theorem opensCe : Opens Tryd.prog 61 ceK := by
  refine ⟨by kernel_rfl, fun {H enc w base spare held fuel cs x} h => ?_⟩
  obtain ⟨xs, n, _, _, hl, hlen, hf⟩ := DataW.trod_struct Tryd.underlying61 h
  have h2 : cs.length = 2 := hl.trans (by kernel_rfl)
  have hx2 : xs.length = 2 := hlen
  have k3 : Tryd.prog.cellsOf 3 = 1 := by kernel_rfl
  have k5 : Tryd.prog.cellsOf 5 = 1 := by kernel_rfl
  have kB : Tryd.prog.cellsOf 32 = 1 := by kernel_rfl
  have at_ : ∀ i, i < 2 → ∃ y, xs[i]? = some y := fun i hi => ⟨_, List.getElem?_eq_getElem (by omega)⟩
  obtain ⟨a0, a1, rfl⟩ := two h2
  have c0 : DataW.trod enc Tryd.prog w base spare held n 3 (List.take (Tryd.prog.cellsOf 3) [a0, a1]) = xs[0]? := hf 0 _ rfl
  have c1 : DataW.trod enc Tryd.prog w base spare held n 32 (List.take (Tryd.prog.cellsOf 32) [a1]) = xs[1]? := hf 1 _ rfl
  rw [k3] at c0
  rw [kB] at c1
  obtain ⟨y0, e0⟩ := at_ 0 (by decide)
  obtain ⟨y1, e1⟩ := at_ 1 (by decide)
  have ob : Opens Tryd.prog 32 rowsK := Opens.slice Tryd.underlying32 kB (Opens.byte Tryd.underlying5 k5)
  obtain ⟨v0, g0, _⟩ := DataW.trod_int Tryd.underlying3 (c0.trans e0)
  obtain ⟨v1, g1⟩ := ob.op (c1.trans e1)
  exact ⟨(v0, v1), [a0], [a1], rfl, g0, g1⟩
theorem ce_at {w : World} {A : Option Addr} {n : Nat} {l : List Ce} (h : ceK.C w A n l) {i : Nat} {x : Ce} (hx : l[i]? = some x) :
    ∃ ad B c, A = some ad ∧ w.cell? (ad.add (i * 2)) = some (.int .i64 x.1) ∧ w.cell? ⟨(ad.add (i * 2)).block, (ad.add (i * 2)).off + 1, none⟩ = some (.slice B x.2.length c) ∧ Bytes w B x.2 ∧ x.2.length ≤ c := by
  obtain ⟨hl, _⟩ := List.getElem?_eq_some_iff.1 hx
  obtain ⟨ad, hA, hc⟩ := h.2.2 (by have := h.1; omega)
  obtain ⟨cs, h2, ⟨c1, c2, rfl, g0, B, c, g1, hle, hC⟩, h3⟩ := hc i x hx
  obtain rfl : c1 = _ := g0
  obtain rfl : c2 = _ := g1
  have h4 : ∀ j u, [Value.int .i64 x.1, .slice B x.2.length c][j]? = some u → w.cell? ((ad.add (i * 2)).add j) = some u := fun j u hu => by
    rw [Mine.add_add]
    exact h3 j u hu
  exact ⟨ad, B, c, hA, by simpa [Addr.add] using h4 0 _ rfl, by simpa [Addr.add] using h4 1 _ rfl, bytes_of_C hC, hle⟩
/-- A cell as a record bears it. -/
def ceHead (x : Ce) : List UInt8 := [UInt8.ofNat x.1.toNat, UInt8.ofNat (x.2.length / 256), UInt8.ofNat x.2.length]
def ceW (x : Ce) : List UInt8 := ceHead x ++ x.2
def writeOf (l : List Ce) : List UInt8 := l.flatMap ceW
theorem ceW_len (x : Ce) : (ceW x).length = x.2.length + 3 := by simp [ceW, ceHead]
theorem writeOf_snoc (l : List Ce) (x : Ce) : writeOf (l ++ [x]) = writeOf l ++ ceHead x ++ x.2 := by simp [writeOf, ceW]
/-- A cell that may be put. -/
def CeOk (x : Ce) : Prop := 0 ≤ x.1 ∧ x.1 < 8 ∧ x.2.length ≤ 12000
theorem writeOf_le (l : List Ce) (h : ∀ x ∈ l, x.2.length ≤ 12000) : (writeOf l).length ≤ 12003 * l.length := by
  induction l with
  | nil => simp [writeOf]
  | cons x l ih =>
    have h1 := ih (fun y hy => h y (List.mem_cons_of_mem _ hy))
    have h2 := h x (List.mem_cons_self ..)
    have e : writeOf (x :: l) = ceW x ++ writeOf l := by simp [writeOf]
    rw [e, List.length_append, ceW_len, List.length_cons, Nat.mul_add]
    omega
theorem ceHead_cells (x : Ce) (m : Nat) (hm : x.1 = (m : Int)) (h8 : m < 256) : #[Value.int .u8 (IntKind.u8.wrap (m : Int)), .int .u8 (IntKind.u8.wrap ((x.2.length : Int) / 256)), .int .u8 (IntKind.u8.wrap (x.2.length : Int))] = (encs b8 (ceHead x)).toArray := by
  simp only [IntKind.wrap_u8, encs, ceHead, List.map_cons, List.map_nil, b8, UInt8.toNat_ofNat', hm]
  congr 2
end
/- cells.write. -/
section
open Go.RowKit Go.Proofs.YtfnnjgbldojigaaDoorW.PrintWords Go.Proofs.Mine Go.Proofs.Mine.Crc

theorem writeOf_le2 (l : List Ce) (h : ∀ x ∈ l, x.2.length ≤ 65535) : (writeOf l).length ≤ 65538 * l.length := by
  induction l with
  | nil => simp [writeOf]
  | cons x l ih =>
    have h1 := ih (fun y hy => h y (List.mem_cons_of_mem _ hy))
    have h2 := h x (List.mem_cons_self ..)
    have e : writeOf (x :: l) = ceW x ++ writeOf l := by simp [writeOf]
    rw [e, List.length_append, ceW_len, List.length_cons, Nat.mul_add]
    omega
set_option maxRecDepth 100000 in
set_option maxHeartbeats 2000000 in
theorem write_any (A : Option Addr) (c : Nat) (l : List Ce) (w : World) (h : ceK.C w A l.length l) (hok : ∀ x ∈ l, 0 ≤ x.1 ∧ x.1 < 256 ∧ x.2.length ≤ 65535) (hl : l.length ≤ 1000000) :
    Calls Tryd.prog 67 #[.slice A l.length c] w fun r w' => ∃ v, r = .returned v ∧ Own w' w.heap.size v (writeOf l) ∧ Below w.heap.size w w' := by
  have H := Lib.hid h
  have HOK := Lib.hid hok
  clear h hok
  go_enter Tryd.func67, Tryd.ntmps67
  go_wp2_with fail
  go_loopw [3, 8] (fun u iv wr => ∃ (k : Nat), k ≤ l.length ∧ iv = .int .i64 (k : Int) ∧ RowKit.Hid (Own wr w.heap.size u (writeOf (l.take k))) ∧ RowKit.Hid (Below w.heap.size w wr)) (fun _ iv _ => l.length - (intOf iv).toNat)
  case atStart => exact ⟨0, by omega, rfl, Lib.hid (by rw [List.take_zero]; exact own_nil _ _ _ _), Lib.hid (Below.refl _ _)⟩
  case round =>
    obtain ⟨k, hk, rfl, HU, HB⟩ := hrel
    by_cases hlt : k < l.length
    · have hlt2 : (k : Int) < (l.length : Int) := by omega
      have hk0 : (0 : Int) ≤ (k : Int) := by omega
      obtain ⟨x, hx⟩ : ∃ x, l[k]? = some x := ⟨_, List.getElem?_eq_getElem hlt⟩
      obtain ⟨ad, Bx, cx, rfl, h0, h1, hbx, hcx⟩ := ce_at H.out hx
      obtain ⟨hx0, hx1, hx2⟩ := HOK.out x (List.mem_of_getElem? hx)
      obtain ⟨ea, hea⟩ : ∃ ea, ea = ad.add (k * 2) := ⟨_, rfl⟩
      rw [← hea] at h0 h1
      have q0 : wr.cell? ea = some (.int .i64 x.1) := pw_cell_below HB.out h0
      have q1 : wr.cell? ⟨ea.block, ea.off + 1, none⟩ = some (.slice Bx x.2.length cx) := pw_cell_below HB.out h1
      have hea2 := hea.symm
      have hsn : writeOf (l.take (k + 1)) = writeOf (l.take k) ++ ceHead x ++ x.2 := by rw [List.take_add_one, hx]; exact writeOf_snoc _ _
      have hwl : (writeOf (l.take k)).length ≤ 65538 * 1000000 := by
        have := writeOf_le2 (l.take k) (fun y hy => (HOK.out y (List.mem_of_mem_take hy)).2.2)
        rw [List.length_take] at this
        refine Nat.le_trans this (Nat.mul_le_mul_left _ (by omega))
      have HSN := Lib.hid hsn
      have HWL := Lib.hid hwl
      have HBX := Lib.hid hbx
      obtain ⟨m, hm⟩ : ∃ m : Nat, x.1 = (m : Int) := ⟨x.1.toNat, by omega⟩
      have hm8 : m < 256 := by omega
      have hhc := ceHead_cells x m hm hm8
      have HHC := Lib.hid hhc
      rw [hm] at q0
      obtain ⟨x1, x2⟩ := x
      dsimp only at q1 hx2 hm
      clear hx h0 h1 hea hsn hwl hbx hhc hx0 hx1 hm
      obtain ⟨Au, cu, rfl⟩ := own_slice HU.out
      go_wp2_with fail
      obtain ⟨w2, hw2⟩ : ∃ z, z = wr.alloc (.cells #[.int .i64 (m : Int), .slice Bx x2.length cx] 61) := ⟨_, rfl⟩
      rw [← hw2]
      have hbox : w2.heap[wr.heap.size]? = some (.cells #[.int .i64 (m : Int), .slice Bx x2.length cx] 61 (0, 0)) := by rw [hw2]; exact heap_alloc_new wr _
      have hB2 : Below w.heap.size w w2 := by rw [hw2]; exact HB.out.alloc HB.out.size _
      have hU2 : Own w2 w.heap.size (.slice Au (writeOf (l.take k)).length cu) (writeOf (l.take k)) := by rw [hw2]; exact pw_own_below HU.out ((Below.refl _ _).alloc (Nat.le_refl _) _)
      have hne : ∀ j, (Value.slice Au (writeOf (l.take k)).length cu).ownBlock = some j → j < wr.heap.size := fun j hj => own_lt HU.out j hj
      have hpb : w.heap.size ≤ wr.heap.size := HB.out.size
      have qb0 : w2.drew.cell? ⟨wr.heap.size, 0, none⟩ = some (.int .i64 (m : Int)) := blk_cell (w := w2.drew) hbox 0
      have qb1 : w2.drew.cell? ⟨wr.heap.size, 1, none⟩ = some (.slice Bx x2.length cx) := blk_cell (w := w2.drew) hbox 1
      have HB2 := Lib.hid hB2.drew
      have HU2 := Lib.hid (show Own w2.drew w.heap.size (.slice Au (writeOf (l.take k)).length cu) (writeOf (l.take k)) from hU2)
      have HNE := Lib.hid hne
      have HBOX := Lib.hid (show w2.drew.heap[wr.heap.size]? = _ from hbox)
      clear hw2 hbox hB2 hU2 hne HU q0 q1
      generalize wr.heap.size = pc at *
      generalize writeOf (l.take k) = dn at *
      refine wp_region_noPanic ?_
      refine wp_region_held_drew (S := (fun w' => w'.cell? ⟨pc, 0, none⟩ = some (.int .i64 (m : Int)) ∧ w'.cell? ⟨pc, 1, none⟩ = some (.slice Bx x2.length cx))) (by kernel_rfl) ?was0 (fun hHeld0 => ?war0)
      case was0 => (try dsimp only); exact ⟨qb0, qb1⟩
      refine wpAnyH_take (i := 0) (v := ?vwa1) (by simp only [List.getElem?_toArray, List.getElem?_cons_zero, List.getElem?_cons_succ]; rfl) (by kernel_rfl) (by kernel_rfl) (by kernel_rfl) (fun _ _ _ h => h) (Or.inl ⟨by rfl, ?hwa1⟩) hHeld0 ?qwa1
      case hwa1 => (intro w hSw; (try dsimp only at hSw); go_simp <;> with_reducible rfl)
      try simp only [Act.put, List.setIfInBounds_toArray, List.set_cons_zero, List.set_cons_succ]
      refine wpAnyH_take (i := 1) (v := ?vwa2) (by simp only [List.getElem?_toArray, List.getElem?_cons_zero, List.getElem?_cons_succ]; rfl) (by kernel_rfl) (by kernel_rfl) (by kernel_rfl) (fun _ _ _ h => h) (Or.inl ⟨by rfl, ?hwa2⟩) hHeld0 ?qwa2
      case hwa2 => (intro w hSw; (try dsimp only at hSw); go_simp <;> with_reducible rfl)
      try simp only [Act.put, List.setIfInBounds_toArray, List.set_cons_zero, List.set_cons_succ]
      refine wpAnyH_take (i := 4) (v := ?vwa3) (by simp only [List.getElem?_toArray, List.getElem?_cons_zero, List.getElem?_cons_succ]; rfl) (by kernel_rfl) (by kernel_rfl) (by kernel_rfl) (fun _ _ _ h => h) (Or.inl ⟨by rfl, ?hwa3⟩) hHeld0 ?qwa3
      case hwa3 => (intro w hSw; (try dsimp only at hSw); go_simp <;> with_reducible rfl)
      try simp only [Act.put, List.setIfInBounds_toArray, List.set_cons_zero, List.set_cons_succ]
      refine wpAnyH_take (i := 9) (v := ?vwa4) (by simp only [List.getElem?_toArray, List.getElem?_cons_zero, List.getElem?_cons_succ]; rfl) (by kernel_rfl) (by kernel_rfl) (by kernel_rfl) (fun _ _ _ h => h) (Or.inl ⟨by rfl, ?hwa4⟩) hHeld0 ?qwa4
      case hwa4 => (intro w hSw; (try dsimp only at hSw); go_simp <;> with_reducible rfl)
      try simp only [Act.put, List.setIfInBounds_toArray, List.set_cons_zero, List.set_cons_succ]
      refine wpAnyH_take (i := 15) (v := ?vwa5) (by simp only [List.getElem?_toArray, List.getElem?_cons_zero, List.getElem?_cons_succ]; rfl) (by kernel_rfl) (by kernel_rfl) (by kernel_rfl) (fun _ _ _ h => h) (Or.inl ⟨by rfl, ?hwa5⟩) hHeld0 ?qwa5
      case hwa5 => (intro w hSw; (try dsimp only at hSw); go_simp <;> with_reducible rfl)
      try simp only [Act.put, List.setIfInBounds_toArray, List.set_cons_zero, List.set_cons_succ]
      refine wpAnyH_take (i := 2) (v := ?vwa6) (by simp only [List.getElem?_toArray, List.getElem?_cons_zero, List.getElem?_cons_succ]; rfl) (by kernel_rfl) (by kernel_rfl) (by kernel_rfl) (fun _ _ _ h => h) (Or.inl ⟨by rfl, ?hwa6⟩) hHeld0 ?qwa6
      case hwa6 => (intro w hSw; (try dsimp only at hSw); go_simp <;> with_reducible rfl)
      try simp only [Act.put, List.setIfInBounds_toArray, List.set_cons_zero, List.set_cons_succ]
      refine wpAnyH_take (i := 5) (v := ?vwa7) (by simp only [List.getElem?_toArray, List.getElem?_cons_zero, List.getElem?_cons_succ]; rfl) (by kernel_rfl) (by kernel_rfl) (by kernel_rfl) (fun _ _ _ h => h) (Or.inl ⟨by rfl, ?hwa7⟩) hHeld0 ?qwa7
      case hwa7 => (intro w hSw; (try dsimp only at hSw); go_simp <;> with_reducible rfl)
      try simp only [Act.put, List.setIfInBounds_toArray, List.set_cons_zero, List.set_cons_succ]
      refine wpAnyH_take (i := 10) (v := ?vwa8) (by simp only [List.getElem?_toArray, List.getElem?_cons_zero, List.getElem?_cons_succ]; rfl) (by kernel_rfl) (by kernel_rfl) (by kernel_rfl) (fun _ _ _ h => h) (Or.inl ⟨by rfl, ?hwa8⟩) hHeld0 ?qwa8
      case hwa8 => (intro w hSw; (try dsimp only at hSw); go_simp <;> with_reducible rfl)
      try simp only [Act.put, List.setIfInBounds_toArray, List.set_cons_zero, List.set_cons_succ]
      refine wpAnyH_take (i := 16) (v := ?vwa9) (by simp only [List.getElem?_toArray, List.getElem?_cons_zero, List.getElem?_cons_succ]; rfl) (by kernel_rfl) (by kernel_rfl) (by kernel_rfl) (fun _ _ _ h => h) (Or.inl ⟨by rfl, ?hwa9⟩) hHeld0 ?qwa9
      case hwa9 => (intro w hSw; (try dsimp only at hSw); go_simp <;> with_reducible rfl)
      try simp only [Act.put, List.setIfInBounds_toArray, List.set_cons_zero, List.set_cons_succ]
      refine wpAnyH_take (i := 3) (v := ?vwa10) (by simp only [List.getElem?_toArray, List.getElem?_cons_zero, List.getElem?_cons_succ]; rfl) (by kernel_rfl) (by kernel_rfl) (by kernel_rfl) (fun _ _ _ h => h) (Or.inl ⟨by rfl, ?hwa10⟩) hHeld0 ?qwa10
      case hwa10 => (intro w hSw; (try dsimp only at hSw); go_simp <;> with_reducible rfl)
      try simp only [Act.put, List.setIfInBounds_toArray, List.set_cons_zero, List.set_cons_succ]
      refine wpAnyH_take (i := 6) (v := ?vwa11) (by simp only [List.getElem?_toArray, List.getElem?_cons_zero, List.getElem?_cons_succ]; rfl) (by kernel_rfl) (by kernel_rfl) (by kernel_rfl) (fun _ _ _ h => h) (Or.inl ⟨by rfl, ?hwa11⟩) hHeld0 ?qwa11
      case hwa11 => (intro w hSw; (try dsimp only at hSw); go_simp <;> with_reducible rfl)
      try simp only [Act.put, List.setIfInBounds_toArray, List.set_cons_zero, List.set_cons_succ]
      refine wpAnyH_take (i := 7) (v := ?vwa12) (by simp only [List.getElem?_toArray, List.getElem?_cons_zero, List.getElem?_cons_succ]; rfl) (by kernel_rfl) (by kernel_rfl) (by kernel_rfl) (fun _ _ _ h => h) (Or.inl ⟨by rfl, ?hwa12⟩) hHeld0 ?qwa12
      case hwa12 => (intro w hSw; (try dsimp only at hSw); go_simp <;> with_reducible rfl)
      try simp only [Act.put, List.setIfInBounds_toArray, List.set_cons_zero, List.set_cons_succ]
      refine wpAnyH_take (i := 8) (v := ?vwa13) (by simp only [List.getElem?_toArray, List.getElem?_cons_zero, List.getElem?_cons_succ]; rfl) (by kernel_rfl) (by kernel_rfl) (by kernel_rfl) (fun _ _ _ h => h) (Or.inl ⟨by rfl, ?hwa13⟩) hHeld0 ?qwa13
      case hwa13 => (intro w hSw; (try dsimp only at hSw); go_simp <;> with_reducible rfl)
      try simp only [Act.put, List.setIfInBounds_toArray, List.set_cons_zero, List.set_cons_succ]
      refine wpAnyH_take (i := 11) (v := ?vwa14) (by simp only [List.getElem?_toArray, List.getElem?_cons_zero, List.getElem?_cons_succ]; rfl) (by kernel_rfl) (by kernel_rfl) (by kernel_rfl) (fun _ _ _ h => h) (Or.inl ⟨by rfl, ?hwa14⟩) hHeld0 ?qwa14
      case hwa14 => (intro w hSw; (try dsimp only at hSw); go_simp <;> with_reducible rfl)
      try simp only [Act.put, List.setIfInBounds_toArray, List.set_cons_zero, List.set_cons_succ]
      refine wpAnyH_take (i := 12) (v := ?vwa15) (by simp only [List.getElem?_toArray, List.getElem?_cons_zero, List.getElem?_cons_succ]; rfl) (by kernel_rfl) (by kernel_rfl) (by kernel_rfl) (fun _ _ _ h => h) (Or.inl ⟨by rfl, ?hwa15⟩) hHeld0 ?qwa15
      case hwa15 => (intro w hSw; (try dsimp only at hSw); go_simp <;> with_reducible rfl)
      try simp only [Act.put, List.setIfInBounds_toArray, List.set_cons_zero, List.set_cons_succ]
      refine wpAnyH_ready (rs := [13]) (by kernel_rfl) (by simp) ?_
      refine AllReadyH.cons (by simp only [List.getElem?_toArray, List.getElem?_cons_zero, List.getElem?_cons_succ]; rfl) (fun K hK => ?_) AllReadyH.nil
      go_simp
      obtain ⟨w3, hw3⟩ : ∃ z, z = (w2.alloc (.cells #[.int .u8 (IntKind.u8.wrap (m : Int)), .int .u8 (IntKind.u8.wrap ((x2.length : Int) / 256)), .int .u8 (IntKind.u8.wrap (x2.length : Int))] 5)).drew := ⟨_, rfl⟩
      rw [← hw3]
      have hB3 : Below w2.drew.heap.size w2.drew w3 := by rw [hw3]; exact (Below.refl w2.drew.heap.size w2.drew).alloc (Nat.le_refl _) _
      have hr3 : ReadsOf b8 0 w3 (some ⟨w2.heap.size, 0, none⟩) 3 (ceHead (x1, x2)) := by
        have h1 : w3.heap[w2.heap.size]? = some (.cells (encs b8 (ceHead (x1, x2))).toArray 5 (0, 0)) := by rw [← HHC.out, hw3]; exact heap_alloc_new w2 _
        exact bytes_at (ceHead (x1, x2)) h1 (show 3 ≤ 9223372036854775807 by decide)
      have HR3 := Lib.hid hr3
      have HB3 := Lib.hid (HB2.out.trans (hB3.mono HB2.out.size))
      have HU3 := Lib.hid (pw_own_below HU2.out hB3)
      have HX3 := Lib.hid ((Keep.of_below hB3 (fun _ => False)).blk HBOX.out (fun h => h))
      clear hw3 hB3 hr3 HU2 HBOX
      generalize w2.heap.size = g3 at *
      refine hK.out _ _ ?swa16 (fun hHeld1 => ?qwa16)
      case swa16 => (try dsimp only); exact ⟨blk_cell HX3.out 0, blk_cell HX3.out 1⟩
      clear hK K
      try simp only [Act.put, List.setIfInBounds_toArray, List.set_cons_zero, List.set_cons_succ]
      refine wpAnyH_ready (rs := [14]) (by kernel_rfl) (by simp) ?_
      refine AllReadyH.cons (by simp only [List.getElem?_toArray, List.getElem?_cons_zero, List.getElem?_cons_succ]; rfl) (fun K hK => ?_) AllReadyH.nil
      rw [if_pos (by rfl)]
      refine append_wp b8 0 w.heap.size _ _ 32 5 (.int .u8 0) 1 rfl Tryd.underlying32 Tryd.info5 rfl (by decide) b8_one (.slice Au dn.length cu) dn (ceHead (x1, x2)) (some ⟨g3, 0, none⟩) 3 3 rfl rfl HU3.out HR3.out HB3.out.size (by have := HWL.out; omega) ?_
      intro v4 w4 hown hg hat
      have hk4 : Keep (fun k => (Value.slice Au dn.length cu).ownBlock = some k) w3 w4 := Keep.of_grown hg (fun k hk => hk)
      obtain ⟨A4, c4, rfl⟩ := own_slice hown
      obtain ⟨d2, hd2⟩ : ∃ d2, d2 = dn ++ ceHead (x1, x2) := ⟨_, rfl⟩
      have hl2 : d2.length ≤ dn.length + 3 := by rw [hd2, List.length_append]; exact Nat.le_refl _
      rw [← hd2] at hown hat
      rw [← hd2]
      have HSN2 := Lib.hid (show writeOf (l.take (k + 1)) = d2 ++ x2 from by rw [HSN.out, hd2])
      have HU4 := Lib.hid hown
      have HB4 := Lib.hid (HB3.out.trans (hk4.to_below HB3.out.size (fun j hj => own_base HU3.out j hj)))
      have HX4 := Lib.hid (hk4.blk HX3.out (fun e => by have := HNE.out _ e; omega))
      have HNE4 := Lib.hid (fun j (hj : (Value.slice A4 d2.length c4).ownBlock = some j) => (show j ≠ pc from fun e => by
        subst e
        rcases hat with h | ⟨b', h, hle⟩
        · have := HNE.out _ (h ▸ hj); omega
        · rw [h] at hj; injection hj with hj; have := blk_lt HX3.out; omega))
      clear hown hg hat hk4 hd2
      refine hK.out _ _ ?swa17 (fun hHeld2 => ?qwa17)
      case swa17 => (try dsimp only); exact ⟨blk_cell HX4.out 0, blk_cell HX4.out 1⟩
      clear hK K
      try simp only [Act.put, List.setIfInBounds_toArray, List.set_cons_zero, List.set_cons_succ]
      refine wpAnyH_ready (rs := [17]) (by kernel_rfl) (by simp) ?_
      refine AllReadyH.cons (by simp only [List.getElem?_toArray, List.getElem?_cons_zero, List.getElem?_cons_succ]; rfl) (fun K hK => ?_) AllReadyH.nil
      rw [if_pos (by rfl)]
      refine append_wp b8 0 w.heap.size _ _ 32 5 (.int .u8 0) 1 rfl Tryd.underlying32 Tryd.info5 rfl (by decide) b8_one (.slice A4 d2.length c4) d2 x2 Bx x2.length cx rfl rfl HU4.out (HBX.out.below HB4.out) HB4.out.size (by have := HWL.out; omega) ?_
      intro v5 w5 hown hg hat
      have hk5 : Keep (fun k => (Value.slice A4 d2.length c4).ownBlock = some k) w4 w5 := Keep.of_grown hg (fun k hk => hk)
      obtain ⟨A5, c5, rfl⟩ := own_slice hown
      rw [← HSN2.out] at hown
      rw [← HSN2.out]
      have HU5 := Lib.hid hown
      have HB5 := Lib.hid (HB4.out.trans (hk5.to_below HB4.out.size (fun j hj => own_base HU4.out j hj)))
      have HX5 := Lib.hid (hk5.blk HX4.out (fun e => HNE4.out _ e rfl))
      clear hown hg hat hk5
      refine hK.out _ _ ?swa18 (fun hHeld3 => ?qwa18)
      case swa18 => (try dsimp only); exact ⟨blk_cell HX5.out 0, blk_cell HX5.out 1⟩
      clear hK K
      try simp only [Act.put, List.setIfInBounds_toArray, List.set_cons_zero, List.set_cons_succ]
      refine wpAnyH_take (i := 18) (v := ?vwa19) (by simp only [List.getElem?_toArray, List.getElem?_cons_zero, List.getElem?_cons_succ]; rfl) (by kernel_rfl) (by kernel_rfl) (by kernel_rfl) (fun _ _ _ h => h) (Or.inl ⟨by rfl, ?hwa19⟩) hHeld3 ?qwa19
      case hwa19 => (intro w hSw; (try dsimp only at hSw); go_simp <;> with_reducible rfl)
      try simp only [Act.put, List.setIfInBounds_toArray, List.set_cons_zero, List.set_cons_succ]
      refine wpAnyH_done (by kernel_rfl) ?_ _
      refine NoPanic.normal ?_
      go_wp2_with fail
      exact ⟨⟨k + 1, by omega, by simp, HU5, HB5⟩, by simp [intOf]; omega⟩
    · have hlt2 : ¬ ((k : Int) < (l.length : Int)) := by omega
      obtain rfl : k = l.length := by omega
      rw [List.take_length] at HU
      obtain ⟨Au, cu, rfl⟩ := own_slice HU.out
      go_wp2_with fail
      go_ret
      exact ⟨_, rfl, HU.out, HB.out⟩
end
/- Cells in memory: their map, their log. -/
section
open Go.RowKit Go.Proofs.YtfnnjgbldojigaaDoorW.PrintWords Go.Proofs.Mine Go.Proofs.Mine.Crc

/-- What stands under x. -/
def gets (f : Int → Option Hd) (x : Int) : List UInt8 := ((f x).map (·.l)).getD []
def putM (m : Int → List UInt8) (x : Int) (l : List UInt8) : Int → List UInt8 := fun y => if y = x then l else m y
def putAll (m : Int → List UInt8) (l : List Ce) : Int → List UInt8 := l.foldl (fun m c => putM m c.1 c.2) m
def noM : Int → List UInt8 := fun _ => []
theorem putAll_snoc (m : Int → List UInt8) (l : List Ce) (x : Ce) : putAll m (l ++ [x]) = putM (putAll m l) x.1 x.2 := by simp [putAll]
theorem putAll_nil (m : Int → List UInt8) : putAll m [] = m := rfl
theorem putAll_app (m : Int → List UInt8) (l k : List Ce) : putAll m (l ++ k) = putAll (putAll m l) k := by simp [putAll]
theorem putAll_take (m : Int → List UInt8) {l : List Ce} {k : Nat} {x : Ce} (hx : l[k]? = some x) : putAll m (l.take (k + 1)) = putM (putAll m (l.take k)) x.1 x.2 := by rw [List.take_add_one, hx]; exact putAll_snoc _ _ _
/-- A map's rows: each lies in a block of F's that is not the map's. -/
structure Vals (w : World) (F : Nat → Prop) (B : Nat) (f : Int → Option Hd) : Prop where
  map : MapI Hd.v w B f
  ins : ∀ x v, f x = some v → Bytes w v.A v.l ∧ v.l.length ≤ v.c ∧ v.l.length ≤ 65535 ∧ (0 < v.l.length → ∀ a, v.A = some a → F a.block ∧ a.block ≠ B)
def CelAt (w : World) (base : Nat) (F : Nat → Prop) (bc bl : Nat) (m : Int → List UInt8) : Prop :=
  F bc ∧ (∀ k, F k → base ≤ k ∧ k < w.heap.size) ∧ ∃ B f, w.heap[bc]? = some (.cells #[.pointer (some ⟨bl, 0, none⟩), .map (some B)] 95 (0, 0)) ∧ F B ∧ Vals w F B f ∧ ∀ x, gets f x = m x
section
variable {w0 w w1 w' : World} {base bt bl bc : Nat} {s s' : TS} {ls ls' : LS} {m m' : Int → List UInt8} {F F' G FC FW : Nat → Prop}
theorem bytes_away {A : Option Addr} {l : List UInt8} (h : Bytes w A l) (k : Keep G w w1) (hA : 0 < l.length → ∀ a, A = some a → ¬ G a.block) : Bytes w1 A l := bytes_keep h k hA
theorem Vals.keep {B : Nat} {f : Int → Option Hd} (h : Vals w F B f) (k : Keep G w w1) (hg : ∀ j, F j → ¬ G j) (hB : F B) : Vals w1 F B f :=
  ⟨h.map.move (k.block B h.map.lt (hg B hB)), fun x v hx => ⟨bytes_away (h.ins x v hx).1 k (fun hp a ha => hg _ ((h.ins x v hx).2.2.2 hp a ha).1), (h.ins x v hx).2⟩⟩
theorem CelAt.keep (h : CelAt w base F bc bl m) (k : Keep G w w1) (hg : ∀ j, F j → ¬ G j) : CelAt w1 base F bc bl m := by
  obtain ⟨h1, h2, B, f, h3, h4, h5, h6⟩ := h
  exact ⟨h1, fun j hj => ⟨(h2 j hj).1, Nat.lt_of_lt_of_le (h2 j hj).2 k.size⟩, B, f, k.blk h3 (hg bc h1), h4, h5.keep k hg h4, h6⟩
theorem CelAt.below (h : CelAt w base F bc bl m) (hB : Below w.heap.size w w1) : CelAt w1 base F bc bl m := h.keep (Keep.of_below hB (fun _ => False)) (fun _ _ h => h)
theorem CelAt.box (h : CelAt w base F bc bl m) : ∃ B, w.heap[bc]? = some (.cells #[.pointer (some ⟨bl, 0, none⟩), .map (some B)] 95 (0, 0)) ∧ F B := by
  obtain ⟨h1, h2, B, f, h3, h4, h5, h6⟩ := h
  exact ⟨B, h3, h4⟩
theorem cell_map {a : Addr} {es : Array MapEntry} {c : Nat} (h : w.heap[a.block]? = some (.map es c)) : w.cell? a = none := by
  unfold World.cell?
  rw [h]
/-- A row set under x. -/
theorem CelAt.update (h : CelAt w base F bc bl m) (x : Int) (v : Hd) (hv : Bytes w v.A v.l) (hc : v.l.length ≤ v.c) (h6 : v.l.length ≤ 65535) (hb : 0 < v.l.length → ∀ a, v.A = some a → base ≤ a.block) :
    ∃ B w1, w.heap[bc]? = some (.cells #[.pointer (some ⟨bl, 0, none⟩), .map (some B)] 95 (0, 0)) ∧ F B ∧ (Instr.mapUpdate 93 (.map (some B)) (.int .i64 x) v.v).run Tryd.prog w = .ok () w1 ∧
      CelAt w1 base (fun k => F k ∨ (0 < v.l.length ∧ ∃ a, v.A = some a ∧ k = a.block)) bc bl (putM m x v.l) ∧ Keep F w w1 ∧ (∀ a u, w.cell? a = some u → w1.cell? a = some u) := by
  obtain ⟨h1, h2, B, f, h3, h4, h5, h6'⟩ := h
  obtain ⟨w1, hr, hm, hk, hs⟩ := h5.map.update Tryd.underlying93 Tryd.underlying3 x v
  have hnm : ∀ (u : Hd), Bytes w u.A u.l → 0 < u.l.length → ∀ a, u.A = some a → a.block ≠ B := by
    intro u hu hp a ha e
    obtain ⟨es, c, hes, _⟩ := h5.map
    obtain ⟨ad, ha', hcc⟩ := hu.2.2 hp
    rw [ha] at ha'
    injection ha' with ha'
    subst ha'
    have := hcc 0 hp
    rw [cell_map (a := a.add 0) (by rw [add_block, e]; exact hes)] at this
    cases this
  have hbB : bc ≠ B := by
    intro e
    obtain ⟨es, c, hes, _⟩ := h5.map
    rw [e, hes] at h3
    cases h3
  refine ⟨B, w1, h3, h4, hr, ⟨.inl h1, fun k hk' => ?_, B, updI f x v, hk.blk h3 hbB, .inl h4, ⟨hm, fun y u hu => ?_⟩, fun y => ?_⟩, hk.mono (fun k e _ => e ▸ h4), fun a u hu => hk.cell hu (fun e => by
    obtain ⟨es, c, hes, _⟩ := h5.map
    have h9 := cell_map (a := a) (w := w) (by rw [e]; exact hes)
    rw [hu] at h9
    cases h9)⟩
  · rcases hk' with hk' | ⟨hp, a, ha, rfl⟩
    · exact ⟨(h2 k hk').1, by rw [hs]; exact (h2 k hk').2⟩
    · exact ⟨hb hp a ha, by rw [hs]; exact reads_lt hv hp a ha⟩
  · unfold updI at hu
    split at hu
    · injection hu with hu
      subst hu
      exact ⟨bytes_away hv hk (fun hp a ha e => hnm v hv hp a ha e), hc, h6, fun hp a ha => ⟨.inr ⟨hp, a, ha, rfl⟩, hnm v hv hp a ha⟩⟩
    · have hu' := h5.ins y u hu
      exact ⟨bytes_away hu'.1 hk (fun hp a ha e => hnm u hu'.1 hp a ha e), hu'.2.1, hu'.2.2.1, fun hp a ha => ⟨.inl (hu'.2.2.2 hp a ha).1, (hu'.2.2.2 hp a ha).2⟩⟩
  · unfold gets putM updI
    by_cases e : y = x
    · rw [if_pos e, if_pos e]; rfl
    · rw [if_neg e, if_neg e]; exact h6' y
/-- What a call on cells alone leaves. -/
def CelTo (base : Nat) (bc bl : Nat) (m : Int → List UInt8) (w : World) (F : Nat → Prop) (w' : World) : Prop :=
  ∃ F', CelAt w' base F' bc bl m ∧ (∀ k, F' k → F k ∨ w.heap.size ≤ k) ∧ Keep F w w'
/-- Cells and their log, behind w0. -/
structure CelIn (w0 : World) (bt bl bc : Nat) (s : TS) (ls : LS) (m : Int → List UInt8) (w : World) (F : Nat → Prop) : Prop where
  lt : ∀ k, F k → w0.heap.size ≤ k ∧ k < w.heap.size
  parts : ∃ FW FC : Nat → Prop, (∀ k, FW k → F k) ∧ (∀ k, FC k → F k) ∧ (∀ k, FC k → ¬ FW k) ∧ WalIn w0 bt bl s ls w FW ∧ CelAt w w0.heap.size FC bc bl m
def CelOut (w0 : World) (bt bl bc : Nat) (s : TS) (ls : LS) (m : Int → List UInt8) (w : World) (F : Nat → Prop) (w' : World) : Prop :=
  ∃ F', CelIn w0 bt bl bc s ls m w' F' ∧ (∀ k, F' k → F k ∨ w.heap.size ≤ k) ∧ Keep F w w'
theorem CelIn.below (h : CelIn w0 bt bl bc s ls m w F) : Below w0.heap.size w0 w := by
  obtain ⟨FW, FC, _, _, _, h4, _⟩ := h.parts
  exact h4.below
theorem CelIn.laid0 (h : CelIn w0 bt bl bc s ls m w F) : Laid w0 := by
  obtain ⟨FW, FC, _, _, _, h4, _⟩ := h.parts
  exact h4.laid
theorem CelIn.lw (h : CelIn w0 bt bl bc s ls m w F) : Laid w := h.laid0.below h.below
theorem CelIn.to (h : CelIn w0 bt bl bc s ls m w F) (hB : Below w.heap.size w w1) : CelIn w0 bt bl bc s ls m w1 F := by
  obtain ⟨FW, FC, h1, h2, h3, h4, h5⟩ := h.parts
  exact ⟨fun k hk => ⟨(h.lt k hk).1, Nat.lt_of_lt_of_le (h.lt k hk).2 hB.size⟩, FW, FC, h1, h2, h3, h4.to hB, h5.below hB⟩
theorem CelIn.keep (h : CelIn w0 bt bl bc s ls m w F) (k : Keep G w w1) (hg : ∀ j, F j → ¬ G j) (hG : ∀ j, G j → w0.heap.size ≤ j) : CelIn w0 bt bl bc s ls m w1 F := by
  obtain ⟨FW, FC, h1, h2, h3, h4, h5⟩ := h.parts
  exact ⟨fun j hj => ⟨(h.lt j hj).1, Nat.lt_of_lt_of_le (h.lt j hj).2 k.size⟩, FW, FC, h1, h2, h3, h4.keep k (fun j hj => hg j (h1 j hj)) hG, h5.keep k (fun j hj => hg j (h2 j hj))⟩
theorem CelOut.refl (h : CelIn w0 bt bl bc s ls m w F) : CelOut w0 bt bl bc s ls m w F w := ⟨F, h, fun _ h => .inl h, Keep.refl _ _⟩
theorem CelOut.to (h : CelOut w0 bt bl bc s ls m w F w') (hB : Below w'.heap.size w' w1) : CelOut w0 bt bl bc s ls m w F w1 := by
  obtain ⟨F', h1, h2, h3⟩ := h
  exact ⟨F', h1.to hB, h2, h3.trans (Keep.of_below hB (fun _ => False)) (fun _ h => h.elim)⟩
theorem CelOut.from {W : World} (hB : Below w.heap.size w W) (h : CelOut w0 bt bl bc s ls m W F w') : CelOut w0 bt bl bc s ls m w F w' := by
  obtain ⟨F', h1, h2, h3⟩ := h
  exact ⟨F', h1, fun k hk => (h2 k hk).imp_right (fun e => Nat.le_trans hB.size e), (Keep.of_below hB F).trans h3 (fun k hk => .inl hk)⟩
theorem CelOut.after {W : World} {F1 : Nat → Prop} (hF : ∀ k, F1 k → F k ∨ w.heap.size ≤ k) (hK : Keep F w W) (h : CelOut w0 bt bl bc s ls m W F1 w') : CelOut w0 bt bl bc s ls m w F w' := by
  obtain ⟨F', h1, h2, h3⟩ := h
  refine ⟨F', h1, fun k hk => ?_, hK.trans h3 hF⟩
  rcases h2 k hk with h | h
  · exact hF k h
  · exact .inr (Nat.le_trans hK.size h)
/-- A call of the log's, the map being as it was. -/
theorem CelIn.walled (h : CelIn w0 bt bl bc s ls m w F) (ht : ∀ FW, WalIn w0 bt bl s ls w FW → WalOut w0 bt bl s' ls' w FW w') : CelOut w0 bt bl bc s' ls' m w F w' := by
  obtain ⟨FW, FC, h1, h2, h3, h4, h5⟩ := h.parts
  obtain ⟨FW', g1, g2, g3⟩ := ht FW h4
  refine ⟨fun k => F k ∨ FW' k, ⟨fun k hk => ?_, FW', FC, fun k hk => .inr hk, fun k hk => .inl (h2 k hk), fun k hk hf => ?_, g1, h5.keep g3 h3⟩, fun k hk => ?_, g3.mono (fun k hk _ => h1 k hk)⟩
  · rcases hk with hk | hk
    · exact ⟨(h.lt k hk).1, Nat.lt_of_lt_of_le (h.lt k hk).2 g3.size⟩
    · exact g1.lt k hk
  · rcases g2 k hf with e | e
    · exact h3 k hk e
    · have := (h5.2.1 k hk).2; omega
  · rcases hk with hk | hk
    · exact .inl hk
    · exact (g2 k hk).imp_left (h1 k)
/-- A call on the cells' map, the log being as it was. -/
theorem CelIn.celled (h : CelIn w0 bt bl bc s ls m w F) (ht : ∀ FC, CelAt w w0.heap.size FC bc bl m → CelTo w0.heap.size bc bl m' w FC w') : CelOut w0 bt bl bc s ls m' w F w' := by
  obtain ⟨FW, FC, h1, h2, h3, h4, h5⟩ := h.parts
  obtain ⟨FC', g1, g2, g3⟩ := ht FC h5
  refine ⟨fun k => F k ∨ FC' k, ⟨fun k hk => ?_, FW, FC', fun k hk => .inl (h1 k hk), fun k hk => .inr hk, fun k hk hf => ?_, h4.keep g3 (fun j hj hc => h3 j hc hj) (fun j hj => (h5.2.1 j hj).1), g1⟩, fun k hk => ?_, g3.mono (fun k hk _ => h2 k hk)⟩
  · rcases hk with hk | hk
    · exact ⟨(h.lt k hk).1, Nat.lt_of_lt_of_le (h.lt k hk).2 g3.size⟩
    · exact g1.2.1 k hk
  · rcases g2 k hk with e | e
    · exact h3 k e hf
    · have := (h4.lt k hf).2; omega
  · rcases hk with hk | hk
    · exact .inl hk
    · exact (g2 k hk).imp_left (h2 k)
theorem CelTo.refl (h : CelAt w base F bc bl m) : CelTo base bc bl m w F w := ⟨F, h, fun _ h => .inl h, Keep.refl _ _⟩
theorem CelTo.to (h : CelTo base bc bl m w F w') (hB : Below w'.heap.size w' w1) : CelTo base bc bl m w F w1 := by
  obtain ⟨F', h1, h2, h3⟩ := h
  exact ⟨F', h1.below hB, h2, h3.trans (Keep.of_below hB (fun _ => False)) (fun _ h => h.elim)⟩
theorem CelTo.after {W : World} {F1 : Nat → Prop} (hF : ∀ k, F1 k → F k ∨ w.heap.size ≤ k) (hK : Keep F w W) (h : CelTo base bc bl m W F1 w') : CelTo base bc bl m w F w' := by
  obtain ⟨F', h1, h2, h3⟩ := h
  refine ⟨F', h1, fun k hk => ?_, hK.trans h3 hF⟩
  rcases h2 k hk with h | h
  · exact hF k h
  · exact .inr (Nat.le_trans hK.size h)
theorem CelTo.from {W : World} (hB : Below w.heap.size w W) (h : CelTo base bc bl m W F w') : CelTo base bc bl m w F w' := CelTo.after (fun _ h => .inl h) (Keep.of_below hB F) h
/-- A new row under x: what the map update leaves. -/
theorem CelAt.put {W : World} (h : CelAt W base F bc bl m) (x : Int) (v : Hd) (hv : Bytes W v.A v.l) (hc : v.l.length ≤ v.c) (h6 : v.l.length ≤ 65535) (hn : 0 < v.l.length → ∀ a, v.A = some a → w.heap.size ≤ a.block) (hbw : base ≤ w.heap.size) (hF : ∀ k, F k → G k ∨ w.heap.size ≤ k) (hK : Keep G w W) :
    ∃ B w1, W.heap[bc]? = some (.cells #[.pointer (some ⟨bl, 0, none⟩), .map (some B)] 95 (0, 0)) ∧ (Instr.mapUpdate 93 (.map (some B)) (.int .i64 x) v.v).run Tryd.prog W = .ok () w1 ∧ CelTo base bc bl (putM m x v.l) w G w1 ∧ (∀ a u, W.cell? a = some u → w1.cell? a = some u) := by
  obtain ⟨B, w1, h1, _, h2, h3, h4, h5⟩ := h.update x v hv hc h6 (fun hp a ha => Nat.le_trans hbw (hn hp a ha))
  refine ⟨B, w1, h1, h2, ⟨_, h3, fun k hk => ?_, hK.trans h4 hF⟩, h5⟩
  rcases hk with hk | ⟨hp, a, ha, rfl⟩
  · exact hF k hk
  · exact .inr (hn hp a ha)
end
end
/- The cells of a record. -/
section
open Go.RowKit Go.Proofs.YtfnnjgbldojigaaDoorW.PrintWords Go.Proofs.Mine Go.Proofs.Mine.Crc

theorem wpAnyH_mono {P : Program} {md : Region.Mode} {ops : Array Oper} {Q : Exit → Act → World → Prop} {S S' : World → Prop} (h : ∀ w, S' w → S w) : ∀ {fuel : Nat} {listed : Array Bool} {a : Act} {w : World}, wpAnyH P md ops Q S' fuel listed a w → wpAnyH P md ops Q S fuel listed a w
  | 0, _, _, _, k => k
  | fuel + 1, _, _, _, k => ⟨k.1, fun i hi => wpOp_mono (fun a' w' h' => ⟨h w' h'.1, wpAnyH_mono h h'.2⟩) (k.2 i hi)⟩
def lenV : Value → Nat | .slice _ n _ => n | _ => 0
def cutA (A : Option Addr) (c k : Nat) : Option Addr := if c = k then A else A.map (·.add k)
theorem cut_l (A : Option Addr) (L c k : Nat) (h : k ≤ L) (hc : L ≤ c) (W : World) : (Instr.slice 32 (.slice A L c) (some (.int .i64 (k : Int))) none none).run Tryd.prog W = .ok (.slice (cutA A c k) (L - k) (c - k)) W := by
  obtain ⟨i5, hi5, hs5⟩ := Tryd.info5'
  have hu : Tryd.prog.underlying 32 = some (.slice (Tryd.prog.elem 32)) := by simp [Program.elem, Tryd.underlying32]
  have hel : Tryd.prog.elem 32 = 5 := by simp [Program.elem, Tryd.underlying32]
  rw [run_slice_l W 32 A L c hu .i64 (k : Int) (Int.natCast_nonneg _) (by omega), hel]
  simp [sizeOf, typeInfo, hi5, hs5, sliced, Result.andThen, cutA]
theorem cut_lh (A : Option Addr) (L c k m : Nat) (h : k ≤ m) (hc : m ≤ c) (W : World) : (Instr.slice 32 (.slice A L c) (some (.int .i64 (k : Int))) (some (.int .i64 (m : Int))) none).run Tryd.prog W = .ok (.slice (cutA A c k) (m - k) (c - k)) W := by
  obtain ⟨i5, hi5, hs5⟩ := Tryd.info5'
  have hu : Tryd.prog.underlying 32 = some (.slice (Tryd.prog.elem 32)) := by simp [Program.elem, Tryd.underlying32]
  have hel : Tryd.prog.elem 32 = 5 := by simp [Program.elem, Tryd.underlying32]
  rw [run_slice_lh W 32 A L c hu .i64 .i64 (k : Int) (m : Int) (Int.natCast_nonneg _) (by omega) (by omega), hel]
  simp [sizeOf, typeInfo, hi5, hs5, sliced, Result.andThen, cutA]
theorem i64_or8 (a b : Nat) (ha : a < 256) (hb : b < 256) : bits .or .i64 ((a : Int) * 256) (b : Int) = ((a * 256 + b : Nat) : Int) := by
  rw [bits_join .i64 62 (by decide) (fun n h0 h1 => IntWalk.i64_in _ (by omega)) 8 _ _ (by omega) (by omega) (by omega) (by omega) (by omega) (by omega)]
  omega
theorem head_len (x : Ce) : (ceHead x ++ x.2).length = 3 + x.2.length := by simp [ceHead]; omega
theorem head_drop (x : Ce) (rest : List UInt8) : (ceHead x ++ x.2 ++ rest).drop (3 + x.2.length) = rest := by
  rw [← head_len x]; exact List.drop_left
theorem head_mid (x : Ce) (rest : List UInt8) : ((ceHead x ++ x.2 ++ rest).take (3 + x.2.length)).drop 3 = x.2 := by
  rw [← head_len x, List.take_left]; rfl
theorem own_reads8 {w : World} {base n : Nat} {A : Option Addr} {c : Nat} {l : List UInt8} (h : w.ownsRow base 5 1 (.slice A n c) l.length (encs b8 l)) : Bytes w A l ∧ l.length ≤ c := by
  obtain ⟨A', c', e, hr⟩ := own_reads_of (d := (0 : UInt8)) h
  injection e with e1 e2 e3
  subst e1
  refine ⟨hr, ?_⟩
  rcases h.2 with ⟨e, hn⟩ | ⟨g, cap, cur, e, _, _, hnc, _⟩
  · omega
  · injection e with e1 e2 e3
    omega
/-- A record's first cell. -/
theorem rec_first {W : World} {A : Option Addr} {c : Nat} {d : List UInt8} {x : Ce} {rest : List UInt8} (hd : d = ceHead x ++ x.2 ++ rest) (hc : d.length ≤ c) (hx0 : 0 ≤ x.1) (hx8 : x.1 < 256) (hxl : x.2.length ≤ 65535) (h : Bytes W A d) :
    ∃ (ad : Addr) (xh xl x0 : Nat), A = some ad ∧ W.cell? ad = some (.int .u8 (x0 : Int)) ∧ W.cell? ⟨ad.block, ad.off + 1, none⟩ = some (.int .u8 (xh : Int)) ∧ W.cell? ⟨ad.block, ad.off + 2, none⟩ = some (.int .u8 (xl : Int)) ∧ xh < 256 ∧ xl < 256 ∧ x0 < 256 ∧ x.1 = (x0 : Int) ∧ xh * 256 + xl = x.2.length ∧
      Bytes W (cutA A c 3) x.2 ∧ Bytes W (cutA A c (3 + x.2.length)) rest := by
  have hl3 : d.length = 3 + x.2.length + rest.length := by rw [hd]; simp [ceHead]; omega
  obtain ⟨ad, rfl, hcell⟩ := h.2.2 (by omega)
  have e0 : d.getD 0 0 = UInt8.ofNat x.1.toNat := by rw [hd]; rfl
  have e1 : d.getD 1 0 = UInt8.ofNat (x.2.length / 256) := by rw [hd]; rfl
  have e2 : d.getD 2 0 = UInt8.ofNat x.2.length := by rw [hd]; rfl
  have h0 : W.cell? ad = some (b8 (d.getD 0 0)) := by simpa [Addr.add] using hcell 0 (by omega)
  have h1 : W.cell? ⟨ad.block, ad.off + 1, none⟩ = some (b8 (d.getD 1 0)) := by simpa [Addr.add] using hcell 1 (by omega)
  have h2 : W.cell? ⟨ad.block, ad.off + 2, none⟩ = some (b8 (d.getD 2 0)) := by simpa [Addr.add] using hcell 2 (by omega)
  have t1 : (UInt8.ofNat (x.2.length / 256)).toNat = x.2.length / 256 := by rw [UInt8.toNat_ofNat']; omega
  have t2 : (UInt8.ofNat x.2.length).toNat = x.2.length % 256 := by rw [UInt8.toNat_ofNat']
  have t0 : (UInt8.ofNat x.1.toNat).toNat = x.1.toNat := by rw [UInt8.toNat_ofNat']; omega
  refine ⟨ad, x.2.length / 256, x.2.length % 256, x.1.toNat, rfl, by rw [h0, e0]; simp only [b8, t0], by rw [h1, e1]; simp only [b8, t1], by rw [h2, e2]; simp only [b8, t2], by omega, by omega, by omega, by omega, by omega, ?_, ?_⟩
  · have := (h.take_ (3 + x.2.length) (by omega)).drop_ (c := c) 3 (by omega) (by omega)
    have e : (d.take (3 + x.2.length)).drop 3 = x.2 := by rw [hd]; exact head_mid x rest
    rw [e, show 3 + x.2.length - 3 = x.2.length from by omega] at this
    exact this
  · have := h.drop_ (c := c) (3 + x.2.length) (by omega) (by omega)
    have e : d.drop (3 + x.2.length) = rest := by rw [hd]; exact head_drop x rest
    rw [e, show d.length - (3 + x.2.length) = rest.length from by omega] at this
    exact this
theorem writeOf_drop {l : List Ce} {k : Nat} {x : Ce} (hx : l[k]? = some x) : writeOf (l.drop k) = ceHead x ++ x.2 ++ writeOf (l.drop (k + 1)) := by
  obtain ⟨hl, e⟩ := List.getElem?_eq_some_iff.1 hx
  rw [List.drop_eq_getElem_cons hl, e]
  simp [writeOf, ceW]
set_option maxRecDepth 100000 in
set_option maxHeartbeats 2000000 in
theorem rd_any (A0 : Option Addr) (c0 : Nat) (l : List Ce) (bl bc base : Nat) (m : Int → List UInt8) (F : Nat → Prop) (w : World) (h : Bytes w A0 (writeOf l)) (hcap : (writeOf l).length ≤ c0) (hok : ∀ x ∈ l, 0 ≤ x.1 ∧ x.1 < 256 ∧ x.2.length ≤ 65535) (hc : CelAt w base F bc bl m) (hbw : base ≤ w.heap.size) (hoff : Off F A0 (writeOf l).length) :
    Calls Tryd.prog 52 #[.pointer (some ⟨bc, 0, none⟩), .slice A0 (writeOf l).length c0] w fun r w' => r = .returned (.tuple #[]) ∧ CelTo base bc bl (putAll m l) w F w' := by
  obtain ⟨d0, hd0⟩ : ∃ d0, d0 = writeOf l := ⟨_, rfl⟩
  rw [← hd0] at h hcap hoff ⊢
  have HD0 := Lib.hid hd0
  have H := Lib.hid h
  have HOK := Lib.hid hok
  have HOFF := Lib.hid hoff
  have HC0 := Lib.hid hc
  clear h hok hoff hc hd0
  go_enter Tryd.func52, Tryd.ntmps52
  go_wp2_with fail
  go_loopw [1, 4] (fun u nv wr => ∃ (k : Nat) (Ak : Option Addr) (ck : Nat) (dk : List UInt8), k ≤ l.length ∧ u = .slice Ak dk.length ck ∧ dk.length ≤ ck ∧ RowKit.Hid (dk = writeOf (l.drop k)) ∧ RowKit.Hid (∀ W, Bytes W A0 d0 → Bytes W Ak dk) ∧ RowKit.Hid (CelTo base bc bl (putAll m (l.take k)) w F wr)) (fun u _ _ => lenV u)
  case atStart => exact ⟨0, A0, c0, d0, by omega, rfl, hcap, Lib.hid (by rw [List.drop_zero]; exact HD0.out), Lib.hid (fun _ h => h), Lib.hid (by rw [List.take_zero]; exact CelTo.refl HC0.out)⟩
  case round =>
    obtain ⟨k, Ak, c, d, hk, rfl, hdc, HD, HR, HT⟩ := hrel
    obtain ⟨Fk, hCk, hFk, hKk⟩ := HT.out
    have hb0 : Bytes wr A0 d0 := bytes_away H.out hKk HOFF.out
    have hbk : Bytes wr Ak d := HR.out wr hb0
    have hmx := hbk.2.1
    by_cases hlt : k < l.length
    · obtain ⟨x, hx⟩ : ∃ x, l[k]? = some x := ⟨_, List.getElem?_eq_getElem hlt⟩
      obtain ⟨hx0, hx1, hx2⟩ := HOK.out x (List.mem_of_getElem? hx)
      obtain ⟨rest, hrest⟩ : ∃ rest, rest = writeOf (l.drop (k + 1)) := ⟨_, rfl⟩
      have hd : d = ceHead x ++ x.2 ++ rest := by rw [HD.out, hrest]; exact writeOf_drop hx
      obtain ⟨ad, xh, xl, x0, rfl, h0, h1, h2, hxh, hxl, hx08, hxe, hxn, hbx, hbr⟩ := rec_first hd hdc hx0 hx1 hx2 hbk
      have hdl : d.length = 3 + x.2.length + rest.length := by rw [hd]; simp [ceHead]; omega
      have HR2 := Lib.hid (fun W (hW : Bytes W A0 d0) => show Bytes W (cutA (some ad) c (3 + x.2.length)) rest from by
        have hcl : Bytes W (some ad) d := HR.out W hW
        have := ReadsOf.drop_ (c := c) hcl (3 + x.2.length) (by omega) (by omega)
        have e : d.drop (3 + x.2.length) = rest := by rw [hd]; exact head_drop x rest
        rw [e, show d.length - (3 + x.2.length) = rest.length from by omega] at this
        exact this)
      have HPT := Lib.hid (show putAll m (l.take (k + 1)) = putM (putAll m (l.take k)) (x0 : Int) x.2 from by rw [putAll_take m hx, hxe])
      have HREST := Lib.hid hrest
      obtain ⟨x1, x2⟩ := x
      dsimp only at hx2 hxn hbx hdl HR2 HPT hbr
      obtain ⟨n, hn⟩ : ∃ n, n = x2.length := ⟨_, rfl⟩
      obtain ⟨D, hD⟩ : ∃ D, D = d.length := ⟨_, rfl⟩
      rw [← hD] at hdc hmx ⊢
      have hor : bits .or .i64 ((xh : Int) * 256) (xl : Int) = (n : Int) := by rw [i64_or8 xh xl hxh hxl, hn, hxn]
      have w1 : IntKind.i64.wrap (xh : Int) = (xh : Int) := IntWalk.i64_in _ (by omega)
      have w2 : IntKind.i64.wrap (xl : Int) = (xl : Int) := IntWalk.i64_in _ (by omega)
      have w0' : IntKind.i64.wrap (x0 : Int) = (x0 : Int) := IntWalk.i64_in _ (by omega)
      have w3 : IntKind.i64.wrap ((xh : Int) * 256) = (xh : Int) * 256 := IntWalk.i64_in _ (by omega)
      have w4 : IntKind.i64.wrap (3 + (n : Int)) = 3 + (n : Int) := IntWalk.i64_in _ (by omega)
      have hD3 : (3 : Int) ≤ (D : Int) := by omega
      have hD2 : (2 : Int) < (D : Int) := by omega
      have hD1 : (1 : Int) < (D : Int) := by omega
      have hD0 : (0 : Int) < (D : Int) := by omega
      have hD0' : 0 < D := by omega
      have hDn : ¬ (D : Int) < 3 + (n : Int) := by omega
      have hcutM : ∀ W : World, (Instr.slice 32 (.slice (some ad) D c) (some (.int .i64 3)) (some (.int .i64 (3 + (n : Int)))) none).run Tryd.prog W = .ok (.slice (cutA (some ad) c 3) n (c - 3)) W := fun W => by
        have := cut_lh (some ad) D c 3 (3 + n) (by omega) (by omega) W
        rw [show 3 + n - 3 = n from by omega] at this
        push_cast at this
        exact this
      have hcutR : ∀ W : World, (Instr.slice 32 (.slice (some ad) D c) (some (.int .i64 (3 + (n : Int)))) none none).run Tryd.prog W = .ok (.slice (cutA (some ad) c (3 + n)) rest.length (c - (3 + n))) W := fun W => by
        have := cut_l (some ad) D c (3 + n) (by omega) (by omega) W
        rw [show D - (3 + n) = rest.length from by omega] at this
        push_cast at this
        exact this
      have HX := Lib.hid (show ReadsOf b8 0 wr (cutA (some ad) c 3) n x2 from by rw [hn]; exact hbx)
      have HN := Lib.hid hn
      have hn16 : n ≤ 65535 := by omega
      have hrl : rest.length < D := by omega
      have hrc : rest.length ≤ c - (3 + n) := by omega
      have HC := Lib.hid (show CelTo base bc bl (putAll m (l.take k)) w F wr from HT.out)
      clear hbx hbr hn hD hd hxn hdl hx hbk hb0 hmx hrest HD HR HT hcap
      rw [show x2.length = n from HN.out.symm] at HR2
      obtain ⟨BM, hbox, _⟩ := hCk.box
      have hm : wr.cell? ⟨bc, 1, none⟩ = some (.map (some BM)) := blk_cell hbox 1
      generalize putAll m (l.take k) = mk at *
      have hKk2 : Keep F w wr := hKk
      clear hFk hKk hCk hbox
      go_wp2_with fail
      refine wp_region_noPanic ?_
      refine wp_region_held_drew (S := (fun w' => w'.cell? ⟨ad.block, ad.off + 1, none⟩ = some (.int .u8 (xh : Int)) ∧ w'.cell? ⟨ad.block, ad.off + 2, none⟩ = some (.int .u8 (xl : Int)))) (by kernel_rfl) ?rds0 (fun hHeld0 => ?rdr0)
      case rds0 => (try dsimp only); exact ⟨h1, h2⟩
      refine wpAnyH_take (i := 0) (v := ?vrd1) (by simp only [List.getElem?_toArray, List.getElem?_cons_zero, List.getElem?_cons_succ]; rfl) (by kernel_rfl) (by kernel_rfl) (by kernel_rfl) (fun _ _ _ h => h) (Or.inl ⟨by rfl, ?hrd1⟩) hHeld0 ?qrd1
      case hrd1 => (intro w hSw; (try dsimp only at hSw); go_simp <;> with_reducible rfl)
      try simp only [Act.put, List.setIfInBounds_toArray, List.set_cons_zero, List.set_cons_succ]
      refine wpAnyH_take (i := 1) (v := ?vrd2) (by simp only [List.getElem?_toArray, List.getElem?_cons_zero, List.getElem?_cons_succ]; rfl) (by kernel_rfl) (by kernel_rfl) (by kernel_rfl) (fun _ _ _ h => h) (Or.inl ⟨by rfl, ?hrd2⟩) hHeld0 ?qrd2
      case hrd2 => (intro w hSw; (try dsimp only at hSw); go_simp <;> with_reducible rfl)
      try simp only [Act.put, List.setIfInBounds_toArray, List.set_cons_zero, List.set_cons_succ]
      refine wpAnyH_take (i := 2) (v := ?vrd3) (by simp only [List.getElem?_toArray, List.getElem?_cons_zero, List.getElem?_cons_succ]; rfl) (by kernel_rfl) (by kernel_rfl) (by kernel_rfl) (fun _ _ _ h => h) (Or.inl ⟨by rfl, ?hrd3⟩) hHeld0 ?qrd3
      case hrd3 => (intro w hSw; (try dsimp only at hSw); go_simp <;> with_reducible rfl)
      try simp only [Act.put, List.setIfInBounds_toArray, List.set_cons_zero, List.set_cons_succ]
      refine wpAnyH_take (i := 3) (v := ?vrd4) (by simp only [List.getElem?_toArray, List.getElem?_cons_zero, List.getElem?_cons_succ]; rfl) (by kernel_rfl) (by kernel_rfl) (by kernel_rfl) (fun _ _ _ h => h) (Or.inl ⟨by rfl, ?hrd4⟩) hHeld0 ?qrd4
      case hrd4 => (intro w hSw; (try dsimp only at hSw); go_simp <;> with_reducible rfl)
      try simp only [Act.put, List.setIfInBounds_toArray, List.set_cons_zero, List.set_cons_succ]
      refine wpAnyH_take (i := 4) (v := ?vrd5) (by simp only [List.getElem?_toArray, List.getElem?_cons_zero, List.getElem?_cons_succ]; rfl) (by kernel_rfl) (by kernel_rfl) (by kernel_rfl) (fun _ _ _ h => h) (Or.inl ⟨by rfl, ?hrd5⟩) hHeld0 ?qrd5
      case hrd5 => (intro w hSw; (try dsimp only at hSw); go_simp <;> with_reducible rfl)
      try simp only [Act.put, List.setIfInBounds_toArray, List.set_cons_zero, List.set_cons_succ]
      refine wpAnyH_take (i := 5) (v := ?vrd6) (by simp only [List.getElem?_toArray, List.getElem?_cons_zero, List.getElem?_cons_succ]; rfl) (by kernel_rfl) (by kernel_rfl) (by kernel_rfl) (fun _ _ _ h => h) (Or.inl ⟨by rfl, ?hrd6⟩) hHeld0 ?qrd6
      case hrd6 => (intro w hSw; (try dsimp only at hSw); go_simp <;> with_reducible rfl)
      try simp only [Act.put, List.setIfInBounds_toArray, List.set_cons_zero, List.set_cons_succ]
      refine wpAnyH_take (i := 6) (v := ?vrd7) (by simp only [List.getElem?_toArray, List.getElem?_cons_zero, List.getElem?_cons_succ]; rfl) (by kernel_rfl) (by kernel_rfl) (by kernel_rfl) (fun _ _ _ h => h) (Or.inl ⟨by rfl, ?hrd7⟩) hHeld0 ?qrd7
      case hrd7 => (intro w hSw; (try dsimp only at hSw); go_simp <;> with_reducible rfl)
      try simp only [Act.put, List.setIfInBounds_toArray, List.set_cons_zero, List.set_cons_succ]
      refine wpAnyH_take (i := 7) (v := ?vrd8) (by simp only [List.getElem?_toArray, List.getElem?_cons_zero, List.getElem?_cons_succ]; rfl) (by kernel_rfl) (by kernel_rfl) (by kernel_rfl) (fun _ _ _ h => h) (Or.inl ⟨by rfl, ?hrd8⟩) hHeld0 ?qrd8
      case hrd8 => (intro w hSw; (try dsimp only at hSw); go_simp <;> with_reducible rfl)
      try simp only [Act.put, List.setIfInBounds_toArray, List.set_cons_zero, List.set_cons_succ]
      refine wpAnyH_take (i := 8) (v := ?vrd9) (by simp only [List.getElem?_toArray, List.getElem?_cons_zero, List.getElem?_cons_succ]; rfl) (by kernel_rfl) (by kernel_rfl) (by kernel_rfl) (fun _ _ _ h => h) (Or.inl ⟨by rfl, ?hrd9⟩) hHeld0 ?qrd9
      case hrd9 => (intro w hSw; (try dsimp only at hSw); go_simp <;> with_reducible rfl)
      try simp only [Act.put, List.setIfInBounds_toArray, List.set_cons_zero, List.set_cons_succ]
      refine wpAnyH_take (i := 9) (v := ?vrd10) (by simp only [List.getElem?_toArray, List.getElem?_cons_zero, List.getElem?_cons_succ]; rfl) (by kernel_rfl) (by kernel_rfl) (by kernel_rfl) (fun _ _ _ h => h) (Or.inl ⟨by rfl, ?hrd10⟩) hHeld0 ?qrd10
      case hrd10 => (intro w hSw; (try dsimp only at hSw); go_simp <;> with_reducible rfl)
      try simp only [Act.put, List.setIfInBounds_toArray, List.set_cons_zero, List.set_cons_succ]
      refine wpAnyH_take (i := 10) (v := ?vrd11) (by simp only [List.getElem?_toArray, List.getElem?_cons_zero, List.getElem?_cons_succ]; rfl) (by kernel_rfl) (by kernel_rfl) (by kernel_rfl) (fun _ _ _ h => h) (Or.inl ⟨by rfl, ?hrd11⟩) hHeld0 ?qrd11
      case hrd11 => (intro w hSw; (try dsimp only at hSw); go_simp <;> with_reducible rfl)
      try simp only [Act.put, List.setIfInBounds_toArray, List.set_cons_zero, List.set_cons_succ]
      refine wpAnyH_done (by kernel_rfl) ?_ _
      refine NoPanic.normal ?_
      go_wp2_with fail
      have hm' : wr.drew.cell? ⟨bc, 1, none⟩ = some (.map (some BM)) := hm
      have h0' : wr.drew.cell? ad = some (.int .u8 (x0 : Int)) := h0
      refine wp_region_noPanic ?_
      refine wp_region_held_drew (S := (fun w' => w'.cell? ⟨bc, 1, none⟩ = some (.map (some BM)) ∧ w'.cell? ad = some (.int .u8 (x0 : Int)))) (by kernel_rfl) ?res0 (fun hHeld0 => ?rer0)
      case res0 => (try dsimp only); exact ⟨hm, h0⟩
      refine wpAnyH_take (i := 0) (v := ?vre1) (by simp only [List.getElem?_toArray, List.getElem?_cons_zero, List.getElem?_cons_succ]; rfl) (by kernel_rfl) (by kernel_rfl) (by kernel_rfl) (fun _ _ _ h => h) (Or.inl ⟨by rfl, ?hre1⟩) hHeld0 ?qre1
      case hre1 => (intro w hSw; (try dsimp only at hSw); go_simp <;> with_reducible rfl)
      try simp only [Act.put, List.setIfInBounds_toArray, List.set_cons_zero, List.set_cons_succ]
      refine wpAnyH_take (i := 1) (v := ?vre2) (by simp only [List.getElem?_toArray, List.getElem?_cons_zero, List.getElem?_cons_succ]; rfl) (by kernel_rfl) (by kernel_rfl) (by kernel_rfl) (fun _ _ _ h => h) (Or.inl ⟨by rfl, ?hre2⟩) hHeld0 ?qre2
      case hre2 => (intro w hSw; (try dsimp only at hSw); go_simp <;> with_reducible rfl)
      try simp only [Act.put, List.setIfInBounds_toArray, List.set_cons_zero, List.set_cons_succ]
      refine wpAnyH_take (i := 2) (v := ?vre3) (by simp only [List.getElem?_toArray, List.getElem?_cons_zero, List.getElem?_cons_succ]; rfl) (by kernel_rfl) (by kernel_rfl) (by kernel_rfl) (fun _ _ _ h => h) (Or.inl ⟨by rfl, ?hre3⟩) hHeld0 ?qre3
      case hre3 => (intro w hSw; (try dsimp only at hSw); go_simp <;> with_reducible rfl)
      try simp only [Act.put, List.setIfInBounds_toArray, List.set_cons_zero, List.set_cons_succ]
      refine wpAnyH_take (i := 3) (v := ?vre4) (by simp only [List.getElem?_toArray, List.getElem?_cons_zero, List.getElem?_cons_succ]; rfl) (by kernel_rfl) (by kernel_rfl) (by kernel_rfl) (fun _ _ _ h => h) (Or.inl ⟨by rfl, ?hre4⟩) hHeld0 ?qre4
      case hre4 => (intro w hSw; (try dsimp only at hSw); go_simp <;> with_reducible rfl)
      try simp only [Act.put, List.setIfInBounds_toArray, List.set_cons_zero, List.set_cons_succ]
      refine wpAnyH_take (i := 4) (v := ?vre5) (by simp only [List.getElem?_toArray, List.getElem?_cons_zero, List.getElem?_cons_succ]; rfl) (by kernel_rfl) (by kernel_rfl) (by kernel_rfl) (fun _ _ _ h => h) (Or.inl ⟨by rfl, ?hre5⟩) hHeld0 ?qre5
      case hre5 => (intro w hSw; (try dsimp only at hSw); go_simp <;> with_reducible rfl)
      try simp only [Act.put, List.setIfInBounds_toArray, List.set_cons_zero, List.set_cons_succ]
      refine wpAnyH_take (i := 5) (v := ?vre6) (by simp only [List.getElem?_toArray, List.getElem?_cons_zero, List.getElem?_cons_succ]; rfl) (by kernel_rfl) (by kernel_rfl) (by kernel_rfl) (fun _ _ _ h => h) (Or.inl ⟨by rfl, ?hre6⟩) hHeld0 ?qre6
      case hre6 => (intro w hSw; (try dsimp only at hSw); go_simp <;> with_reducible rfl)
      try simp only [Act.put, List.setIfInBounds_toArray, List.set_cons_zero, List.set_cons_succ]
      refine wpAnyH_take (i := 6) (v := ?vre7) (by simp only [List.getElem?_toArray, List.getElem?_cons_zero, List.getElem?_cons_succ]; rfl) (by kernel_rfl) (by kernel_rfl) (by kernel_rfl) (fun _ _ _ h => h) (Or.inl ⟨by rfl, ?hre7⟩) hHeld0 ?qre7
      case hre7 => (intro w hSw; (try dsimp only at hSw); go_simp <;> with_reducible rfl)
      try simp only [Act.put, List.setIfInBounds_toArray, List.set_cons_zero, List.set_cons_succ]
      refine wpAnyH_take (i := 7) (v := ?vre8) (by simp only [List.getElem?_toArray, List.getElem?_cons_zero, List.getElem?_cons_succ]; rfl) (by kernel_rfl) (by kernel_rfl) (by kernel_rfl) (fun _ _ _ h => h) (Or.inl ⟨by rfl, ?hre8⟩) hHeld0 ?qre8
      case hre8 => (intro w hSw; (try dsimp only at hSw); go_simp <;> with_reducible rfl)
      try simp only [Act.put, List.setIfInBounds_toArray, List.set_cons_zero, List.set_cons_succ]
      refine wpAnyH_take (i := 8) (v := ?vre9) (by simp only [List.getElem?_toArray, List.getElem?_cons_zero, List.getElem?_cons_succ]; rfl) (by kernel_rfl) (by kernel_rfl) (by kernel_rfl) (fun _ _ _ h => h) (Or.inl ⟨by rfl, ?hre9⟩) hHeld0 ?qre9
      case hre9 => (intro w hSw; (try dsimp only at hSw); go_simp <;> with_reducible rfl)
      try simp only [Act.put, List.setIfInBounds_toArray, List.set_cons_zero, List.set_cons_succ]
      refine wpAnyH_take (i := 9) (v := ?vre10) (by simp only [List.getElem?_toArray, List.getElem?_cons_zero, List.getElem?_cons_succ]; rfl) (by kernel_rfl) (by kernel_rfl) (by kernel_rfl) (fun _ _ _ h => h) (Or.inl ⟨by rfl, ?hre10⟩) hHeld0 ?qre10
      case hre10 => (intro w hSw; (try dsimp only at hSw); go_simp <;> with_reducible rfl)
      try simp only [Act.put, List.setIfInBounds_toArray, List.set_cons_zero, List.set_cons_succ]
      refine wpAnyH_take (i := 10) (v := ?vre11) (by simp only [List.getElem?_toArray, List.getElem?_cons_zero, List.getElem?_cons_succ]; rfl) (by kernel_rfl) (by kernel_rfl) (by kernel_rfl) (fun _ _ _ h => h) (Or.inl ⟨by rfl, ?hre11⟩) hHeld0 ?qre11
      case hre11 => (intro w hSw; (try dsimp only at hSw); go_simp <;> with_reducible rfl)
      try simp only [Act.put, List.setIfInBounds_toArray, List.set_cons_zero, List.set_cons_succ]
      refine wpAnyH_take (i := 11) (v := ?vre12) (by simp only [List.getElem?_toArray, List.getElem?_cons_zero, List.getElem?_cons_succ]; rfl) (by kernel_rfl) (by kernel_rfl) (by kernel_rfl) (fun _ _ _ h => h) (Or.inl ⟨by rfl, ?hre12⟩) hHeld0 ?qre12
      case hre12 => (intro w hSw; (try dsimp only at hSw); go_simp <;> with_reducible rfl)
      try simp only [Act.put, List.setIfInBounds_toArray, List.set_cons_zero, List.set_cons_succ]
      refine wpAnyH_ready (rs := [12]) (by kernel_rfl) (by simp) ?_
      refine AllReadyH.cons (by simp only [List.getElem?_toArray, List.getElem?_cons_zero, List.getElem?_cons_succ]; rfl) (fun K hK => ?_) AllReadyH.nil
      go_simp
      go_at_call 49
      refine (clone8_any _ n (c - 3) x2 _ (HX.out.below ((Below.refl _ wr).drew.drew)) (by omega)).mono ?_
      rintro r w2 ⟨v2, rfl, hO, hB2⟩
      obtain ⟨A2, c2, rfl⟩ := own_slice hO
      obtain ⟨F2, hC2, hF2, hK2⟩ := (HC.out.to ((Below.refl _ wr).drew.drew)).to hB2
      have hbx := hC2.box
      have HO2 := Lib.hid hO
      have HB2 := Lib.hid hB2
      refine hK.out _ _ ?sre13 (fun hHeld1 => ?qre13)
      case sre13 => (try dsimp only); exact ⟨pw_cell_below HB2.out hm, pw_cell_below HB2.out h0⟩
      clear hK K
      try simp only [Act.put, List.setIfInBounds_toArray, List.set_cons_zero, List.set_cons_succ]
      refine wpAnyH_ready (rs := [13]) (by kernel_rfl) (by simp) ?_
      refine AllReadyH.cons (by simp only [List.getElem?_toArray, List.getElem?_cons_zero, List.getElem?_cons_succ]; rfl) (fun K hK => ?_) AllReadyH.nil
      obtain ⟨B3, w3, hb3, hrun, hTo, hcl3⟩ := hC2.put (w := w) (G := F) (x0 : Int) ⟨A2, c2, x2⟩ (own_reads8 HO2.out).1 (own_reads8 HO2.out).2 (by show x2.length ≤ 65535; exact hx2) (fun hp a ha => by
        have h1 := own_base HO2.out a.block (by rw [show A2 = some a from ha]; rfl)
        have h2 := hKk2.size
        exact Nat.le_trans h2 h1) hbw hF2 hK2
      obtain rfl : B3 = BM := by
        have e1 := blk_cell hb3 1
        have e2 := hHeld1.1
        rw [e1] at e2
        simpa using e2
      have hrun' : (Instr.mapUpdate 93 (.map (some B3)) (.int .i64 (x0 : Int)) (.slice A2 x2.length c2)).run Tryd.prog w2 = .ok () w3 := hrun
      clear hrun
      go_simp
      refine hK.out _ _ ?sre14 (fun hHeld2 => ?qre14)
      case sre14 => (try dsimp only); exact ⟨hcl3 _ _ hHeld1.1, hcl3 _ _ hHeld1.2⟩
      clear hK K
      try simp only [Act.put, List.setIfInBounds_toArray, List.set_cons_zero, List.set_cons_succ]
      refine wpAnyH_done (by kernel_rfl) ?_ _
      refine NoPanic.normal ?_
      have HTO := Lib.hid hTo
      clear hTo hcl3 hrun' hb3 hbx hC2
      go_wp2_with fail
      exact ⟨⟨k + 1, cutA (some ad) c (3 + n), c - (3 + n), rest, by omega, rfl, hrc, HREST, HR2, Lib.hid (by rw [HPT.out]; exact HTO.out)⟩, hrl⟩
    · obtain rfl : k = l.length := by omega
      have hd0 : d.length = 0 := by rw [HD.out, List.drop_length]; rfl
      obtain ⟨D, hD⟩ : ∃ D, D = d.length := ⟨_, rfl⟩
      rw [← hD] at hdc ⊢
      have hD3 : ¬ (3 : Int) ≤ (D : Int) := by omega
      have HC := Lib.hid (show CelTo base bc bl (putAll m l) w F wr from by have := HT.out; rwa [List.take_length] at this)
      clear HT hFk hKk hCk hd0 hD hmx hbk hb0 HD
      go_wp2_with fail
      go_end0
      exact ⟨rfl, HC.out⟩
end
/- Get and All of cells. -/
section
open Go.RowKit Go.Proofs.YtfnnjgbldojigaaDoorW.PrintWords Go.Proofs.Mine Go.Proofs.Mine.Crc

theorem zeroB (w : World) : (zeroValue 32).run Tryd.prog w = .ok (.slice none 0 0) w := by kernel_rfl
/-- What stands under x, as a lookup tells it. -/
theorem CelAt.look {w : World} {base bc bl : Nat} {F : Nat → Prop} {m : Int → List UInt8} (h : CelAt w base F bc bl m) (x : Int) :
    ∃ (B : Nat) (v : Hd), w.heap[bc]? = some (.cells #[.pointer (some ⟨bl, 0, none⟩), .map (some B)] 95 (0, 0)) ∧ v.l = m x ∧ Bytes w v.A v.l ∧ v.l.length ≤ v.c ∧ v.l.length ≤ 65535 ∧ (0 < v.l.length → ∀ a, v.A = some a → F a.block) ∧ ∀ nq, (Instr.lookup 93 (.map (some B)) (.int .i64 x) false).run Tryd.prog (w.drewN nq) = .ok (.slice v.A v.l.length v.c) (w.drewN nq) := by
  obtain ⟨h1, h2, B, f, h3, h4, h5, h6⟩ := h
  have hlk : ∀ nq, (Instr.lookup 93 (.map (some B)) (.int .i64 x) false).run Tryd.prog (w.drewN nq) = .ok (((f x).map Hd.v).getD (.slice none 0 0)) (w.drewN nq) := fun nq =>
    MapI.lookup (w := w.drewN nq) (h5.map.move rfl) Tryd.underlying93 Tryd.underlying3 (zeroB _) x
  have h6x := h6 x
  cases hf : f x with
  | none =>
    refine ⟨B, hd0, h3, ?_, ⟨rfl, by decide, fun hp => absurd hp (by decide)⟩, by decide, by decide, fun hp => absurd hp (by decide), fun nq => by rw [hlk nq, hf]; rfl⟩
    unfold gets at h6x
    rw [hf] at h6x
    exact h6x
  | some v =>
    obtain ⟨i1, i2, i3, i4⟩ := h5.ins x v hf
    refine ⟨B, v, h3, ?_, i1, i2, i3, fun hp a ha => (i4 hp a ha).1, fun nq => by rw [hlk nq, hf]; rfl⟩
    unfold gets at h6x
    rw [hf] at h6x
    exact h6x
set_option maxRecDepth 100000 in
set_option maxHeartbeats 2000000 in
theorem get_any {w : World} {base bc bl : Nat} {F : Nat → Prop} {m : Int → List UInt8} (h : CelAt w base F bc bl m) (n : Int) :
    Calls Tryd.prog 36 #[.pointer (some ⟨bc, 0, none⟩), .int .i64 n] w fun r w' => ∃ v, r = .returned v ∧ Own w' w.heap.size v (m n) ∧ Below w.heap.size w w' := by
  obtain ⟨B, v, h1, h2, h3, h4, h5, h6, h7⟩ := CelAt.look h n
  have hm := blk_cell h1 1
  have H3 := Lib.hid h3
  rw [← h2]
  clear h h1 h2 h6
  have h70 := h7 0
  rw [show w.drewN 0 = w from rfl] at h70
  go_enter Tryd.func36, Tryd.ntmps36
  go_wp2_with (go_at_call 49; refine (clone8_any v.A _ v.c v.l w H3.out (by omega)).mono ?_; rintro r w1 ⟨v1, rfl, hO, hB1⟩; obtain ⟨A1, c1, rfl⟩ := own_slice hO; have HO := Lib.hid hO; have HB1 := Lib.hid hB1; clear hO hB1)
  go_ret
  exact ⟨_, rfl, HO.out, HB1.out⟩
def celL (m : Int → List UInt8) : Nat → List Ce
  | 0 => []
  | k + 1 => celL m k ++ (if m (k : Int) = [] then [] else [((k : Int), m (k : Int))])
theorem celL_len (m : Int → List UInt8) (k : Nat) : (celL m k).length ≤ k := by
  induction k with
  | zero => exact Nat.le_refl _
  | succ k ih =>
    unfold celL
    rw [List.length_append]
    split <;> simp <;> omega
theorem celL_yes {m : Int → List UInt8} {k : Nat} (h : m (k : Int) ≠ []) : celL m (k + 1) = celL m k ++ [((k : Int), m (k : Int))] := by
  show celL m k ++ _ = _
  rw [if_neg h]
theorem celL_no {m : Int → List UInt8} {k : Nat} (h : m (k : Int) = []) : celL m (k + 1) = celL m k := by
  show celL m k ++ _ = _
  rw [if_pos h, List.append_nil]
theorem infoCel : (Tryd.prog.info? 61).map (fun i => (i.zero, i.size, i.bytes)) = some (some (.agg #[.int .i64 0, .slice none 0 0]), 2, 32) := by kernel_rfl
set_option maxRecDepth 100000 in
set_option maxHeartbeats 2000000 in
theorem call_any {w : World} {base bc bl : Nat} {F : Nat → Prop} {m : Int → List UInt8} (h : CelAt w base F bc bl m) :
    Calls Tryd.prog 35 #[.pointer (some ⟨bc, 0, none⟩)] w fun r w' => ∃ v, r = .returned v ∧ ceK.R 61 w' w.heap.size (fun k => w.heap.size ≤ k) v (celL m 8) ∧ Below w.heap.size w w' := by
  have H := Lib.hid h
  clear h
  go_enter Tryd.func35, Tryd.ntmps35
  go_wp2_with fail
  go_loopw [3, 6] (fun u iv wr => ∃ (k : Nat), k ≤ 8 ∧ iv = .int .i64 (k : Int) ∧ RowKit.Hid (ceK.R 61 wr w.heap.size (fun k => w.heap.size ≤ k) u (celL m k)) ∧ RowKit.Hid (Below w.heap.size w wr)) (fun _ iv _ => 8 - (intOf iv).toNat)
  case atStart => exact ⟨0, by omega, rfl, Lib.hid (Kd.R_nil _ _ _ _ _), Lib.hid (Below.refl _ _)⟩
  case round =>
    rename_i u _ wr
    obtain ⟨k, hk, rfl, HU, HB⟩ := hrel
    by_cases hlt : k < 8
    · have hlt2 : (k : Int) < 8 := by omega
      have hk0 : (0 : Int) ≤ (k : Int) := by omega
      have hC := H.out.below HB.out
      obtain ⟨B, v, h1, h2, h3, h4, h5, h6, h7⟩ := CelAt.look hC (k : Int)
      have hm := blk_cell h1 1
      have H3 := Lib.hid h3
      have hdl := celL_len m k
      by_cases he : m (k : Int) = []
      · have h0 : v.l.length = 0 := by rw [h2, he]; rfl
        have HN := Lib.hid (celL_no he)
        have h70 := h7 0
        rw [show wr.drewN 0 = wr from rfl, h0] at h70
        clear hC h1 h2 h3 h4 h5 h6 h7 he h0
        go_wp2_with fail
        exact ⟨⟨k + 1, by omega, by simp, Lib.hid (by rw [HN.out]; exact HU.out), HB⟩, by simp [intOf]; omega⟩
      · have HY := Lib.hid (celL_yes he)
        have h0 : 0 < v.l.length := by rw [h2]; exact List.length_pos_iff.2 he
        have h0i : (0 : Int) < (v.l.length : Int) := by omega
        have h70 := h7 0
        rw [show wr.drewN 0 = wr from rfl] at h70
        have hvl := Lib.hid h2
        rw [← h2] at HY
        clear hC h1 h2 h3 h4 h6 h7 he
        generalize celL m k = dn at *
        obtain ⟨Au, cu, rfl⟩ := Kd.R_slice HU.out
        go_wp2_with (first
          | (go_at_call 49; refine (clone8_any v.A _ v.c v.l wr H3.out (by omega)).mono ?_; rintro r w1 ⟨v1, rfl, hO, hB1⟩; obtain ⟨A1, c1, rfl⟩ := own_slice hO; have HO := Lib.hid hO; have HB1 := Lib.hid hB1; clear hO hB1)
          | (at_builtin; refine Kd.R_append ceK (w0 := w) w.heap.size rfl _ _ 63 61 _ 32 rfl Tryd.underlying63 infoCel rfl (by decide) (by decide) (.slice Au dn.length cu) dn ((k : Int), v.l) [.int .i64 (k : Int), .slice A1 v.l.length c1] (fun k => w.heap.size ≤ k) (fun k => wr.heap.size ≤ k) rfl rfl ?e1 ?e2 ?e3 ?e4 ?e5 ?e6 ?e7 ?e8))
        case e1 => exact ⟨[.int .i64 (k : Int)], [.slice A1 v.l.length c1], rfl, rfl, _, rfl, Kd.R_of_own (by have := own_weaken HO.out HB.out.size; simpa using this) (fun k hk => own_base HO.out k hk)⟩
        case e2 =>
          intro j hj
          have := HB.out.size
          refine ⟨by omega, fun hne => ?_⟩
          have h1 := Kd.R_lt HU.out j hne.symm
          omega
        case e3 => exact fun j hj => Nat.le_trans (Nat.le_trans HB.out.size HB1.out.size) hj
        case e4 => exact Kd.R_below HU.out HB1.out
        case e5 => exact HB.out.trans (HB1.out.mono HB.out.size)
        case e6 => exact Nat.le_trans HB.out.size HB1.out.size
        case e7 => omega
        case e8 =>
          intro v2 w2 hR2 hB2 _ _
          have L1 := Lib.hid hR2
          have L2 := Lib.hid hB2
          clear hR2 hB2
          go_wp2
          exact ⟨⟨k + 1, by omega, by simp, Lib.hid (by rw [HY.out]; exact L1.out), L2⟩, by simp [intOf]; omega⟩
    · obtain rfl : k = 8 := by omega
      go_wp2
      go_ret
      exact ⟨_, rfl, HU.out, HB.out⟩
end
/- Open of cells. -/
section
open Go.RowKit Go.Proofs.YtfnnjgbldojigaaDoorW.PrintWords Go.Proofs.Mine Go.Proofs.Mine.Crc

/-- A new row of rows: each lies in a block that is new. -/
theorem hds_own {w : World} {base : Nat} {ok : Nat → Prop} {v : Value} {xs : List (List UInt8)} (h : rowsK.R 32 w base ok v xs) : ∃ (A : Option Addr) (c : Nat) (hs : List Hd), v = .slice A hs.length c ∧ hs.length ≤ c ∧ hs.map (·.l) = xs ∧ HRow w A hs.length hs ∧ HdsIn w hs ∧ (∀ a, A = some a → base ≤ a.block) ∧ ∀ y ∈ hs, 0 < y.l.length → ∀ a, y.A = some a → base ≤ a.block := by
  have hbase := Kd.R_base h
  obtain ⟨A, c, rfl, hle, hrow⟩ := h.2.reads
  have hn := hrow.1
  have key : ∀ j, j < xs.length → ∃ y : Hd, xs[j]? = some y.l ∧ Bytes w y.A y.l ∧ y.l.length ≤ y.c ∧ (0 < y.l.length → ∀ a, y.A = some a → base ≤ a.block) ∧ ∀ ad, A = some ad → w.cell? (ad.add j) = some y.v := by
    intro j hj
    obtain ⟨ad, hA, hc⟩ := hrow.2.2 (by omega)
    have hx : xs[j]? = some xs[j] := List.getElem?_eq_getElem (by omega)
    obtain ⟨cs, _, ⟨u, rfl, hR⟩, hcell⟩ := hc j _ hx
    obtain ⟨B, cB, rfl, hle2, hC⟩ := Kd.R_reads hR
    have hb2 := Kd.R_base hR
    refine ⟨⟨B, cB, xs[j]⟩, hx, bytes_of_C hC, hle2, fun hp a ha => hb2 a.block (by rw [show B = some a from ha]; rfl), fun ad' e => ?_⟩
    rw [hA] at e
    injection e with e
    subst e
    have := hcell 0 _ rfl
    rwa [show j * rowsK.sz + 0 = j from by show j * 1 + 0 = j; omega] at this
  obtain ⟨hs, h1, h2⟩ := list_of xs.length _ key
  have hmap : hs.map (·.l) = xs := by
    apply List.ext_getElem?
    intro j
    rcases Nat.lt_or_ge j xs.length with hj | hj
    · have hy : hs[j]? = some hs[j] := List.getElem?_eq_getElem (by omega)
      rw [List.getElem?_map, hy, (h2 j _ hy).1]; rfl
    · rw [List.getElem?_eq_none (by simp; omega), List.getElem?_eq_none (by omega)]
  refine ⟨A, c, hs, by rw [h1], by omega, hmap, ⟨rfl, by rw [h1]; exact hrow.2.1, fun hp => ?_⟩, fun y hy => ?_, fun a ha => hbase a.block (by rw [ha]; rfl), fun y hy => ?_⟩
  · obtain ⟨ad, hA, _⟩ := hrow.2.2 (by omega)
    refine ⟨ad, hA, fun j hj => ?_⟩
    have hy : hs[j]? = some hs[j] := List.getElem?_eq_getElem hj
    rw [(h2 j _ hy).2.2.2.2 ad hA]
    simp [List.getD_eq_getElem?_getD, hy]
  · obtain ⟨j, hj⟩ := List.mem_iff_getElem?.1 hy
    exact ⟨(h2 j y hj).2.1, (h2 j y hj).2.2.1⟩
  · obtain ⟨j, hj⟩ := List.mem_iff_getElem?.1 hy
    exact (h2 j y hj).2.2.2.1
/-- Rows that are new stand apart from what is elder. -/
theorem RowOk.fresh {w : World} {base : Nat} {F : Nat → Prop} {A : Option Addr} {hs : List Hd} (hrow : HRow w A hs.length hs) (hin : HdsIn w hs) (hA : ∀ a, A = some a → base ≤ a.block) (hy : ∀ y ∈ hs, 0 < y.l.length → ∀ a, y.A = some a → base ≤ a.block) (hF : ∀ k, F k → k < base) : RowOk w F A hs :=
  ⟨hrow, hin, fun _ a ha hf => by have := hA a ha; have := hF _ hf; omega, fun y hm hp a ha hf => by have := hy y hm hp a ha; have := hF _ hf; omega⟩
/-- Cells that may stand in a record. -/
def CesOk (l : List Ce) : Prop := ∀ x ∈ l, 0 ≤ x.1 ∧ x.1 < 256 ∧ x.2.length ≤ 65535
theorem celAt_new {w : World} {bl base : Nat} (hb : base ≤ w.heap.size) : CelAt ((w.alloc (.map #[] 0)).alloc (.cells #[.pointer (some ⟨bl, 0, none⟩), .map (some w.heap.size)] 95)) base (fun k => k = w.heap.size ∨ k = w.heap.size + 1) (w.heap.size + 1) bl noM := by
  have h1 : ((w.alloc (.map #[] 0)).alloc (.cells #[.pointer (some ⟨bl, 0, none⟩), .map (some w.heap.size)] 95)).heap[w.heap.size + 1]? = some (.cells #[.pointer (some ⟨bl, 0, none⟩), .map (some w.heap.size)] 95 (0, 0)) := by
    have := heap_alloc_new (w.alloc (.map #[] 0)) (.cells #[.pointer (some ⟨bl, 0, none⟩), .map (some w.heap.size)] 95)
    simpa using this
  refine ⟨.inr rfl, fun k hk => ?_, w.heap.size, fun _ => none, h1, .inl rfl, ⟨?_, fun x v hx => by cases hx⟩, fun x => rfl⟩
  · simp only [World.alloc]
    rcases hk with rfl | rfl <;> simp <;> omega
  · exact (MapI.new w).move (Below.heap_alloc _ _ w.heap.size (by simp))
theorem flatten_take {α : Type} {l : List (List α)} {k : Nat} {x : List α} (h : l[k]? = some x) : (l.take (k + 1)).flatten = (l.take k).flatten ++ x := by rw [List.take_add_one, h]; simp
theorem cel_join {w0 w w' : World} {bt bl bc : Nat} {s : TS} {ls : LS} {m m' : Int → List UInt8} {FW FC : Nat → Prop} (h : WalIn w0 bt bl s ls w FW) (hC : CelAt w w0.heap.size FC bc bl m) (hd : ∀ k, FC k → ¬ FW k) (ht : CelTo w0.heap.size bc bl m' w FC w') :
    ∃ F', CelIn w0 bt bl bc s ls m' w' F' ∧ (∀ k, F' k → FW k ∨ FC k ∨ w.heap.size ≤ k) ∧ Keep FC w w' := by
  obtain ⟨FC', g1, g2, g3⟩ := ht
  refine ⟨fun k => FW k ∨ FC' k, ⟨fun k hk => ?_, FW, FC', fun k hk => .inl hk, fun k hk => .inr hk, fun k hk hf => ?_, h.keep g3 (fun j hj hc => hd j hc hj) (fun j hj => (hC.2.1 j hj).1), g1⟩, fun k hk => ?_, g3⟩
  · rcases hk with hk | hk
    · exact ⟨(h.lt k hk).1, Nat.lt_of_lt_of_le (h.lt k hk).2 g3.size⟩
    · exact g1.2.1 k hk
  · rcases g2 k hk with e | e
    · exact hd k e hf
    · have := (h.lt k hf).2; omega
  · rcases hk with hk | hk
    · exact .inl hk
    · exact .inr (g2 k hk)
set_option maxRecDepth 100000 in
set_option maxHeartbeats 2000000 in
theorem copen_any (w0 w : World) (bt : Nat) (room ops : Int) (recs : List (List Ce)) (sy : Nat) (F : Nat → Prop) (hO : Calls Tryd.prog 15 #[.pointer (some ⟨bt, 0, none⟩)] w (OpenOk w0 bt room (recs.map writeOf) sy ops w F)) (hr : recs.length ≤ 1000000) (hok : ∀ r ∈ recs, CesOk r ∧ (writeOf r).length ≤ 65536) :
    Calls Tryd.prog 32 #[.pointer (some ⟨bt, 0, none⟩)] w fun r w' => ∃ bl bc F' o, r = .returned (.tuple #[.pointer (some ⟨bc, 0, none⟩), .int .i64 0]) ∧ CelIn w0 bt bl bc (gs room (recs.map writeOf) sy o) (gl (recs.map writeOf)) (putAll noM recs.flatten) w' F' ∧ ops ≤ o ∧ o ≤ ops + 1 ∧ (∀ k, F' k → F k ∨ w.heap.size ≤ k) ∧ Keep F w w' := by
  have HO := Lib.hid hO
  have HOK := Lib.hid hok
  clear hO hok
  have hmm := @run_makeMap Tryd.prog
  go_enter Tryd.func32, Tryd.ntmps32
  go_wp2_with (first
    | (go_at_call 15; refine HO.out.mono ?_; rintro r w1 ⟨bl, F1, o, rfl, hW, ho1, ho2, hF1, hK1⟩
       have HW := Lib.hid hW
       have HF1 := Lib.hid hF1
       have HK1 := Lib.hid hK1
       clear hW hF1 hK1))
  obtain ⟨w2, hw2⟩ : ∃ z, z = (w1.alloc (.map #[] 0)).alloc (.cells #[.pointer (some ⟨bl, 0, none⟩), .map (some w1.heap.size)] 95) := ⟨_, rfl⟩
  rw [← hw2]
  have hb01 : w0.heap.size ≤ w1.heap.size := HW.out.below.size
  have hC2 : CelAt w2 w0.heap.size (fun k => k = w1.heap.size ∨ k = w1.heap.size + 1) (w1.heap.size + 1) bl noM := by rw [hw2]; exact celAt_new hb01
  have hB2 : Below w1.heap.size w1 w2 := by rw [hw2]; exact ((Below.refl _ w1).alloc (Nat.le_refl _) _).alloc (by simp) _
  have hs2 : w2.heap.size = w1.heap.size + 2 := by rw [hw2]; simp
  have hW2 := HW.out.to hB2
  obtain ⟨FC, hFC⟩ : ∃ FC : Nat → Prop, FC = fun k => k = w1.heap.size ∨ k = w1.heap.size + 1 := ⟨_, rfl⟩
  rw [← hFC] at hC2
  have HFC := Lib.hid hFC
  clear hFC
  have HC2 := Lib.hid hC2
  have HB2 := Lib.hid hB2
  have HS2 := Lib.hid hs2
  have HLT := Lib.hid HW.out.lt
  clear hw2 hC2 hB2 hs2
  obtain ⟨bc, hbc⟩ : ∃ bc, bc = w1.heap.size + 1 := ⟨_, rfl⟩
  rw [← hbc] at HC2 ⊢
  have HBC := Lib.hid hbc
  clear hbc
  have HW2 := Lib.hid hW2
  clear hW2
  refine (cal_all w0 w2 bt bl _ _ F1 HW2.out (by rw [List.length_map]; exact hr) (fun r hr => by obtain ⟨z, hz, rfl⟩ := List.mem_map.1 hr; have := (HOK.out z hz).2; omega)).mono ?_
  rintro r w3 ⟨v, rfl, hR, hB3⟩
  obtain ⟨A, c, hs, rfl, hsc, hmap, hrow, hin, hA, hy⟩ := hds_own hR
  have hhl : hs.length = recs.length := by rw [← List.length_map (f := fun y : Hd => y.l), hmap, List.length_map]
  have HROW := Lib.hid (RowOk.fresh (F := FC) hrow hin hA hy (fun k hk => by rw [HFC.out] at hk; have := HS2.out; omega))
  have HMAP := Lib.hid hmap
  have HC3 := Lib.hid (HC2.out.below hB3)
  have HB3 := Lib.hid hB3
  have HHL := Lib.hid hhl
  have hmx := hrow.2.1
  clear hR hmap hrow hin hA hy hB3 hhl HC2
  go_wp2_with fail
  go_loopw [24] (fun iv wr => ∃ (k : Nat), k ≤ hs.length ∧ iv = .int .i64 (k : Int) ∧ RowKit.Hid (CelTo w0.heap.size bc bl (putAll noM (recs.take k).flatten) w3 FC wr)) (fun iv _ => hs.length - (intOf iv).toNat)
  case atStart => exact ⟨0, by omega, rfl, Lib.hid (by rw [List.take_zero]; exact CelTo.refl HC3.out)⟩
  case round =>
    obtain ⟨k, hk, rfl, HT⟩ := hrel
    by_cases hlt : k < hs.length
    · have hlt2 : (k : Int) < (hs.length : Int) := by omega
      have hk0 : (0 : Int) ≤ (k : Int) := by omega
      obtain ⟨y, hy⟩ : ∃ y, hs[k]? = some y := ⟨_, List.getElem?_eq_getElem hlt⟩
      obtain ⟨rc, hrc⟩ : ∃ rc, recs[k]? = some rc := ⟨_, List.getElem?_eq_getElem (by have := HHL.out; omega)⟩
      have hyl : y.l = writeOf rc := by
        have h1 : (hs.map (·.l))[k]? = (recs.map writeOf)[k]? := by rw [HMAP.out]
        rw [List.getElem?_map, List.getElem?_map, hy, hrc] at h1
        exact Option.some.inj h1
      obtain ⟨Fk, hCk, hFk, hKk⟩ := HT.out
      have hRk := HROW.out.step hKk hFk
      obtain ⟨ad, rfl, hcell⟩ := hd_at hRk.row hy
      have hmem := List.mem_of_getElem? hy
      have hyb := hRk.ins y hmem
      have hyo := hRk.offs y hmem
      have hrd := rd_any y.A y.c rc bl bc w0.heap.size _ Fk wr (by rw [← hyl]; exact hyb.1) (by rw [← hyl]; exact hyb.2) (HOK.out rc (List.mem_of_getElem? hrc)).1 hCk (by have := hKk.size; have := HB3.out.size; have := HB2.out.size; omega) (by rw [← hyl]; exact hyo)
      rw [← hyl, ← putAll_app, ← flatten_take hrc] at hrd
      have HRD := Lib.hid hrd
      have HFK := Lib.hid hFk
      have HKK := Lib.hid hKk
      clear hy hrc hyl hCk hRk hmem hyb hyo hrd hFk hKk HT
      go_wp2_with (first
        | (go_at_call 52; refine HRD.out.mono ?_; rintro r w4 ⟨rfl, hT4⟩
           have HT4 := Lib.hid (hT4.after HFK.out HKK.out)
           clear hT4))
      exact ⟨⟨k + 1, by omega, by simp, HT4⟩, by simp [intOf]; omega⟩
    · obtain rfl : k = hs.length := by omega
      rw [HHL.out, List.take_length] at HT
      go_wp2_with fail
      go_ret2
      obtain ⟨F', g1, g2, g3⟩ := cel_join (HW2.out.to HB3.out) HC3.out (fun k hk hf => by
        rw [HFC.out] at hk
        have := (HLT.out k hf).2; omega) HT.out
      refine ⟨bl, bc, F', o, rfl, g1, ho1, ho2, fun k hk => ?_, ?_⟩
      · have h1 := HK1.out.size
        have h2 := HB2.out.size
        have h3 := HB3.out.size
        rcases g2 k hk with e | e | e
        · exact HF1.out k e
        · rw [HFC.out] at e; exact .inr (by omega)
        · exact .inr (by omega)
      · refine (HK1.out.trans ((Keep.of_below HB2.out (fun _ => False)).trans (Keep.of_below HB3.out (fun _ => False)) (fun _ h => h.elim)) (fun _ h => h.elim)).trans g3 (fun k hk => ?_)
        rw [HFC.out] at hk
        have h1 := HK1.out.size
        exact .inr (by omega)
end
end Go.Proofs.YtfnnjgbldojigaaDoor
