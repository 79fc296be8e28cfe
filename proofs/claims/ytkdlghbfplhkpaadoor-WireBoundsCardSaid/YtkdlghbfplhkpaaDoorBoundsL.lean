/- The walk of WireBounds. -/
import Derived.Test.YtkdlghbfplhkpaaDoorBoundsP
set_option linter.unusedVariables false
set_option linter.unusedSimpArgs false
namespace Go.Proofs.YtkdlghbfplhkpaaDoor
open Go.RowKit Go.Proofs.YtkdlghbfplhkpaaDoorW.PrintWords Go.Proofs.Mine

theorem cv_at {Z : ByteArray} {n : Nat} (hZ : Z = strOfNums (List.replicate n 0)) (hn : n ≤ 1000) {W : World} {g : Nat} (h : W.heap[g]? = some (.cells (by_C n) 5 (0, 0))) : (convert 24 9 (.slice (some ⟨g, 0, none⟩) n n)).run Tryd.prog W = .ok (.string Z) W := by rw [hZ]; exact by_str h hn
theorem new1 (W : World) (o x : Obj) : ((W.alloc o).alloc x).heap[W.heap.size + 1]? = some x := by
  have h := heap_alloc_new (W.alloc o) x
  rwa [show (W.alloc o).heap.size = W.heap.size + 1 from by simp] at h
theorem new2 (W : World) (o o2 x : Obj) : (((W.alloc o).alloc o2).alloc x).heap[W.heap.size + 1 + 1]? = some x := by
  have h := heap_alloc_new ((W.alloc o).alloc o2) x
  rwa [show ((W.alloc o).alloc o2).heap.size = W.heap.size + 1 + 1 from by simp] at h
theorem Norm.mk {R : Act → World → Prop} {a : Act} {w : World} (h : R a w) : Norm R .normal a w := h
theorem al3_0 (w : World) (a b c : Obj) : (((w.alloc a).alloc b).alloc c).drew.heap[w.heap.size]? = some a := blk_alloc (blk_alloc (heap_alloc_new w a) b) c
theorem al3_1 (w : World) (a b c : Obj) : (((w.alloc a).alloc b).alloc c).drew.heap[w.heap.size + 1]? = some b := blk_alloc (new1 w a b) c
theorem al3_2 (w : World) (a b c : Obj) : (((w.alloc a).alloc b).alloc c).drew.heap[w.heap.size + 1 + 1]? = some c := new2 w a b c
theorem below3 (w : World) (a b c : Obj) : Below w.heap.size w (((w.alloc a).alloc b).alloc c).drew :=
  (((Below.refl _ _).alloc (Nat.le_refl _) a).alloc (by simp) b |>.alloc (by simp; omega) c).drew
/-- What stands behind the longer text. -/
def Rel19 (w w7 : World) (which b by_ d : Int) (E M m : Nat) (u18 u19 u20 u21 u22 u23 u24 v6 v7 : Value) (a' : Act) (w' : World) : Prop :=
  ∃ (S : ByteArray) (x25 x26 x27 x28 x29 x30 x31 x32 x33 x34 x35 x36 x37 x38 x39 x40 x41 x42 x43 x44 x45 x46 x47 x48 x49 x50 x51 x52 x53 x54 x55 x56 x57 x58 x59 x60 x61 x62 x63 x64 : Value), a' = ⟨#[.int .i64 which, .int .i64 b, undef, undef, .bool false, .pointer (some ⟨E, 0, none⟩), .pointer (some ⟨M, 0, none⟩), v6, .int .i64 0, v7, .int .i64 0, .int .i64 5, .int .i64 0, .bool true, .bool false, .int .i64 by_, .int .i64 d, .int .i64 b, u18, u19, u20, u21, u22, u23, u24, x25, x26, x27, x28, x29, x30, x31, x32, x33, x34, x35, x36, x37, x38, x39, x40, x41, x42, x43, x44, x45, x46, x47, x48, x49, x50, x51, x52, x53, x54, x55, x56, x57, x58, x59, x60, x61, x62, x63, x64, undef, undef, undef, undef, undef, undef, undef, undef, undef, undef, undef, undef, undef, undef, undef, undef, undef, undef, undef, undef, undef, undef, undef, undef, undef, undef, undef, undef, undef, undef, undef, undef, undef, undef, undef, undef, undef, undef, undef, undef, undef, undef, undef, undef, undef, undef, undef, undef, undef, undef, undef, undef, undef, undef, undef, undef, undef, undef, undef, undef, undef, undef, undef, undef, undef, undef], []⟩ ∧ 16 < S.size ∧ S.size ≤ 100 ∧ w'.heap[E]? = some (.cells #[.int .i64 4, .int .i64 0, .int .i64 0, .string S, .slice (some ⟨m, 0, none⟩) 9 9, .int .i64 2] 27 (0, 0)) ∧ w'.heap[m]? = some (.cells (in_C 9) 3 (0, 0)) ∧ Laid w' ∧ Below w.heap.size w w'
theorem Rel19.mk {w w7 : World} {which b by_ d : Int} {E M m : Nat} {u18 u19 u20 u21 u22 u23 u24 v6 v7 : Value} {a' : Act} {w' : World} {S : ByteArray} {x25 x26 x27 x28 x29 x30 x31 x32 x33 x34 x35 x36 x37 x38 x39 x40 x41 x42 x43 x44 x45 x46 x47 x48 x49 x50 x51 x52 x53 x54 x55 x56 x57 x58 x59 x60 x61 x62 x63 x64 : Value} (ha : a' = ⟨#[.int .i64 which, .int .i64 b, undef, undef, .bool false, .pointer (some ⟨E, 0, none⟩), .pointer (some ⟨M, 0, none⟩), v6, .int .i64 0, v7, .int .i64 0, .int .i64 5, .int .i64 0, .bool true, .bool false, .int .i64 by_, .int .i64 d, .int .i64 b, u18, u19, u20, u21, u22, u23, u24, x25, x26, x27, x28, x29, x30, x31, x32, x33, x34, x35, x36, x37, x38, x39, x40, x41, x42, x43, x44, x45, x46, x47, x48, x49, x50, x51, x52, x53, x54, x55, x56, x57, x58, x59, x60, x61, x62, x63, x64, undef, undef, undef, undef, undef, undef, undef, undef, undef, undef, undef, undef, undef, undef, undef, undef, undef, undef, undef, undef, undef, undef, undef, undef, undef, undef, undef, undef, undef, undef, undef, undef, undef, undef, undef, undef, undef, undef, undef, undef, undef, undef, undef, undef, undef, undef, undef, undef, undef, undef, undef, undef, undef, undef, undef, undef, undef, undef, undef, undef, undef, undef, undef, undef, undef, undef], []⟩) (h1 : 16 < S.size) (h2 : S.size ≤ 100)
    (h : w'.heap[E]? = some (.cells #[.int .i64 4, .int .i64 0, .int .i64 0, .string S, .slice (some ⟨m, 0, none⟩) 9 9, .int .i64 2] 27 (0, 0)) ∧ w'.heap[m]? = some (.cells (in_C 9) 3 (0, 0)) ∧ Laid w' ∧ Below w.heap.size w w') : Rel19 w w7 which b by_ d E M m u18 u19 u20 u21 u22 u23 u24 v6 v7 a' w' :=
  ⟨S, x25, x26, x27, x28, x29, x30, x31, x32, x33, x34, x35, x36, x37, x38, x39, x40, x41, x42, x43, x44, x45, x46, x47, x48, x49, x50, x51, x52, x53, x54, x55, x56, x57, x58, x59, x60, x61, x62, x63, x64, ha, h1, h2, h⟩
theorem set_al {w w7 : World} {E m : Nat} {Z S : ByteArray} (hE : w7.heap[E]? = some (.cells #[.int .i64 4, .int .i64 0, .int .i64 0, .string Z, .slice (some ⟨m, 0, none⟩) 9 9, .int .i64 2] 27 (0, 0))) (hm : w7.heap[m]? = some (.cells (in_C 9) 3 (0, 0))) (hne : m ≠ E) (hL : Laid w7) (h0 : 0 < E) (hB : Below w.heap.size w w7) (hwE : w.heap.size ≤ E) (o : Obj) :
    ((w7.setCell ⟨E, 3, none⟩ (.string S)).alloc o).drew.heap[E]? = some (.cells #[.int .i64 4, .int .i64 0, .int .i64 0, .string S, .slice (some ⟨m, 0, none⟩) 9 9, .int .i64 2] 27 (0, 0)) ∧ ((w7.setCell ⟨E, 3, none⟩ (.string S)).alloc o).drew.heap[m]? = some (.cells (in_C 9) 3 (0, 0)) ∧ Laid ((w7.setCell ⟨E, 3, none⟩ (.string S)).alloc o).drew ∧ Below w.heap.size w ((w7.setCell ⟨E, 3, none⟩ (.string S)).alloc o).drew :=
  ⟨blk_alloc (blk_set hE 3 (.string S)) o, blk_alloc ((st_keep w7 E 3 (.string S)).blk hm hne) o, (laid_keep (w1 := w7.setCell ⟨E, 3, none⟩ (.string S)) hL (st_keep w7 E 3 (.string S)) h0).alloc o, (bel_al (bel_set hB hwE) o).drew⟩
theorem new_set (w : World) (E i : Nat) (v : Value) (o : Obj) : ((w.setCell ⟨E, i, none⟩ v).alloc o).heap[w.heap.size]? = some o := by
  have h := heap_alloc_new (w.setCell ⟨E, i, none⟩ v) o
  rwa [show (w.setCell ⟨E, i, none⟩ v).heap.size = w.heap.size from by simp] at h
set_option maxRecDepth 100000 in
set_option maxHeartbeats 4000000 in
theorem bounds_any (which by_ : Int) (w : World) (hg : Laid w) :
    Calls Tryd.prog 3 #[.int .i64 which, .int .i64 by_] w fun e w' => e = .returned (.bool true) ∧ Below w.heap.size w w' := by
  have HG := Lib.hid hg
  clear hg
  obtain ⟨d, hd⟩ : ∃ d, d = by_ % 20 := ⟨_, rfl⟩
  obtain ⟨b, hb⟩ : ∃ b : Int, (1 : Int) + d = b := ⟨_, rfl⟩
  have hb0 : 1 ≤ b := by omega
  have hb1 : b ≤ 20 := by omega
  have hd0 : 0 ≤ d := by omega
  have hd1 : d ≤ 19 := by omega
  have HD := Lib.hid hd
  clear hd
  obtain ⟨Z, hZ⟩ : ∃ Z, Z = strOfNums (List.replicate 16 0) := ⟨_, rfl⟩
  have mk16 := mk_by 16 16 rfl (by decide)
  have mk9 := mk_in 9 9 rfl (by decide)
  have mk64 := mk_in 64 64 rfl (by decide)
  have mke := mk_en 64 64 rfl (by decide)
  have c01 := fun W : World => cv_at hZ (by decide) (W := (W.alloc (.cells (by_C 16) 5)).drew) (g := W.heap.size) (heap_alloc_new W _)
  have c02 := fun (W : World) (o : Obj) => cv_at hZ (by decide) (W := ((W.alloc (.cells (by_C 16) 5)).alloc o).drew) (g := W.heap.size) (blk_alloc (heap_alloc_new W _) o)
  have c03 := fun (W : World) (o o2 : Obj) => cv_at hZ (by decide) (W := (((W.alloc (.cells (by_C 16) 5)).alloc o).alloc o2).drew) (g := W.heap.size) (blk_alloc (blk_alloc (heap_alloc_new W _) o) o2)
  have c12 := fun (W : World) (o : Obj) => cv_at hZ (by decide) (W := ((W.alloc o).alloc (.cells (by_C 16) 5)).drew) (g := W.heap.size + 1) (new1 W o _)
  have c13 := fun (W : World) (o o2 : Obj) => cv_at hZ (by decide) (W := (((W.alloc o).alloc (.cells (by_C 16) 5)).alloc o2).drew) (g := W.heap.size + 1) (blk_alloc (new1 W o _) o2)
  have c23 := fun (W : World) (o o2 : Obj) => cv_at hZ (by decide) (W := (((W.alloc o).alloc o2).alloc (.cells (by_C 16) 5)).drew) (g := W.heap.size + 1 + 1) (new2 W o o2 _)
  have HZ := Lib.hid hZ
  clear hZ
  go_enter Tryd.func3, Tryd.ntmps3
  go_wp2_with (first
    | (go_at_call 6; refine (known_any w).mono ?_; rintro e w1 ⟨rfl, hB⟩; have HB1 := Lib.hid hB; clear hB)
    | (go_at_call 7; refine (within_any by_ 20 _ (by decide) (by decide)).mono ?_; rintro e w2 ⟨rfl, rfl⟩; rw [← HD.out]))
  refine wp_norm (fun a' w' => ∃ (E m : Nat) (u18 u19 u20 u21 : Value), a' = ⟨#[.int .i64 which, .int .i64 b, undef, undef, .bool false, .pointer (some ⟨E, 0, none⟩), undef, undef, undef, undef, undef, undef, undef, .bool true, .bool false, .int .i64 by_, .int .i64 d, .int .i64 b, u18, u19, u20, u21, undef, undef, undef, undef, undef, undef, undef, undef, undef, undef, undef, undef, undef, undef, undef, undef, undef, undef, undef, undef, undef, undef, undef, undef, undef, undef, undef, undef, undef, undef, undef, undef, undef, undef, undef, undef, undef, undef, undef, undef, undef, undef, undef, undef, undef, undef, undef, undef, undef, undef, undef, undef, undef, undef, undef, undef, undef, undef, undef, undef, undef, undef, undef, undef, undef, undef, undef, undef, undef, undef, undef, undef, undef, undef, undef, undef, undef, undef, undef, undef, undef, undef, undef, undef, undef, undef, undef, undef, undef, undef, undef, undef, undef, undef, undef, undef, undef, undef, undef, undef, undef, undef, undef, undef, undef, undef, undef, undef, undef], []⟩ ∧ w'.heap[E]? = some (.cells #[.int .i64 4, .int .i64 0, .int .i64 0, .string Z, .slice (some ⟨m, 0, none⟩) 9 9, .int .i64 2] 27 (0, 0)) ∧ w'.heap[m]? = some (.cells (in_C 9) 3 (0, 0)) ∧ Below w1.heap.size w1 w' ∧ w1.heap.size ≤ E) ?_ ?_
  · go_region_law (fail)
    all_goals exact Norm.mk ⟨_, _, _, _, _, _, rfl, by first | exact al3_2 _ _ _ _ | exact al3_1 _ _ _ _ | exact al3_0 _ _ _ _, by first | exact al3_0 _ _ _ _ | exact al3_1 _ _ _ _ | exact al3_2 _ _ _ _, below3 _ _ _ _, by first | exact Nat.le_refl _ | omega⟩
  rintro a4 w4 ⟨E, m, u18, u19, u20, u21, rfl, hE4, hm4, hB4, hEw⟩
  have HE4 := Lib.hid hE4
  have HM4 := Lib.hid hm4
  have HB4 := Lib.hid hB4
  have HEW := Lib.hid hEw
  clear hE4 hm4 hB4 hEw mk16 mk9 c01 c02 c03 c12 c13 c23
  go_step
  go_step
  refine wp_norm (fun a' w' => ∃ (M t g : Nat) (u22 u23 u24 : Value), a' = ⟨#[.int .i64 which, .int .i64 b, undef, undef, .bool false, .pointer (some ⟨E, 0, none⟩), .pointer (some ⟨M, 0, none⟩), undef, undef, undef, undef, undef, undef, .bool true, .bool false, .int .i64 by_, .int .i64 d, .int .i64 b, u18, u19, u20, u21, u22, u23, u24, undef, undef, undef, undef, undef, undef, undef, undef, undef, undef, undef, undef, undef, undef, undef, undef, undef, undef, undef, undef, undef, undef, undef, undef, undef, undef, undef, undef, undef, undef, undef, undef, undef, undef, undef, undef, undef, undef, undef, undef, undef, undef, undef, undef, undef, undef, undef, undef, undef, undef, undef, undef, undef, undef, undef, undef, undef, undef, undef, undef, undef, undef, undef, undef, undef, undef, undef, undef, undef, undef, undef, undef, undef, undef, undef, undef, undef, undef, undef, undef, undef, undef, undef, undef, undef, undef, undef, undef, undef, undef, undef, undef, undef, undef, undef, undef, undef, undef, undef, undef, undef, undef, undef, undef, undef, undef], []⟩ ∧ w'.heap[M]? = some (.cells #[.int .i64 0, .int .i64 0, .int .i64 0, .int .i64 15, .int .i64 0, .int .i64 0, .int .i64 0, .int .i64 0, .bool false, .slice (some ⟨t, 0, none⟩) 64 64, .slice (some ⟨g, 0, none⟩) 64 64, .slice none 0 0, .slice none 0 0] 32 (0, 0)) ∧ w'.heap[t]? = some (.cells (in_C 64) 3 (0, 0)) ∧ w'.heap[g]? = some (.cells (en_C 64) 27 (0, 0)) ∧ Below w4.heap.size w4 w' ∧ w4.heap.size ≤ M) ?_ ?_
  · go_region_law (fail)
    all_goals exact Norm.mk ⟨_, _, _, _, _, _, rfl, by first | exact al3_2 _ _ _ _ | exact al3_1 _ _ _ _ | exact al3_0 _ _ _ _, by first | exact al3_0 _ _ _ _ | exact al3_1 _ _ _ _ | exact al3_2 _ _ _ _, by first | exact al3_0 _ _ _ _ | exact al3_1 _ _ _ _ | exact al3_2 _ _ _ _, below3 _ _ _ _, by first | exact Nat.le_refl _ | omega⟩
  rintro a5 w5 ⟨M, t, g, u22, u23, u24, rfl, hM5, ht5, hg5, hB5, hMw⟩
  have hZs : Z.size = 16 := by rw [HZ.out, str_size]
  have HZS := Lib.hid hZs
  have HE5 := Lib.hid (blk_below HE4.out hB5)
  have HM5' := Lib.hid (blk_below HM4.out hB5)
  have HM5 := Lib.hid hM5
  have HT5 := Lib.hid ht5
  have HG5 := Lib.hid hg5
  have hBw : Below w.heap.size w w5 := below_then HB1.out HB1.out.size (below_then HB4.out HB4.out.size hB5)
  have HBW := Lib.hid hBw
  have hwE : w.heap.size ≤ E := Nat.le_trans HB1.out.size HEW.out
  have hwM : w.heap.size ≤ M := Nat.le_trans HB1.out.size (Nat.le_trans HB4.out.size hMw)
  have qE0w5 : w5.cell? ⟨E, 0, none⟩ = some (.int .i64 4) := blk_cell (HE5.out) 0
  have qE1w5 : w5.cell? ⟨E, 1, none⟩ = some (.int .i64 0) := blk_cell (HE5.out) 1
  have qE2w5 : w5.cell? ⟨E, 2, none⟩ = some (.int .i64 0) := blk_cell (HE5.out) 2
  have qE3w5 : w5.cell? ⟨E, 3, none⟩ = some (.string Z) := blk_cell (HE5.out) 3
  have qE4w5 : w5.cell? ⟨E, 4, none⟩ = some (.slice (some ⟨m, 0, none⟩) 9 9) := blk_cell (HE5.out) 4
  have qE5w5 : w5.cell? ⟨E, 5, none⟩ = some (.int .i64 2) := blk_cell (HE5.out) 5
  have qM0w5 : w5.cell? ⟨M, 0, none⟩ = some (.int .i64 0) := blk_cell (HM5.out) 0
  have qM1w5 : w5.cell? ⟨M, 1, none⟩ = some (.int .i64 0) := blk_cell (HM5.out) 1
  have qM2w5 : w5.cell? ⟨M, 2, none⟩ = some (.int .i64 0) := blk_cell (HM5.out) 2
  have qM3w5 : w5.cell? ⟨M, 3, none⟩ = some (.int .i64 15) := blk_cell (HM5.out) 3
  have qM4w5 : w5.cell? ⟨M, 4, none⟩ = some (.int .i64 0) := blk_cell (HM5.out) 4
  have qM5w5 : w5.cell? ⟨M, 5, none⟩ = some (.int .i64 0) := blk_cell (HM5.out) 5
  have qM6w5 : w5.cell? ⟨M, 6, none⟩ = some (.int .i64 0) := blk_cell (HM5.out) 6
  have qM7w5 : w5.cell? ⟨M, 7, none⟩ = some (.int .i64 0) := blk_cell (HM5.out) 7
  have qM8w5 : w5.cell? ⟨M, 8, none⟩ = some (.bool false) := blk_cell (HM5.out) 8
  have qM9w5 : w5.cell? ⟨M, 9, none⟩ = some (.slice (some ⟨t, 0, none⟩) 64 64) := blk_cell (HM5.out) 9
  have qM10w5 : w5.cell? ⟨M, 10, none⟩ = some (.slice (some ⟨g, 0, none⟩) 64 64) := blk_cell (HM5.out) 10
  have qM11w5 : w5.cell? ⟨M, 11, none⟩ = some (.slice none 0 0) := blk_cell (HM5.out) 11
  have qM12w5 : w5.cell? ⟨M, 12, none⟩ = some (.slice none 0 0) := blk_cell (HM5.out) 12
  have hL5 := Lib.hid (HG.out.below hBw)
  clear hM5 ht5 hg5 hB5 hMw hZs hBw mk64 mke
  go_step
  go_step
  go_wp2_with (first
    | (go_at_call 8
       refine (encE ⟨4, 0, 0, Z, List.replicate 9 0, 2⟩ 9 rfl (some ⟨m, 0, none⟩) 9 0 (by rw [entE_of, textE_in (by rw [HZS.out]; decide)]; decide) w5 hL5.out (in_reads HM5'.out (by decide)) (by show Z.size + 8 * (List.replicate 9 (0 : Int)).length ≤ 600000; rw [HZS.out]; decide)).mono ?_
       rintro r w6 ⟨v6, rfl, hB6⟩
       have qE0w6 : w6.cell? ⟨E, 0, none⟩ = some (.int .i64 4) := blk_cell (blk_below HE5.out hB6) 0
       have qE1w6 : w6.cell? ⟨E, 1, none⟩ = some (.int .i64 0) := blk_cell (blk_below HE5.out hB6) 1
       have qE2w6 : w6.cell? ⟨E, 2, none⟩ = some (.int .i64 0) := blk_cell (blk_below HE5.out hB6) 2
       have qE3w6 : w6.cell? ⟨E, 3, none⟩ = some (.string Z) := blk_cell (blk_below HE5.out hB6) 3
       have qE4w6 : w6.cell? ⟨E, 4, none⟩ = some (.slice (some ⟨m, 0, none⟩) 9 9) := blk_cell (blk_below HE5.out hB6) 4
       have qE5w6 : w6.cell? ⟨E, 5, none⟩ = some (.int .i64 2) := blk_cell (blk_below HE5.out hB6) 5
       have qM0w6 : w6.cell? ⟨M, 0, none⟩ = some (.int .i64 0) := blk_cell (blk_below HM5.out hB6) 0
       have qM1w6 : w6.cell? ⟨M, 1, none⟩ = some (.int .i64 0) := blk_cell (blk_below HM5.out hB6) 1
       have qM2w6 : w6.cell? ⟨M, 2, none⟩ = some (.int .i64 0) := blk_cell (blk_below HM5.out hB6) 2
       have qM3w6 : w6.cell? ⟨M, 3, none⟩ = some (.int .i64 15) := blk_cell (blk_below HM5.out hB6) 3
       have qM4w6 : w6.cell? ⟨M, 4, none⟩ = some (.int .i64 0) := blk_cell (blk_below HM5.out hB6) 4
       have qM5w6 : w6.cell? ⟨M, 5, none⟩ = some (.int .i64 0) := blk_cell (blk_below HM5.out hB6) 5
       have qM6w6 : w6.cell? ⟨M, 6, none⟩ = some (.int .i64 0) := blk_cell (blk_below HM5.out hB6) 6
       have qM7w6 : w6.cell? ⟨M, 7, none⟩ = some (.int .i64 0) := blk_cell (blk_below HM5.out hB6) 7
       have qM8w6 : w6.cell? ⟨M, 8, none⟩ = some (.bool false) := blk_cell (blk_below HM5.out hB6) 8
       have qM9w6 : w6.cell? ⟨M, 9, none⟩ = some (.slice (some ⟨t, 0, none⟩) 64 64) := blk_cell (blk_below HM5.out hB6) 9
       have qM10w6 : w6.cell? ⟨M, 10, none⟩ = some (.slice (some ⟨g, 0, none⟩) 64 64) := blk_cell (blk_below HM5.out hB6) 10
       have qM11w6 : w6.cell? ⟨M, 11, none⟩ = some (.slice none 0 0) := blk_cell (blk_below HM5.out hB6) 11
       have qM12w6 : w6.cell? ⟨M, 12, none⟩ = some (.slice none 0 0) := blk_cell (blk_below HM5.out hB6) 12
       have hL6 := Lib.hid (hL5.out.below hB6)
       have HB6 := Lib.hid hB6
       clear hB6)
    | (go_at_call 9
       go_loud (refine (encM ⟨0, 0, 0, 15, 0, 0, 0, 0, false, List.replicate 64 0, List.replicate 64 ent0, [], []⟩ 64 64 0 0 rfl rfl rfl rfl (some ⟨t, 0, none⟩) (some ⟨g, 0, none⟩) none none 64 64 0 0 0 ((msgE_of 15 64 64 0).trans (by decide)) w6 hL6.out (isMsg 15 64 64 (blk_below HT5.out HB6.out) (blk_below HG5.out HB6.out) (by decide) (by decide))).mono ?_)
       rintro r w7 ⟨v7, rfl, hB7⟩
       have hB57 := below_then HB6.out HB6.out.size hB7
       have qE0w7 : w7.cell? ⟨E, 0, none⟩ = some (.int .i64 4) := blk_cell (blk_below HE5.out hB57) 0
       have qE1w7 : w7.cell? ⟨E, 1, none⟩ = some (.int .i64 0) := blk_cell (blk_below HE5.out hB57) 1
       have qE2w7 : w7.cell? ⟨E, 2, none⟩ = some (.int .i64 0) := blk_cell (blk_below HE5.out hB57) 2
       have qE3w7 : w7.cell? ⟨E, 3, none⟩ = some (.string Z) := blk_cell (blk_below HE5.out hB57) 3
       have qE4w7 : w7.cell? ⟨E, 4, none⟩ = some (.slice (some ⟨m, 0, none⟩) 9 9) := blk_cell (blk_below HE5.out hB57) 4
       have qE5w7 : w7.cell? ⟨E, 5, none⟩ = some (.int .i64 2) := blk_cell (blk_below HE5.out hB57) 5
       have qM0w7 : w7.cell? ⟨M, 0, none⟩ = some (.int .i64 0) := blk_cell (blk_below HM5.out hB57) 0
       have qM1w7 : w7.cell? ⟨M, 1, none⟩ = some (.int .i64 0) := blk_cell (blk_below HM5.out hB57) 1
       have qM2w7 : w7.cell? ⟨M, 2, none⟩ = some (.int .i64 0) := blk_cell (blk_below HM5.out hB57) 2
       have qM3w7 : w7.cell? ⟨M, 3, none⟩ = some (.int .i64 15) := blk_cell (blk_below HM5.out hB57) 3
       have qM4w7 : w7.cell? ⟨M, 4, none⟩ = some (.int .i64 0) := blk_cell (blk_below HM5.out hB57) 4
       have qM5w7 : w7.cell? ⟨M, 5, none⟩ = some (.int .i64 0) := blk_cell (blk_below HM5.out hB57) 5
       have qM6w7 : w7.cell? ⟨M, 6, none⟩ = some (.int .i64 0) := blk_cell (blk_below HM5.out hB57) 6
       have qM7w7 : w7.cell? ⟨M, 7, none⟩ = some (.int .i64 0) := blk_cell (blk_below HM5.out hB57) 7
       have qM8w7 : w7.cell? ⟨M, 8, none⟩ = some (.bool false) := blk_cell (blk_below HM5.out hB57) 8
       have qM9w7 : w7.cell? ⟨M, 9, none⟩ = some (.slice (some ⟨t, 0, none⟩) 64 64) := blk_cell (blk_below HM5.out hB57) 9
       have qM10w7 : w7.cell? ⟨M, 10, none⟩ = some (.slice (some ⟨g, 0, none⟩) 64 64) := blk_cell (blk_below HM5.out hB57) 10
       have qM11w7 : w7.cell? ⟨M, 11, none⟩ = some (.slice none 0 0) := blk_cell (blk_below HM5.out hB57) 11
       have qM12w7 : w7.cell? ⟨M, 12, none⟩ = some (.slice none 0 0) := blk_cell (blk_below HM5.out hB57) 12
       have hL7 := Lib.hid (hL6.out.below hB7)
       have HB7 := Lib.hid hB57
       clear hB7 hB57))
  have hltE : E < w7.heap.size := blk_lt (blk_below HE5.out HB7.out)
  have hltM : M < w7.heap.size := blk_lt (blk_below HM5.out HB7.out)
  have hE0 : 0 < E := Nat.lt_of_lt_of_le (laid_pos HG.out) hwE
  have hM0 : 0 < M := Nat.lt_of_lt_of_le (laid_pos HG.out) hwM
  have HE7 := Lib.hid (blk_below HE5.out HB7.out)
  have HM7 := Lib.hid (blk_below HM5.out HB7.out)
  have Hm7 := Lib.hid (blk_below HM5'.out HB7.out)
  have HT7 := Lib.hid (blk_below HT5.out HB7.out)
  have HG7 := Lib.hid (blk_below HG5.out HB7.out)
  have HBW7 := Lib.hid (below_then HBW.out HBW.out.size HB7.out)
  have fE0 : w7.frozen? ⟨E, 0, none⟩ = false := blk_frozen HE7.out 0
  have fE3 : w7.frozen? ⟨E, 3, none⟩ = false := blk_frozen HE7.out 3
  have fE4 : w7.frozen? ⟨E, 4, none⟩ = false := blk_frozen HE7.out 4
  have fE5 : w7.frozen? ⟨E, 5, none⟩ = false := blk_frozen HE7.out 5
  have fM3 : w7.frozen? ⟨M, 3, none⟩ = false := blk_frozen HM7.out 3
  have fM9 : w7.frozen? ⟨M, 9, none⟩ = false := blk_frozen HM7.out 9
  have fM10 : w7.frozen? ⟨M, 10, none⟩ = false := blk_frozen HM7.out 10
  have LE := fun i v => Lib.hid (laid_keep hL7.out (st_keep w7 E i v) hE0)
  have LM := fun i v => Lib.hid (laid_keep hL7.out (st_keep w7 M i v) hM0)
  have RE := fun i v => Lib.hid ((st_keep w7 E i v).blk Hm7.out (ne_blk Hm7.out HE7.out (by decide)))
  have RT := fun i v => Lib.hid ((st_keep w7 M i v).blk HT7.out (ne_blk HT7.out HM7.out (by decide)))
  have RG := fun i v => Lib.hid ((st_keep w7 M i v).blk HG7.out (ne_blk HG7.out HM7.out (by decide)))
  refine (within_any which 8 _ (by decide) (by decide)).mono ?_
  rintro e w8 ⟨rfl, rfl⟩
  have e16 : textE Z = 0 := textE_in (by rw [HZS.out]; decide)
  have hlZ : ∀ k n, Z.size + 8 * (List.replicate n (0 : Int)).length ≤ 600000 ∨ 1000 < n ∨ k = 0 := fun k n => by rw [HZS.out, List.length_replicate]; omega
  rcases eight_ways which with h8 | h8 | h8 | h8 | h8 | h8 | h8 | h8
  all_goals rw [h8]
  all_goals clear h8
  · go_wp2_with (go_at_call 8
                 refine (encE ⟨4 + b, 0, 0, Z, List.replicate 9 0, 2⟩ 9 rfl (some ⟨m, 0, none⟩) 9 3 (by rw [entE_of, e16, kindsE_out (by omega)]; decide) _ (LE 0 _).out (in_reads (RE 0 _).out (by decide)) (by show Z.size + 8 * (List.replicate 9 (0 : Int)).length ≤ 600000; rw [HZS.out]; decide)).mono ?_
                 rintro r w9 ⟨v9, rfl, hB9⟩
                 have HB9 := Lib.hid (below_then (bel_set HBW7.out hwE) (bel_set HBW7.out hwE).size hB9)
                 clear hB9)
    go_ret
    exact ⟨rfl, HB9.out⟩
  · obtain ⟨nb, hnb⟩ : ∃ n : Nat, b = (n : Int) := ⟨b.toNat, by omega⟩
    have hnb0 : 1 ≤ nb := by omega
    have hnb1 : nb ≤ 20 := by omega
    have hmk := mk_by b nb hnb (by omega)
    obtain ⟨ZB, hZB⟩ : ∃ Z, Z = strOfNums (List.replicate nb 0) := ⟨_, rfl⟩
    have hZBs : ZB.size = nb := by rw [hZB, str_size]
    have hcv := cv_at hZB (by omega) (W := (w7.alloc (.cells (by_C nb) 5)).drew) (g := w7.heap.size) (heap_alloc_new w7 _)
    have HNB := Lib.hid hnb
    have HZB := Lib.hid hZB
    have HZBS := Lib.hid hZBs
    clear hnb hZB
    have hZ16 := HZS.out
    have hnc : ¬ (9223372036854775807 < 16 + nb) := by omega
    have hts : 16 < (Z ++ ZB).size ∧ (Z ++ ZB).size ≤ 100 := by rw [ByteArray.size_append, hZ16, hZBs]; omega
    have HTS := Lib.hid hts
    clear hts
    go_wp2_with fail
    refine wp_norm (Rel19 w w7 which b by_ d E M m u18 u19 u20 u21 u22 u23 u24 v6 v7) ?_ ?_
    · go_region_law (fail)
      all_goals exact Norm.mk (Rel19.mk rfl HTS.out.1 HTS.out.2 (set_al HE7.out Hm7.out (ne_blk Hm7.out HE7.out (by decide)) hL7.out hE0 HBW7.out hwE _))
    rintro a9 w9 ⟨S, x25, x26, x27, x28, x29, x30, x31, x32, x33, x34, x35, x36, x37, x38, x39, x40, x41, x42, x43, x44, x45, x46, x47, x48, x49, x50, x51, x52, x53, x54, x55, x56, x57, x58, x59, x60, x61, x62, x63, x64, rfl, hS1, hS2, hE9, hm9, hL9, hB9⟩
    have qE0w9 : w9.cell? ⟨E, 0, none⟩ = some (.int .i64 4) := blk_cell hE9 0
    have qE1w9 : w9.cell? ⟨E, 1, none⟩ = some (.int .i64 0) := blk_cell hE9 1
    have qE2w9 : w9.cell? ⟨E, 2, none⟩ = some (.int .i64 0) := blk_cell hE9 2
    have qE3w9 : w9.cell? ⟨E, 3, none⟩ = some (.string S) := blk_cell hE9 3
    have qE4w9 : w9.cell? ⟨E, 4, none⟩ = some (.slice (some ⟨m, 0, none⟩) 9 9) := blk_cell hE9 4
    have qE5w9 : w9.cell? ⟨E, 5, none⟩ = some (.int .i64 2) := blk_cell hE9 5
    have Hm9 := Lib.hid hm9
    have HL9 := Lib.hid hL9
    have HB9 := Lib.hid hB9
    have e5 : textE S = 5 := textE_out hS1
    clear hm9 hL9 hB9
    go_step
    go_step
    go_wp2_with (go_at_call 8
                 refine (encE ⟨4, 0, 0, S, List.replicate 9 0, 2⟩ 9 rfl (some ⟨m, 0, none⟩) 9 5 (by rw [entE_of, e5]; decide) w9 HL9.out (in_reads Hm9.out (by decide)) (by show S.size + 8 * (List.replicate 9 (0 : Int)).length ≤ 600000; rw [List.length_replicate]; omega)).mono ?_
                 rintro r w10 ⟨v10, rfl, hB10⟩
                 have HB10 := Lib.hid (below_then HB9.out HB9.out.size hB10)
                 clear hB10)
    go_ret
    exact ⟨rfl, HB10.out⟩
  · obtain ⟨n, hn⟩ : ∃ n : Nat, 9 + b = (n : Int) := ⟨(9 + b).toNat, by omega⟩
    have hmk := mk_in (n : Int) n rfl (by omega)
    have LA := fun v => Lib.hid ((laid_keep hL7.out (st_keep w7 E 4 v) hE0).alloc (.cells (in_C n) 3))
    have RA := fun v => Lib.hid (new_set w7 E 4 v (.cells (in_C n) 3))
    go_wp2_with (go_at_call 8
                 go_loud (refine (encE ⟨4, 0, 0, Z, List.replicate n 0, 2⟩ n (List.length_replicate ..).symm (some ⟨w7.heap.size, 0, none⟩) n 4 (by rw [entE_of, e16, manyE_out (by omega)]; decide) _ (LA _).out (in_reads (RA _).out (by omega)) (by show Z.size + 8 * (List.replicate n (0 : Int)).length ≤ 600000; rw [HZS.out, List.length_replicate]; omega)).mono ?_)
                 rintro r w9 ⟨v9, rfl, hB9⟩
                 have HB9 := Lib.hid (below_then (bel_al (bel_set HBW7.out hwE) _) (bel_al (bel_set HBW7.out hwE) _).size hB9)
                 clear hB9)
    go_ret
    exact ⟨rfl, HB9.out⟩
  · go_wp2_with (go_at_call 8
                 go_loud (refine (encE ⟨4, 0, 0, Z, List.replicate 9 0, 2 + b⟩ 9 rfl (some ⟨m, 0, none⟩) 9 3 (by rw [entE_of, e16, kindsE_out (n := 2 + b) (by omega)]; decide) _ (LE 5 _).out (in_reads (RE 5 _).out (by decide)) (by show Z.size + 8 * (List.replicate 9 (0 : Int)).length ≤ 600000; rw [HZS.out]; decide)).mono ?_)
                 rintro r w9 ⟨v9, rfl, hB9⟩
                 have HB9 := Lib.hid (below_then (bel_set HBW7.out hwE) (bel_set HBW7.out hwE).size hB9)
                 clear hB9)
    go_ret
    exact ⟨rfl, HB9.out⟩
  · go_wp2_with (go_at_call 9
                 go_loud (refine (encM ⟨0, 0, 0, 15 + b, 0, 0, 0, 0, false, List.replicate 64 0, List.replicate 64 ent0, [], []⟩ 64 64 0 0 rfl rfl rfl rfl (some ⟨t, 0, none⟩) (some ⟨g, 0, none⟩) none none 64 64 0 0 3 ((msgE_of (15 + b) 64 64 0).trans (by rw [kindsE_out (by omega)]; decide)) _ (LM 3 _).out (isMsg (15 + b) 64 64 (RT 3 _).out (RG 3 _).out (by decide) (by decide))).mono ?_)
                 rintro r w9 ⟨v9, rfl, hB9⟩
                 have HB9 := Lib.hid (below_then (bel_set HBW7.out hwM) (bel_set HBW7.out hwM).size hB9)
                 clear hB9)
    go_ret
    exact ⟨rfl, HB9.out⟩
  · obtain ⟨n, hn⟩ : ∃ n : Nat, 64 + b = (n : Int) := ⟨(64 + b).toNat, by omega⟩
    have hmk := mk_in (n : Int) n rfl (by omega)
    have LA := fun v => Lib.hid ((laid_keep hL7.out (st_keep w7 M 9 v) hM0).alloc (.cells (in_C n) 3))
    have RA := fun v => Lib.hid (new_set w7 M 9 v (.cells (in_C n) 3))
    have RB := fun v => Lib.hid (blk_alloc ((st_keep w7 M 9 v).blk HG7.out (ne_blk HG7.out HM7.out (by decide))) (.cells (in_C n) 3))
    go_wp2_with (go_at_call 9
                 go_loud (refine (encM ⟨0, 0, 0, 15, 0, 0, 0, 0, false, List.replicate n 0, List.replicate 64 ent0, [], []⟩ n 64 0 0 (List.length_replicate ..).symm rfl rfl rfl (some ⟨w7.heap.size, 0, none⟩) (some ⟨g, 0, none⟩) none none n 64 0 0 4 ((msgE_of 15 n 64 0).trans (by rw [manyE_out (by omega)]; decide)) _ (LA _).out (isMsg 15 n 64 (RA _).out (RB _).out (by omega) (by decide))).mono ?_)
                 rintro r w9 ⟨v9, rfl, hB9⟩
                 have HB9 := Lib.hid (below_then (bel_al (bel_set HBW7.out hwM) _) (bel_al (bel_set HBW7.out hwM) _).size hB9)
                 clear hB9)
    go_ret
    exact ⟨rfl, HB9.out⟩
  · obtain ⟨n, hn⟩ : ∃ n : Nat, 64 + b = (n : Int) := ⟨(64 + b).toNat, by omega⟩
    have hmk := mk_en (n : Int) n rfl (by omega)
    have LA := fun v => Lib.hid ((laid_keep hL7.out (st_keep w7 M 10 v) hM0).alloc (.cells (en_C n) 27))
    have RA := fun v => Lib.hid (new_set w7 M 10 v (.cells (en_C n) 27))
    have RB := fun v => Lib.hid (blk_alloc ((st_keep w7 M 10 v).blk HT7.out (ne_blk HT7.out HM7.out (by decide))) (.cells (en_C n) 27))
    go_wp2_with (go_at_call 9
                 go_loud (refine (encM ⟨0, 0, 0, 15, 0, 0, 0, 0, false, List.replicate 64 0, List.replicate n ent0, [], []⟩ 64 n 0 0 rfl (List.length_replicate ..).symm rfl rfl (some ⟨t, 0, none⟩) (some ⟨w7.heap.size, 0, none⟩) none none 64 n 0 0 4 ((msgE_of 15 64 n 0).trans (by rw [manyE_out (n := (n : Int)) (by omega)]; decide)) _ (LA _).out (isMsg 15 64 n (RB _).out (RA _).out (by decide) (by omega))).mono ?_)
                 rintro r w9 ⟨v9, rfl, hB9⟩
                 have HB9 := Lib.hid (below_then (bel_al (bel_set HBW7.out hwM) _) (bel_al (bel_set HBW7.out hwM) _).size hB9)
                 clear hB9)
    go_ret
    exact ⟨rfl, HB9.out⟩
  · obtain ⟨n, hn⟩ : ∃ n : Nat, 9 + b = (n : Int) := ⟨(9 + b).toNat, by omega⟩
    have hmk := mk_in (n : Int) n rfl (by omega)
    go_wp2_with (go_at_call 10
                 go_loud (refine (encC n (some ⟨w7.heap.size, 0, none⟩) n 4 (by rw [manyE_out (n := (n : Int)) (by omega)]; decide) _ (hL7.out.alloc _) (in_reads (heap_alloc_new w7 _) (by omega)) (by omega)).mono ?_)
                 rintro r w9 ⟨v9, rfl, hB9⟩
                 have HB9 := Lib.hid (below_then (bel_al HBW7.out _) (bel_al HBW7.out _).size hB9)
                 clear hB9)
    go_ret
    exact ⟨rfl, HB9.out⟩
theorem bounds_row (a0 a1 : Int) (w : World) (hg : Laid w) (_ : (Lit.int .i64 a0).wf = true) (_ : (Lit.int .i64 a1).wf = true) :
    Calls Tryd.prog 3 #[.int .i64 a0, .int .i64 a1] w fun e w' => e = .returned (.bool true) ∧ Below w.heap.size w w' := bounds_any a0 a1 w hg
end Go.Proofs.YtkdlghbfplhkpaaDoor
