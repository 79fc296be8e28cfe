/- The walk of twin, at generations whose members are not joint. -/
import Derived.Test.YtjgdglbfnjjmmaaDoorCheckW
import Derived.Deep.RegionLaw
set_option linter.unusedVariables false
set_option linter.unusedSimpArgs false
namespace Go.Proofs.YtjgdglbfnjjmmaaDoor
open Go.RowKit Go.Proofs.YtjgdglbfnjjmmaaDoorW.PrintWords Go.Proofs.Mine

/-- A generation: its number, its engine, its base, its members. -/
structure Gn where
  n : Int
  e : Int
  b : Int
  l : List Int
/-- As a value, the members' row being v. -/
def Gn.val (g : Gn) (v : Value) : Value := .agg #[.int .i64 g.n, .int .i64 g.e, .int .i64 g.b, .slice none 0 0, v]
def Gn.cells (p : Gn × Value) : List Value := [.int .i64 p.1.n, .int .i64 p.1.e, .int .i64 p.1.b, .slice none 0 0, p.2]
/-- A block's five cells, each written. -/
def set5 (W : World) (B : Nat) (x0 x1 x2 x3 x4 : Value) : World := ((((W.setCell ⟨B, 0, none⟩ x0).setCell ⟨B, 1, none⟩ x1).setCell ⟨B, 2, none⟩ x2).setCell ⟨B, 3, none⟩ x3).setCell ⟨B, 4, none⟩ x4
theorem set5_blk {W : World} {B t : Nat} {a0 a1 a2 a3 a4 : Value} (h : W.heap[B]? = some (.cells #[a0, a1, a2, a3, a4] t (0, 0))) (x0 x1 x2 x3 x4 : Value) :
    (set5 W B x0 x1 x2 x3 x4).heap[B]? = some (.cells #[x0, x1, x2, x3, x4] t (0, 0)) :=
  blk_set (blk_set (blk_set (blk_set (blk_set h 0 x0) 1 x1) 2 x2) 3 x3) 4 x4
theorem set5_below {W : World} {B n : Nat} {w : World} (h : Below n w W) (hb : n ≤ B) (x0 x1 x2 x3 x4 : Value) : Below n w (set5 W B x0 x1 x2 x3 x4) :=
  ((((h.setCell hb x0).setCell hb x1).setCell hb x2).setCell hb x3).setCell hb x4
theorem set5_other {W : World} {B k : Nat} (x0 x1 x2 x3 x4 : Value) (h : k ≠ B) : (set5 W B x0 x1 x2 x3 x4).heap[k]? = W.heap[k]? := by
  unfold set5
  rw [Below.heap_setCell _ _ _ _ h, Below.heap_setCell _ _ _ _ h, Below.heap_setCell _ _ _ _ h, Below.heap_setCell _ _ _ _ h, Below.heap_setCell _ _ _ _ h]
/-- A struct of five cells, read as a result. -/
theorem five_res (P : Program) (f : Func) (a : Array Value) (W : World) (B t : Nat) (x0 x1 x2 x3 x4 : Value) (hb : W.heap[B]? = some (.cells #[x0, x1, x2, x3, x4] t (0, 0)))
    (hr : W.cell? ⟨B, 0, none⟩ = some x0 → W.cell? ⟨B, 1, none⟩ = some x1 → W.cell? ⟨B, 2, none⟩ = some x2 → W.cell? ⟨B, 3, none⟩ = some x3 → W.cell? ⟨B, 4, none⟩ = some x4 → (results f a).run P W = .ok (.agg #[x0, x1, x2, x3, x4]) W) :
    (results f a).run P W = .ok (.agg #[x0, x1, x2, x3, x4]) W :=
  hr (blk_cell hb 0) (blk_cell hb 1) (blk_cell hb 2) (blk_cell hb 3) (blk_cell hb 4)
set_option maxRecDepth 100000 in
set_option maxHeartbeats 1000000 in
theorem twin_any (w : World) (g : Gn) (ad : Addr) (len cap : Nat) (hr : (Kd.int .i64).C w (some ad) len g.l) (hn : len ≤ 1000000) :
    Calls Tryd.prog 27 #[g.val (.slice (some ad) len cap)] w fun e w' => ∃ v, e = .returned (g.val v) ∧ (Kd.int .i64).R 3 w' w.heap.size (fun k => w.heap.size ≤ k) v g.l ∧ Below w.heap.size w w' := by
  obtain ⟨n, en, b, l⟩ := g
  have HR := Lib.hid hr
  clear hr
  unfold Gn.val
  have hb0 := blk_alloc (heap_alloc_new w (.cells #[.int .i64 n, .int .i64 en, .int .i64 b, .slice none 0 0, .slice (some ad) len cap] 32)) (.cells #[.int .i64 0, .int .i64 0, .int .i64 0, .slice none 0 0, .slice none 0 0] 32)
  have hb1 := heap_alloc_new (w.alloc (.cells #[.int .i64 n, .int .i64 en, .int .i64 b, .slice none 0 0, .slice (some ad) len cap] 32)) (.cells #[.int .i64 0, .int .i64 0, .int .i64 0, .slice none 0 0, .slice none 0 0] 32)
  have hB0 := ((Below.refl w.heap.size w).alloc (Nat.le_refl _) (.cells #[.int .i64 n, .int .i64 en, .int .i64 b, .slice none 0 0, .slice (some ad) len cap] 32)).alloc (by simp) (.cells #[.int .i64 0, .int .i64 0, .int .i64 0, .slice none 0 0, .slice none 0 0] 32)
  go_enter Tryd.func27, Tryd.ntmps27
  go_wp2
  generalize hW : (w.alloc _).alloc _ = W at *
  have hsz : W.heap.size = w.heap.size + 2 := by rw [← hW]; simp
  have HB0 := Lib.hid hB0
  have Hb0 := Lib.hid hb0
  have Hb1 := Lib.hid hb1
  have hc3 : W.drew.cell? ⟨w.heap.size, 3, none⟩ = some (.slice none 0 0) := blk_cell hb0 3
  have hc4 : W.drew.cell? ⟨w.heap.size, 4, none⟩ = some (.slice (some ad) len cap) := blk_cell hb0 4
  have hf3 : W.drew.frozen? ⟨w.heap.size, 3, none⟩ = false := blk_frozen hb0 3
  have hf4 : W.drew.frozen? ⟨w.heap.size, 4, none⟩ = false := blk_frozen hb0 4
  have HRd : RowKit.Hid ((Kd.int .i64).C W.drew (some ad) len l) := Kd.C_below HR.out (w1 := W.drew) ⟨hB0.os, hB0.tape, hB0.output, hB0.size, hB0.block⟩
  clear hb0 hb1 hB0 hW
  have HSZ := Lib.hid hsz
  clear hsz
  go_region_law (first
    | (go_simp; go_at_call 49; refine (clone_nil _).mono ?_; rintro e w' ⟨rfl, rfl⟩)
    | (go_simp; go_at_call 49; refine (clone_some _ ad len cap l HRd.out hn).mono ?_; rintro e w' ⟨v, rfl, hR, hB⟩
       have HB1 : RowKit.Hid (Below W.heap.size W w') := ⟨hB.os, hB.tape, hB.output, hB.size, hB.block⟩
       obtain ⟨A1, c1, rfl⟩ := Kd.R_slice hR
       have HR1 := Lib.hid hR
       have q3 : w'.cell? ⟨w.heap.size, 3, none⟩ = some (.slice none 0 0) := blk_cell (blk_below Hb0.out HB1.out) 3
       have q4 : w'.cell? ⟨w.heap.size, 4, none⟩ = some (.slice (some ad) len cap) := blk_cell (blk_below Hb0.out HB1.out) 4
       have f3 : w'.frozen? ⟨w.heap.size, 3, none⟩ = false := blk_frozen (blk_below Hb0.out HB1.out) 3
       have f4 : w'.frozen? ⟨w.heap.size, 4, none⟩ = false := blk_frozen (blk_below Hb0.out HB1.out) 4
       clear hR hB))
  all_goals
    have hbl0 := blk_set (blk_set (blk_below Hb0.out HB1.out) 3 (.slice none 0 0)) 4 (.slice A1 l.length c1)
    have hbl1 : ((w'.setCell ⟨w.heap.size, 3, none⟩ (.slice none 0 0)).setCell ⟨w.heap.size, 4, none⟩ (.slice A1 l.length c1)).heap[w.heap.size + 1]? = some (.cells #[.int .i64 0, .int .i64 0, .int .i64 0, .slice none 0 0, .slice none 0 0] 32 (0, 0)) := by
      have h1 := blk_below Hb1.out HB1.out
      rw [show (w.alloc (.cells #[.int .i64 n, .int .i64 en, .int .i64 b, .slice none 0 0, .slice (some ad) len cap] 32)).heap.size = w.heap.size + 1 from by simp] at h1
      rw [Below.heap_setCell _ _ _ _ (by simp), Below.heap_setCell _ _ _ _ (by simp)]; exact h1
    have hKeep : Below w.heap.size w ((w'.setCell ⟨w.heap.size, 3, none⟩ (.slice none 0 0)).setCell ⟨w.heap.size, 4, none⟩ (.slice A1 l.length c1)) :=
      ((HB0.out.trans (HB1.out.mono (by have := HSZ.out; omega))).setCell (Nat.le_refl _) _).setCell (Nat.le_refl _) _
    have hR3 : (Kd.int .i64).R 3 ((w'.setCell ⟨w.heap.size, 3, none⟩ (.slice none 0 0)).setCell ⟨w.heap.size, 4, none⟩ (.slice A1 l.length c1)) w.heap.size (fun k => w.heap.size + 2 ≤ k) (.slice A1 l.length c1) l := by
      have h1 : (Kd.int .i64).R 3 w' w.heap.size (fun k => w.heap.size + 2 ≤ k) (.slice A1 l.length c1) l := Kd.R_mono (Kd.R_lower HR1.out (by have := HSZ.out; show w.heap.size ≤ W.heap.size; omega)) (fun k hk => by have := HSZ.out; have hk' : W.heap.size ≤ k := hk; omega)
      exact Kd.R_step h1 fun k hk hlt => by rw [Below.heap_setCell _ _ _ _ (by show k ≠ w.heap.size; omega), Below.heap_setCell _ _ _ _ (by show k ≠ w.heap.size; omega)]
    have HK3 := Lib.hid hKeep
    have HR3 := Lib.hid hR3
    clear hKeep hR3 q3 q4 f3 f4 HB1 HR1 hc3 hc4 hf3 hf4 HRd Hb0 Hb1
    generalize (w'.setCell ⟨w.heap.size, 3, none⟩ (.slice none 0 0)).setCell ⟨w.heap.size, 4, none⟩ (.slice A1 l.length c1) = W3 at *
    have hbl : W3.heap[w.heap.size]? = some (.cells #[.int .i64 n, .int .i64 en, .int .i64 b, .slice none 0 0, .slice A1 l.length c1] 32 (0, 0)) := hbl0
    have c0 := blk_cell hbl 0
    have c1' := blk_cell hbl 1
    have c2 := blk_cell hbl 2
    have c3 := blk_cell hbl 3
    have c4 := blk_cell hbl 4
    have d0 := blk_cell hbl1 0
    have d1 := blk_cell hbl1 1
    have d2 := blk_cell hbl1 2
    have d3 := blk_cell hbl1 3
    have d4 := blk_cell hbl1 4
    have f0 := blk_frozen hbl1 0
    have f1 := blk_frozen hbl1 1
    have f2 := blk_frozen hbl1 2
    have f3 := blk_frozen hbl1 3
    have f4 := blk_frozen hbl1 4
    have HBL1 := Lib.hid hbl1
    clear hbl0 hbl hbl1
    go_wp2
    have HF := Lib.hid (set5_blk HBL1.out (.int .i64 n) (.int .i64 en) (.int .i64 b) (.slice none 0 0) (.slice A1 l.length c1))
    have HFB := Lib.hid (set5_below HK3.out (show w.heap.size ≤ w.heap.size + 1 by omega) (.int .i64 n) (.int .i64 en) (.int .i64 b) (.slice none 0 0) (.slice A1 l.length c1))
    have HFR := Lib.hid (Kd.R_step HR3.out (w1 := set5 W3 (w.heap.size + 1) (.int .i64 n) (.int .i64 en) (.int .i64 b) (.slice none 0 0) (.slice A1 l.length c1)) (fun k hk hlt => set5_other _ _ _ _ _ (by omega)))
    change bodyPost _ _ _ _ _ (set5 W3 (w.heap.size + 1) (.int .i64 n) (.int .i64 en) (.int .i64 b) (.slice none 0 0) (.slice A1 l.length c1))
    generalize set5 W3 (w.heap.size + 1) (.int .i64 n) (.int .i64 en) (.int .i64 b) (.slice none 0 0) (.slice A1 l.length c1) = W4 at *
    exact bodyPost_ret (v := .agg #[.int .i64 n, .int .i64 en, .int .i64 b, .slice none 0 0, .slice A1 l.length c1]) (five_res _ _ _ _ (w.heap.size + 1) 32 _ _ _ _ _ HF.out (fun h0 h1 h2 h3 h4 => by simp [results, Tryd.results27, go_sem, h0, h1, h2, h3, h4])) rfl ⟨_, rfl, Kd.R_mono HFR.out (fun k hk => by omega), HFB.out⟩
/-- twin, spelled as a walk meets it. -/
theorem twin_lit (w : World) (n en b : Int) (l : List Int) (ad : Addr) (len cap : Nat) (hr : (Kd.int .i64).C w (some ad) len l) (hn : len ≤ 1000000) :
    Calls Tryd.prog 27 #[.agg #[.int .i64 n, .int .i64 en, .int .i64 b, .slice none 0 0, .slice (some ad) len cap]] w fun e w' => ∃ A c, e = .returned (.agg #[.int .i64 n, .int .i64 en, .int .i64 b, .slice none 0 0, .slice A l.length c]) ∧ (Kd.int .i64).R 3 w' w.heap.size (fun k => w.heap.size ≤ k) (.slice A l.length c) l ∧ Below w.heap.size w w' := by
  refine (twin_any w ⟨n, en, b, l⟩ ad len cap hr hn).mono ?_
  rintro e w' ⟨v, rfl, hR, hB⟩
  obtain ⟨A, c, rfl⟩ := Kd.R_slice hR
  exact ⟨A, c, rfl, hR, hB⟩
end Go.Proofs.YtjgdglbfnjjmmaaDoor
