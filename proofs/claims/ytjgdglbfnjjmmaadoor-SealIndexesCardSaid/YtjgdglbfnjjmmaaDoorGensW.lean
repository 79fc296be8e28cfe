/- Generations in memory; the walk of Now. -/
import Derived.Test.YtjgdglbfnjjmmaaDoorTwinW
import Derived.Test.YtjgdglbfnjjmmaaDoorRowF
set_option linter.unusedVariables false
set_option linter.unusedSimpArgs false
namespace Go.Proofs.YtjgdglbfnjjmmaaDoor
open Go.RowKit Go.Proofs.YtjgdglbfnjjmmaaDoorW.PrintWords Go.Proofs.Mine

/-- A generation as it lies: where its members lie. -/
structure Ge where
  g : Gn
  A : Option Addr
  c : Nat
def Ge.v (x : Ge) : Value := .slice x.A x.g.l.length x.c
def Ge.cells (x : Ge) : List Value := [.int .i64 x.g.n, .int .i64 x.g.e, .int .i64 x.g.b, .slice none 0 0, x.v]
def geK : Kd Ge := Mine.Kd.fixed Ge.cells 5 (fun _ => rfl) (fun m u hu => by simp only [Ge.cells, List.mem_cons, List.not_mem_nil, or_false] at hu; rcases hu with rfl | rfl | rfl | rfl | rfl <;> rfl)
/-- The members lie in rows of the call's own; there are some. -/
def RowsOk (w : World) (base : Nat) (F : Nat → Prop) (xs : List Ge) : Prop := ∀ x ∈ xs, (Kd.int .i64).R 3 w base F x.v x.g.l ∧ 0 < x.g.l.length ∧ x.g.l.length ≤ 7
/-- Generations at block b; their blocks are of F. -/
def GensAt (w : World) (base : Nat) (F : Nat → Prop) (b : Nat) (xs : List Ge) : Prop :=
  F b ∧ (∀ k, F k → base ≤ k ∧ k < w.heap.size) ∧ ∃ vl, w.heap[b]? = some (.cells #[vl] 64 (0, 0)) ∧ geK.R 32 w base F vl xs ∧ RowsOk w base F xs
theorem RowsOk.keep {w w1 : World} {base : Nat} {F G : Nat → Prop} {xs : List Ge} (h : RowsOk w base F xs) (k : Keep G w w1) (hg : ∀ j, F j → ¬ G j) : RowsOk w1 base F xs :=
  fun x hx => ⟨k.R (h x hx).1 hg, (h x hx).2⟩
theorem RowsOk.mono {w : World} {base : Nat} {F G : Nat → Prop} {xs : List Ge} (h : RowsOk w base F xs) (hg : ∀ j, F j → j < w.heap.size → G j) : RowsOk w base G xs :=
  fun x hx => ⟨Kd.R_mono (Kd.R_bound (h x hx).1) fun k hk => hg k hk.1 hk.2.2.1, (h x hx).2⟩
theorem GensAt.keep {w w1 : World} {base b : Nat} {F G : Nat → Prop} {xs : List Ge} (h : GensAt w base F b xs) (k : Keep G w w1) (hg : ∀ j, F j → ¬ G j) : GensAt w1 base F b xs := by
  obtain ⟨h1, h2, vl, hb, hR, hO⟩ := h
  exact ⟨h1, fun j hj => ⟨(h2 j hj).1, Nat.lt_of_lt_of_le (h2 j hj).2 k.size⟩, vl, k.blk hb (hg b h1), k.R hR hg, hO.keep k hg⟩
theorem GensAt.below {w w1 : World} {base b : Nat} {F : Nat → Prop} {xs : List Ge} (h : GensAt w base F b xs) (k : Below w.heap.size w w1) : GensAt w1 base F b xs :=
  h.keep (Keep.of_below k (fun _ => False)) (fun _ _ h => h)
theorem GensAt.alloc {w : World} {base b : Nat} {F : Nat → Prop} {xs : List Ge} (h : GensAt w base F b xs) (o : Obj) : GensAt (w.alloc o) base F b xs :=
  h.keep ((Keep.refl (fun _ => False) w).alloc o) (fun _ _ h => h)
/-- The five cells of a generation, as a walk spells their places. -/
def GeCells (W : World) (a : Addr) (x : Ge) : Prop :=
  W.cell? a = some (.int .i64 x.g.n) ∧ W.cell? ⟨a.block, a.off + 1, none⟩ = some (.int .i64 x.g.e) ∧ W.cell? ⟨a.block, a.off + 2, none⟩ = some (.int .i64 x.g.b) ∧ W.cell? ⟨a.block, a.off + 3, none⟩ = some (.slice none 0 0) ∧ W.cell? ⟨a.block, a.off + 4, none⟩ = some x.v
theorem addAdd (a : Addr) (i j : Nat) : a.add (i + j) = (a.add i).add j := by
  unfold Addr.add
  by_cases h1 : i = 0 <;> by_cases h2 : j = 0 <;> simp [h1, h2, Nat.add_assoc]
theorem geCells_of {W : World} {a : Addr} {x : Ge} (h : ∀ j u, x.cells[j]? = some u → W.cell? (a.add j) = some u) : GeCells W a x := by
  refine ⟨by simpa [Addr.add] using h 0 _ rfl, by simpa [Addr.add] using h 1 _ rfl, by simpa [Addr.add] using h 2 _ rfl, by simpa [Addr.add] using h 3 _ rfl, by simpa [Addr.add] using h 4 _ rfl⟩
/-- One generation of a row, opened. -/
theorem ge_get {w : World} {e base : Nat} {ok : Nat → Prop} {g : Nat} {n c : Nat} {xs : List Ge} (h : geK.R e w base ok (.slice (some ⟨g, 0, none⟩) n c) xs) (k : Nat) (hk : k < xs.length) : GeCells w ⟨g, k * 5, none⟩ xs[k] := by
  obtain ⟨hn, hc, hC⟩ := Kd.R_reads' h
  obtain ⟨ad, cs, hAd, hcl, hK, hcell⟩ := Kd.C_get hC xs[k] (k : Int) (by omega) (by omega)
  cases hAd
  rw [Int.toNat_natCast] at hK hcell
  have e : xs.getD k xs[k] = xs[k] := by simp [List.getD_eq_getElem?_getD, hk]
  rw [e] at hK
  have hcs : cs = (xs[k]).cells := hK
  subst hcs
  have : (⟨g, k * 5, none⟩ : Addr) = (⟨g, 0, none⟩ : Addr).add (k * 5) := by rw [add_plain]
  rw [this]
  exact geCells_of fun j u hj => by rw [← addAdd]; exact hcell j u hj
/-- Where a row that is not empty lies. -/
theorem ge_row {w : World} {e base : Nat} {ok : Nat → Prop} {v : Value} {xs : List Ge} (h : geK.R e w base ok v xs) (hx : 0 < xs.length) : ∃ g cap, v = .slice (some ⟨g, 0, none⟩) xs.length cap ∧ ok g ∧ base ≤ g ∧ xs.length ≤ cap ∧ cap ≤ maxLen := by
  rcases fixR_iff.1 h with ⟨_, rfl⟩ | ⟨g, cap, cur, rfl, h0, h1, h2, h3, h4, _⟩
  · simp at hx
  · exact ⟨g, cap, rfl, h0, h1, h3, h4⟩
/-- The members of one. -/
theorem mem_row {w : World} {base : Nat} {F : Nat → Prop} {x : Ge} (h : (Kd.int .i64).R 3 w base F x.v x.g.l) (h0 : 0 < x.g.l.length) : ∃ ad, x.A = some ad ∧ (Kd.int .i64).C w (some ad) x.g.l.length x.g.l := by
  obtain ⟨A, c, he, hl, hC⟩ := Kd.R_reads h
  unfold Ge.v at he
  cases he
  obtain ⟨ad, _, hAd, _⟩ := Kd.C_get hC 0 0 (by omega) (by omega)
  exact ⟨ad, hAd, hAd ▸ hC⟩
/-- A generation of the call's own, stored in a result's block. -/
theorem stored5 {w W w' : World} {B : Nat} {x0 x1 x2 x3 : Value} {v : Value} {l : List Int} {a0 a1 a2 a3 a4 : Value} (hB : w.heap.size ≤ B) (hb : W.heap[B]? = some (.cells #[a0, a1, a2, a3, a4] 32 (0, 0))) (h0 : Below w.heap.size w W) (h1 : Below W.heap.size W w')
    (hR : (Kd.int .i64).R 3 w' W.heap.size (fun k => W.heap.size ≤ k) v l) :
    (set5 w' B x0 x1 x2 x3 v).heap[B]? = some (.cells #[x0, x1, x2, x3, v] 32 (0, 0)) ∧ Below w.heap.size w (set5 w' B x0 x1 x2 x3 v) ∧ (Kd.int .i64).R 3 (set5 w' B x0 x1 x2 x3 v) w.heap.size (fun k => w.heap.size ≤ k ∧ k ≠ B) v l := by
  have hlt := blk_lt hb
  refine ⟨set5_blk (blk_below hb h1) _ _ _ _ _, set5_below (h0.trans (h1.mono h0.size)) hB _ _ _ _ _, ?_⟩
  have h2 := Kd.R_step hR (w1 := set5 w' B x0 x1 x2 x3 v) (fun k hk _ => set5_other _ _ _ _ _ (by omega))
  exact Kd.R_mono (Kd.R_lower h2 h0.size) (fun k hk => ⟨Nat.le_trans h0.size hk, by omega⟩)
set_option maxRecDepth 100000 in
set_option maxHeartbeats 1000000 in
theorem now_any (w : World) (base : Nat) (F : Nat → Prop) (b : Nat) (xs : List Ge) (h : GensAt w base F b xs) (h0 : 0 < xs.length) :
    Calls Tryd.prog 10 #[.pointer (some ⟨b, 0, none⟩)] w fun e w' => ∃ v, e = .returned ((xs[xs.length - 1]).g.val v) ∧ (Kd.int .i64).R 3 w' w.heap.size (fun k => w.heap.size ≤ k) v (xs[xs.length - 1]).g.l ∧ Below w.heap.size w w' := by
  obtain ⟨h1, h2, vl, hb, hR, hO⟩ := h
  obtain ⟨g, cap, rfl, _, _, hlc, hcm⟩ := ge_row hR h0
  obtain ⟨k, hk⟩ : ∃ k, xs.length = k + 1 := ⟨xs.length - 1, by omega⟩
  have hget := ge_get hR k (by omega)
  have hOk := hO xs[k] (List.getElem_mem _)
  obtain ⟨x, hx⟩ : ∃ x, x = xs[k] := ⟨_, rfl⟩
  have hx' : xs[xs.length - 1] = x := by rw [hx]; congr 1; omega
  rw [hx']
  rw [← hx] at hget hOk
  obtain ⟨ad, hA, hC⟩ := mem_row hOk.1 hOk.2.1
  obtain ⟨⟨n, en, bb, l⟩, A, c⟩ := x
  obtain rfl : A = some ad := hA
  simp only at hC hOk
  have hlen : l.length ≤ 7 := hOk.2.2
  have hb1 := blk_alloc hb (.cells #[.int .i64 0, .int .i64 0, .int .i64 0, .slice none 0 0, .slice none 0 0] 32)
  have hz1 := heap_alloc_new w (.cells #[.int .i64 0, .int .i64 0, .int .i64 0, .slice none 0 0, .slice none 0 0] 32)
  have hB0 := (Below.refl w.heap.size w).alloc (Nat.le_refl _) (.cells #[.int .i64 0, .int .i64 0, .int .i64 0, .slice none 0 0, .slice none 0 0] 32)
  go_enter Tryd.func10, Tryd.ntmps10
  go_wp2
  generalize hW : w.alloc _ = W at *
  have hsz := Lib.hid (show W.heap.size = w.heap.size + 1 by rw [← hW]; simp)
  have hD : Below w.heap.size w W.drew := hB0.drew
  have hc0 : W.drew.cell? ⟨b, 0, none⟩ = some _ := blk_cell (show W.drew.heap[b]? = _ from hb1) 0
  obtain ⟨q0, q1, q2, q3, q4⟩ := hget
  have r0 := pw_cell_below hD q0
  have r1 := pw_cell_below hD q1
  have r2 := pw_cell_below hD q2
  have r3 := pw_cell_below hD q3
  have r4 : W.drew.cell? _ = some (Value.slice (some ad) l.length c) := pw_cell_below hD q4
  have HC := Lib.hid (Kd.C_below hC hD)
  have HZ := Lib.hid hz1
  have HB0 := Lib.hid hB0
  clear hb1 hz1 hB0 hD q0 q1 q2 q3 q4 hR hO hb h1 h2 hW hC hOk hx hx'
  rw [hk] at hc0
  rw [hk] at hlc
  have hkw : IntKind.i64.wrap (k : Int) = k := IntWalk.i64_in _ (by unfold maxLen at hcm; omega)
  have hki : (k : Int) < (k : Int) + 1 := by omega
  clear hk h0
  go_region_law (go_simp; go_at_call 27; refine (twin_lit _ n en bb l ad l.length c HC.out (by omega)).mono ?_; rintro e w' ⟨A1, c1, rfl, hR, hB⟩
                 have HBw := Lib.hid (show Below W.heap.size W w' from ⟨hB.os, hB.tape, hB.output, hB.size, hB.block⟩)
                 have HRw := Lib.hid hR
                 have z0 : w'.cell? ⟨w.heap.size, 0, none⟩ = _ := blk_cell (blk_below HZ.out HBw.out) 0
                 have z1 : w'.cell? ⟨w.heap.size, 1, none⟩ = _ := blk_cell (blk_below HZ.out HBw.out) 1
                 have z2 : w'.cell? ⟨w.heap.size, 2, none⟩ = _ := blk_cell (blk_below HZ.out HBw.out) 2
                 have z3 : w'.cell? ⟨w.heap.size, 3, none⟩ = _ := blk_cell (blk_below HZ.out HBw.out) 3
                 have z4 : w'.cell? ⟨w.heap.size, 4, none⟩ = _ := blk_cell (blk_below HZ.out HBw.out) 4
                 have g0 : w'.frozen? ⟨w.heap.size, 0, none⟩ = false := blk_frozen (blk_below HZ.out HBw.out) 0
                 have g1 : w'.frozen? ⟨w.heap.size, 1, none⟩ = false := blk_frozen (blk_below HZ.out HBw.out) 1
                 have g2 : w'.frozen? ⟨w.heap.size, 2, none⟩ = false := blk_frozen (blk_below HZ.out HBw.out) 2
                 have g3 : w'.frozen? ⟨w.heap.size, 3, none⟩ = false := blk_frozen (blk_below HZ.out HBw.out) 3
                 have g4 : w'.frozen? ⟨w.heap.size, 4, none⟩ = false := blk_frozen (blk_below HZ.out HBw.out) 4
                 clear hR hB)
  all_goals
    obtain ⟨t1, t2, t3⟩ := stored5 (x0 := .int .i64 n) (x1 := .int .i64 en) (x2 := .int .i64 bb) (x3 := .slice none 0 0) (Nat.le_refl _) HZ.out HB0.out HBw.out HRw.out
    have T1 := Lib.hid t1
    have T2 := Lib.hid t2
    have T3 := Lib.hid t3
    clear t1 t2 t3 z0 z1 z2 z3 z4 g0 g1 g2 g3 g4
    go_wp2
    change bodyPost _ _ _ _ _ (set5 w' w.heap.size (.int .i64 n) (.int .i64 en) (.int .i64 bb) (.slice none 0 0) (.slice A1 l.length c1))
    exact bodyPost_ret (v := .agg #[.int .i64 n, .int .i64 en, .int .i64 bb, .slice none 0 0, .slice A1 l.length c1]) (five_res _ _ _ _ w.heap.size 32 _ _ _ _ _ T1.out (fun h0 h1 h2 h3 h4 => by simp [results, Tryd.results10, go_sem, h0, h1, h2, h3, h4])) rfl ⟨_, rfl, Kd.R_mono T3.out (fun k hk => hk.1), T2.out⟩
end Go.Proofs.YtjgdglbfnjjmmaaDoor
