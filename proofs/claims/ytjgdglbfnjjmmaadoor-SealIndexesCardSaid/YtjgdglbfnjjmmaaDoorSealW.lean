/- The walk of Seal. -/
import Derived.Test.YtjgdglbfnjjmmaaDoorNewW
import Derived.Deep.RegionLaw
set_option linter.unusedVariables false
set_option linter.unusedSimpArgs false
namespace Go.Proofs.YtjgdglbfnjjmmaaDoor
open Go.RowKit Go.Proofs.YtjgdglbfnjjmmaaDoorW.PrintWords Go.Proofs.Mine

/-- now, spelled as a walk meets it. -/
theorem now_lit (w : World) (base : Nat) (F : Nat → Prop) (b : Nat) (xs : List Ge) (x : Ge) (h : GensAt w base F b xs) (hx : xs.getLast? = some x) :
    Calls Tryd.prog 10 #[.pointer (some ⟨b, 0, none⟩)] w fun e w' => ∃ A c, e = .returned (.agg #[.int .i64 x.g.n, .int .i64 x.g.e, .int .i64 x.g.b, .slice none 0 0, .slice A x.g.l.length c]) ∧ (Kd.int .i64).R 3 w' w.heap.size (fun k => w.heap.size ≤ k) (.slice A x.g.l.length c) x.g.l ∧ Below w.heap.size w w' := by
  have h0 : 0 < xs.length := by
    cases xs with
    | nil => simp at hx
    | cons a l => simp
  have hl : xs[xs.length - 1] = x := by
    rw [List.getLast?_eq_getElem?, List.getElem?_eq_getElem (by omega)] at hx
    exact Option.some.inj hx
  refine (now_any w base F b xs h h0).mono ?_
  rintro e w' ⟨v, rfl, hR, hB⟩
  rw [hl] at hR ⊢
  obtain ⟨A, c, rfl⟩ := Kd.R_slice hR
  exact ⟨A, c, rfl, hR, hB⟩
set_option maxRecDepth 100000 in
set_option maxHeartbeats 1000000 in
/-- A seal that is refused by its index or its engine. -/
theorem seal_arg (w : World) (base : Nat) (F : Nat → Prop) (b : Nat) (xs : List Ge) (x : Ge) (h : GensAt w base F b xs) (hx : xs.getLast? = some x) (i k : Int) (A B : Option Addr) (n m c d : Nat) (hbad : i ≤ x.g.b ∨ kindB k = false) :
    Calls Tryd.prog 9 #[.pointer (some ⟨b, 0, none⟩), .int .i64 i, .int .i64 k, .agg #[.slice A n c, .slice B m d]] w fun e w' => e = .returned (.int .i64 1) ∧ Below w.heap.size w w' := by
  have HB0 := Lib.hid ((Below.refl w.heap.size w).alloc (Nat.le_refl _) (.cells #[.slice A n c, .slice B m d] 29))
  have HG := Lib.hid (h.alloc (.cells #[.slice A n c, .slice B m d] 29))
  have HY := Lib.hid (heap_alloc_new w (.cells #[.slice A n c, .slice B m d] 29))
  obtain ⟨⟨gn, ge, gb, gl⟩, gA, gc⟩ := x
  have HX := Lib.hid hx
  clear h hx
  by_cases hi : i ≤ gb
  · go_enter Tryd.func9, Tryd.ntmps9
    go_wp2_with (go_at_call 10
                 refine (now_lit _ base F b xs _ HG.out HX.out).mono ?_
                 rintro e w1 ⟨A1, c1, rfl, hR, hB⟩
                 have HB1 := Lib.hid (HB0.out.trans (hB.mono HB0.out.size))
                 have HY1 := Lib.hid (blk_below HY.out hB)
                 have HG1 := Lib.hid (HG.out.below hB)
                 have y0 : w1.cell? ⟨w.heap.size, 0, none⟩ = _ := blk_cell HY1.out 0
                 have y1 : w1.cell? ⟨w.heap.size, 1, none⟩ = _ := blk_cell HY1.out 1
                 have HBW := Lib.hid hB
                 have x0 : ∀ o, (w1.alloc o).cell? ⟨w.heap.size, 0, none⟩ = _ := fun o => blk_cell (blk_alloc HY1.out o) 0
                 have x1 : ∀ o, (w1.alloc o).cell? ⟨w.heap.size, 1, none⟩ = _ := fun o => blk_cell (blk_alloc HY1.out o) 1
                 clear hR hB)
    go_ret
    exact ⟨rfl, HB1.out.alloc HB1.out.size _⟩
  · have hk : kindB k = false := by simpa [hi] using hbad
    have HK := Lib.hid hk
    clear hk
    go_enter Tryd.func9, Tryd.ntmps9
    go_wp2_with (first
      | (go_at_call 10
         refine (now_lit _ base F b xs _ HG.out HX.out).mono ?_
         rintro e w1 ⟨A1, c1, rfl, hR, hB⟩
         have HB1 := Lib.hid (HB0.out.trans (hB.mono HB0.out.size))
         have HY1 := Lib.hid (blk_below HY.out hB)
         have HG1 := Lib.hid (HG.out.below hB)
         have y0 : w1.cell? ⟨w.heap.size, 0, none⟩ = _ := blk_cell HY1.out 0
         have y1 : w1.cell? ⟨w.heap.size, 1, none⟩ = _ := blk_cell HY1.out 1
         have HBW := Lib.hid hB
         have x0 : ∀ o, (w1.alloc o).cell? ⟨w.heap.size, 0, none⟩ = _ := fun o => blk_cell (blk_alloc HY1.out o) 0
         have x1 : ∀ o, (w1.alloc o).cell? ⟨w.heap.size, 1, none⟩ = _ := fun o => blk_cell (blk_alloc HY1.out o) 1
         clear hR hB)
      | (go_at_call 25
         refine (kind_any _ k).mono ?_
         rintro e w2 ⟨rfl, rfl⟩
         rw [HK.out]))
    go_ret
    exact ⟨rfl, HB1.out.alloc HB1.out.size _⟩
set_option maxRecDepth 100000 in
set_option maxHeartbeats 1000000 in
/-- A seal that is refused by its members. -/
theorem seal_mem (w : World) (base : Nat) (F : Nat → Prop) (b : Nat) (xs : List Ge) (x : Ge) (h : GensAt w base F b xs) (hx : xs.getLast? = some x) (i k : Int) (A B : Option Addr) (o l : List Int) (c d : Nat) (ho : ReadsInt w .i64 A o.length o) (hl : ReadsInt w .i64 B l.length l) (hi : ¬ i ≤ x.g.b) (hk : kindB k = true) (hE : (if checkE o l = 0 then (if 0 < o.length then 1 else 0) else checkE o l) ≠ 0) :
    Calls Tryd.prog 9 #[.pointer (some ⟨b, 0, none⟩), .int .i64 i, .int .i64 k, .agg #[.slice A o.length c, .slice B l.length d]] w fun e w' => e = .returned (.int .i64 (if checkE o l = 0 then (if 0 < o.length then 1 else 0) else checkE o l)) ∧ Below w.heap.size w w' := by
  have HB0 := Lib.hid ((Below.refl w.heap.size w).alloc (Nat.le_refl _) (.cells #[.slice A o.length c, .slice B l.length d] 29))
  have HG := Lib.hid (h.alloc (.cells #[.slice A o.length c, .slice B l.length d] 29))
  have HY := Lib.hid (heap_alloc_new w (.cells #[.slice A o.length c, .slice B l.length d] 29))
  obtain ⟨⟨gn, ge, gb, gl⟩, gA, gc⟩ := x
  have HX := Lib.hid hx
  have HO := Lib.hid (ho.below HB0.out)
  have HL := Lib.hid (hl.below HB0.out)
  clear h hx ho hl
  have hm := fun W h1 h2 => members_any W A B c d o l h1 h2
  generalize (if checkE o l = 0 then (if 0 < o.length then 1 else 0) else checkE o l) = E at *
  have hE0 : (E == 0) = false := by simp [hE]
  have HM := Lib.hid hm
  have HK := Lib.hid hk
  clear hm hk
  go_enter Tryd.func9, Tryd.ntmps9
  go_wp2_with (first
    | (go_at_call 10
       refine (now_lit _ base F b xs _ HG.out HX.out).mono ?_
       rintro e w1 ⟨A1, c1, rfl, hR, hB⟩
       have HB1 := Lib.hid (HB0.out.trans (hB.mono HB0.out.size))
       have HY1 := Lib.hid (blk_below HY.out hB)
       have HG1 := Lib.hid (HG.out.below hB)
       have y0 : w1.cell? ⟨w.heap.size, 0, none⟩ = _ := blk_cell HY1.out 0
       have y1 : w1.cell? ⟨w.heap.size, 1, none⟩ = _ := blk_cell HY1.out 1
       have HBW := Lib.hid hB
       have x0 : ∀ o, (w1.alloc o).cell? ⟨w.heap.size, 0, none⟩ = _ := fun o => blk_cell (blk_alloc HY1.out o) 0
       have x1 : ∀ o, (w1.alloc o).cell? ⟨w.heap.size, 1, none⟩ = _ := fun o => blk_cell (blk_alloc HY1.out o) 1
       clear hR hB)
    | (go_at_call 25
       refine (kind_any _ k).mono ?_
       rintro e w2 ⟨rfl, rfl⟩
       rw [HK.out])
    | (go_at_call 26
       refine (HM.out _ (HO.out.below (HBW.out.alloc HBW.out.size _)) (HL.out.below (HBW.out.alloc HBW.out.size _))).mono ?_
       rintro e w3 ⟨rfl, hB⟩
       have HB2 := Lib.hid ((HB1.out.alloc HB1.out.size _).trans (hB.mono (by have := HB1.out.size; simp; omega)))
       clear hB))
  go_ret
  exact ⟨rfl, HB2.out⟩
theorem RowsOk.grown {w w1 : World} {base : Nat} {F : Nat → Prop} {xs ys : List Ge} {vl : Value} {ok : Nat → Prop} (h : RowsOk w base F xs) (hR : geK.R 32 w base ok vl ys) (hg : w.grownBy w1 vl.ownBlock) : RowsOk w1 base F xs := by
  intro x hx
  refine ⟨?_, (h x hx).2⟩
  have h1 := Kd.R_bound (h x hx).1
  obtain ⟨inner, ho⟩ := Kd.R_own hR
  refine Kd.R_mono (Kd.R_step h1 (w1 := w1) fun k hk hlt => hg.block k hlt fun he => ?_) (fun k hk => hk.1)
  obtain ⟨cells, hcc⟩ := own_typed ho k he.symm
  obtain ⟨_, _, _, q, hq, cells', hc'⟩ := hk
  have hq3 : q = 3 := List.mem_singleton.1 (show q ∈ [3] from hq)
  subst hq3
  rw [hcc] at hc'
  cases hc'
/-- The list has been appended to (at w', behind a call that makes memory alone), and stored back. -/
theorem gens_appended {W2 w' w1 : World} {base b : Nat} {F : Nat → Prop} {xs : List Ge} {y : Ge} {vl v1 : Value} (h1 : F b) (h2 : ∀ k, F k → base ≤ k ∧ k < W2.heap.size) (hb : W2.heap[b]? = some (.cells #[vl] 64 (0, 0)))
    (hRv : geK.R 32 W2 base F vl xs) (hO : RowsOk W2 base F xs) (hB : Below W2.heap.size W2 w') (hy : (Kd.int .i64).R 3 w' W2.heap.size (fun k => W2.heap.size ≤ k) y.v y.g.l) (hy0 : 0 < y.g.l.length) (hy7 : y.g.l.length ≤ 7)
    (hR : geK.R 32 w1 base (fun k => F k ∨ W2.heap.size ≤ k) v1 (xs ++ [y])) (hg : w'.grownBy w1 vl.ownBlock) :
    ∃ F', GensAt (w1.setCell ⟨b, 0, none⟩ v1) base F' b (xs ++ [y]) ∧ (∀ k, F' k → F k ∨ W2.heap.size ≤ k) ∧ Keep F W2 (w1.setCell ⟨b, 0, none⟩ v1) := by
  have hbl := blk_lt hb
  have hbs := (h2 b h1).1
  have hne : some b ≠ vl.ownBlock := Kd.R_ne hRv hb (by decide)
  have hb1 : w1.heap[b]? = some (.cells #[vl] 64 (0, 0)) := blk_grown (blk_below hb hB) hg hne
  have hKg : Keep F W2 w1 := (Keep.of_below hB F).trans (Keep.of_grown (F := fun k => vl.ownBlock = some k) hg (fun k hk => hk)) (fun k hk => .inl (hRv.1 k hk))
  have hRv' := Kd.R_below hRv hB
  have hOy : RowsOk w' base (fun k => W2.heap.size ≤ k) [y] := fun x hx => by
    rw [List.mem_singleton] at hx
    subst hx
    exact ⟨Kd.R_lower hy (by omega), hy0, hy7⟩
  have hOx : RowsOk w' base F xs := hO.keep (Keep.of_below hB (fun _ => False)) (fun _ _ h => h)
  have hO1 : RowsOk w1 base (fun k => (F k ∨ W2.heap.size ≤ k) ∧ k < w1.heap.size) (xs ++ [y]) := by
    intro x hx
    rcases List.mem_append.1 hx with hx | hx
    · exact ((hOx.grown hRv' hg).mono fun j hj hlt => ⟨.inl hj, hlt⟩) x hx
    · exact ((hOy.grown hRv' hg).mono fun j hj hlt => ⟨.inr hj, hlt⟩) x hx
  have hsz : (w1.setCell ⟨b, 0, none⟩ v1).heap.size = w1.heap.size := by simp [World.setCell]
  refine ⟨fun k => (F k ∨ W2.heap.size ≤ k) ∧ k < w1.heap.size, ⟨⟨.inl h1, Nat.lt_of_lt_of_le hbl hKg.size⟩, ?_, v1, blk_set hb1 0 v1, ?_, ?_⟩, fun k hk => hk.1, hKg.setCell _ _ (.inl h1)⟩
  · intro k hk
    refine ⟨?_, by rw [hsz]; exact hk.2⟩
    rcases hk.1 with h | h
    · exact (h2 k h).1
    · omega
  · have hR2 := Kd.R_mono (Kd.R_bound hR) (ok' := fun k => (F k ∨ W2.heap.size ≤ k) ∧ k < w1.heap.size) (fun k hk => ⟨hk.1, hk.2.2.1⟩)
    exact Kd.R_set hR2 hb1 (by simp [geK, Mine.Kd.fixed]) 0 v1
  · intro x hx
    exact ⟨Kd.R_set (hO1 x hx).1 hb1 (by decide) 0 v1, (hO1 x hx).2⟩
theorem Tryd.info33 : (Tryd.prog.info? 32).map (fun i => (i.zero, i.size, i.bytes)) = some (some (.agg #[.int .i64 0, .int .i64 0, .int .i64 0, .slice none 0 0, .slice none 0 0]), 5, 72) := by kernel_rfl
set_option maxRecDepth 100000 in
set_option maxHeartbeats 2000000 in
/-- A seal that is taken. -/
theorem seal_ok (w : World) (base : Nat) (F : Nat → Prop) (b : Nat) (xs : List Ge) (x : Ge) (h : GensAt w base F b xs) (hx : xs.getLast? = some x) (i k : Int) (ad : Addr) (l : List Int) (d : Nat) (hl : (Kd.int .i64).C w (some ad) l.length l) (hi : ¬ i ≤ x.g.b) (hk : kindB k = true) (hE : listE l = 0) (h60 : xs.length < 60) (hn0 : 0 ≤ x.g.n) (hn1 : x.g.n < 1000000) (h0 : 0 < l.length) (h7 : l.length ≤ 7) :
    Calls Tryd.prog 9 #[.pointer (some ⟨b, 0, none⟩), .int .i64 i, .int .i64 k, .agg #[.slice none 0 0, .slice (some ad) l.length d]] w fun e w' => e = .returned (.int .i64 0) ∧
      ∃ F' A' c', GensAt w' base F' b (xs ++ [⟨⟨x.g.n + 1, k, i, l⟩, A', c'⟩]) ∧ (∀ k, F' k → F k ∨ w.heap.size ≤ k) ∧ Keep F w w' := by
  have HB0 := Lib.hid ((Below.refl w.heap.size w).alloc (Nat.le_refl _) (.cells #[.slice none 0 0, .slice (some ad) l.length d] 29))
  have HG := Lib.hid (h.alloc (.cells #[.slice none 0 0, .slice (some ad) l.length d] 29))
  have HY := Lib.hid (heap_alloc_new w (.cells #[.slice none 0 0, .slice (some ad) l.length d] 29))
  obtain ⟨⟨gn, ge, gb, gl⟩, gA, gc⟩ := x
  have HX := Lib.hid hx
  have HL := Lib.hid (Kd.C_below hl HB0.out)
  clear h hx hl
  have HK := Lib.hid hk
  have HM := Lib.hid (memE_fine hE)
  have hh := h60
  clear hk hE
  go_enter Tryd.func9, Tryd.ntmps9
  go_wp2_with (first
    | (go_at_call 10
       refine (now_lit _ base F b xs _ HG.out HX.out).mono ?_
       rintro e w1 ⟨A1, c1, rfl, hR, hB⟩
       have HB1 := Lib.hid (HB0.out.trans (hB.mono HB0.out.size))
       have HY1 := Lib.hid (blk_below HY.out hB)
       have HG1 := Lib.hid (HG.out.below hB)
       have y0 : w1.cell? ⟨w.heap.size, 0, none⟩ = _ := blk_cell HY1.out 0
       have y1 : w1.cell? ⟨w.heap.size, 1, none⟩ = _ := blk_cell HY1.out 1
       have HBW := Lib.hid hB
       have x0 : ∀ o, (w1.alloc o).cell? ⟨w.heap.size, 0, none⟩ = _ := fun o => blk_cell (blk_alloc HY1.out o) 0
       have x1 : ∀ o, (w1.alloc o).cell? ⟨w.heap.size, 1, none⟩ = _ := fun o => blk_cell (blk_alloc HY1.out o) 1
       clear hR hB)
    | (go_at_call 25
       refine (kind_any _ k).mono ?_
       rintro e w2 ⟨rfl, rfl⟩
       rw [HK.out])
    | (go_at_call 26
       refine (mem_plain _ (some ad) d l (ri_of_C (Kd.C_below HL.out (HBW.out.alloc HBW.out.size _)))).mono ?_
       rintro e w3 ⟨rfl, hB⟩
       rw [HM.out]
       have HB3 := Lib.hid ((HB1.out.alloc HB1.out.size _).trans (hB.mono (by have := HB1.out.size; simp; omega)))
       have HG3 := (HG1.out.alloc _).below hB
       obtain ⟨h1, h2, vl, hb, hR, hO⟩ := HG3
       obtain ⟨Av, cv, rfl⟩ := Kd.R_slice hR
       have HN3 := Lib.hid (blk_below (heap_alloc_new w1 (.cells #[.int .i64 gn, .int .i64 ge, .int .i64 gb, .slice none 0 0, .slice A1 gl.length c1] 32)) hB)
       have HY3 := Lib.hid (blk_below (blk_alloc HY1.out _) hB)
       have HC3 := Lib.hid (Kd.C_below (Kd.C_below HL.out (HBW.out.alloc HBW.out.size _)) hB)
       have vb : w3.cell? ⟨b, 0, none⟩ = _ := blk_cell hb 0
       have HBb := Lib.hid hb
       have HRb := Lib.hid hR
       have HOb := Lib.hid hO
       clear hB hb hR hO))
  have vb' : w3.drew.cell? ⟨b, 0, none⟩ = _ := blk_cell (show w3.drew.heap[b]? = _ from HBb.out) 0
  have y0' : w3.drew.cell? ⟨w.heap.size, 0, none⟩ = _ := blk_cell (show w3.drew.heap[w.heap.size]? = _ from HY3.out) 0
  have y1' : w3.drew.cell? ⟨w.heap.size, 1, none⟩ = _ := blk_cell (show w3.drew.heap[w.heap.size]? = _ from HY3.out) 1
  have n0' : w3.drew.cell? ⟨w1.heap.size, 0, none⟩ = _ := blk_cell (show w3.drew.heap[w1.heap.size]? = _ from HN3.out) 0
  have HCd : RowKit.Hid ((Kd.int .i64).C w3.drew (some ad) l.length l) := HC3.out
  have hgw : IntKind.i64.wrap (gn + 1) = gn + 1 := IntWalk.i64_in _ (by omega)
  clear vb y0 y1 x0 x1
  go_region_law (first
    | (refine Kd.R_append_step geK (w0 := w') base (by rfl) _ _ 36 32 _ 72 (by rfl) Tryd.underlying36 Tryd.info33 (by rfl) (by decide) (by decide) (.slice Av xs.length cv) xs ⟨⟨gn + 1, k, i, l⟩, A2, c2⟩ (Ge.cells ⟨⟨gn + 1, k, i, l⟩, A2, c2⟩) (fun k => F k ∨ w3.heap.size ≤ k) (fun _ => False) (by rfl) (by rfl) (by rfl) (fun _ h => h.elim) (fun k hk => .inr (Nat.le_trans HB'.out.size hk)) (Kd.R_mono (Kd.R_below HRb.out HB'.out) (fun k hk => .inl hk)) (Below.refl _ _) (Nat.le_trans (Nat.le_trans (h2 b h1).1 (Nat.le_of_lt (h2 b h1).2)) HB'.out.size) (by omega) ?_
       intro v1 w4 hR1 hB4 hg1 hat1
       obtain ⟨A4, c4, rfl⟩ := Kd.R_slice hR1
       have hbw4 := blk_grown (blk_below HBb.out HB'.out) hg1 (Kd.R_ne HRb.out HBb.out (by decide))
       have hcc : w4.cell? ⟨b, 0, none⟩ = _ := blk_cell hbw4 0
       have hff : w4.frozen? ⟨b, 0, none⟩ = false := blk_frozen hbw4 0)
    | (go_simp; go_at_call 27; refine (twin_lit _ (gn + 1) k i l ad l.length d HCd.out (by omega)).mono ?_; rintro e w' ⟨A2, c2, rfl, hR', hB⟩
       have HB' : RowKit.Hid (Below w3.heap.size w3 w') := ⟨hB.os, hB.tape, hB.output, hB.size, hB.block⟩
       have HR' := Lib.hid hR'
       have hcell' : w'.cell? ⟨b, 0, none⟩ = _ := blk_cell (blk_below HBb.out HB'.out) 0
       have hcella : ∀ X, (w'.alloc X).cell? ⟨b, 0, none⟩ = _ := fun X => blk_cell (blk_alloc (blk_below HBb.out HB'.out) X) 0
       clear hB hR'))
  all_goals
    obtain ⟨F', g1, g2, g3⟩ := gens_appended (y := ⟨⟨gn + 1, k, i, l⟩, A2, c2⟩) h1 h2 HBb.out HRb.out HOb.out HB'.out HR'.out h0 h7 hR1 hg1
    rw [List.length_append, List.length_singleton] at g1 g3
    have G1 := Lib.hid g1
    have G2 := Lib.hid g2
    have G3 := Lib.hid g3
    clear g1 g2 g3 hcell' hcella hg1 hR1 hat1 hcc hff hbw4 vb' y0' y1' n0'
    go_wp2
    go_ret
    refine ⟨rfl, F', A2, c2, G1.out, fun j hj => ?_, (Keep.of_below HB3.out F).trans G3.out (fun _ h => .inl h)⟩
    rcases G2.out j hj with h | h
    · exact .inl h
    · exact .inr (Nat.le_trans HB3.out.size h)
end Go.Proofs.YtjgdglbfnjjmmaaDoor
