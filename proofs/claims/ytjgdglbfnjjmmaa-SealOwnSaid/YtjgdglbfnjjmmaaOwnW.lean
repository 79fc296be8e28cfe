/- The walk of SealOwn. -/
import Derived.Test.YtjgdglbfnjjmmaaLawS
import Derived.Deep.RegionLaw
set_option linter.unusedVariables false
set_option linter.unusedSimpArgs false
namespace Go.Proofs.Ytjgdglbfnjjmmaa
open Go.RowKit Go.Proofs.YtjgdglbfnjjmmaaW.PrintWords Go.Proofs.Mine

theorem int_row {w : World} {e base : Nat} {ok : Nat → Prop} {v : Value} {xs : List Int} (h : (Kd.int .i64).R e w base ok v xs) (h0 : 0 < xs.length) : ∃ g cap cur, v = .slice (some ⟨g, 0, none⟩) xs.length cap ∧ ok g ∧ base ≤ g ∧ w.heap[g]? = some (.cells cur e (0, 0)) ∧ xs.length ≤ cap ∧ cur.size = cap := by
  obtain ⟨hok, inner, ⟨hl, ho⟩, hr⟩ := h
  rcases ho with ⟨rfl, hx⟩ | ⟨g, cap, cur, rfl, hb, hh, h2, h3, h4, h5⟩
  · omega
  · exact ⟨g, cap, cur, rfl, hok g rfl, hb, hh, h2, by rw [h4]; exact Nat.mul_one _⟩
theorem row_zero {w : World} {g e cap : Nat} {cur : Array Value} (hb : w.heap[g]? = some (.cells cur e (0, 0))) (hs : cur.size = cap) (h0 : 0 < cap) : ∃ u, w.cell? ⟨g, 0, none⟩ = some u :=
  ⟨cur[0], by rw [blk_cell hb 0, Array.getElem?_eq_getElem (by omega)]⟩
/-- What is held over the law: the list c, its box; blocks from S on may be written. -/
structure Held (w W : World) (S bc : Nat) (vC : Value) (L : List Int) : Prop where
  row : (Kd.int .i64).R 3 W w.heap.size (fun k => k < S) vC L
  box : W.heap[bc]? = some (.cells #[.slice none 0 0, vC] 30 (0, 0))
  lt : bc < S
  keep : Below w.heap.size w W
  le : S ≤ W.heap.size
theorem Held.step {w W W' : World} {S bc : Nat} {vC : Value} {L : List Int} {G : Nat → Prop} (h : Held w W S bc vC L) (k : Keep G W W') (hg : ∀ j, G j → S ≤ j) (hS : w.heap.size ≤ S) : Held w W' S bc vC L :=
  ⟨k.R h.row (fun j hj hG => by have := hg j hG; omega), k.blk h.box (fun hG => by have := hg _ hG; have := h.lt; omega), h.lt, h.keep.trans (k.to_below h.keep.size (fun j hj => Nat.le_trans hS (hg j hj))), Nat.le_trans h.le k.size⟩
theorem Held.below {w W W' : World} {S bc : Nat} {vC : Value} {L : List Int} (h : Held w W S bc vC L) (k : Below W.heap.size W W') (hS : w.heap.size ≤ S) : Held w W' S bc vC L := h.step (Keep.of_below k (fun _ => False)) (fun _ h => h.elim) hS
theorem lit0' (W : World) (o : Obj) : (Kd.int .i64).R 3 ((W.alloc o).alloc (.cells #[] 3)) (W.heap.size + 1) (fun k => W.heap.size + 1 ≤ k) (.slice (some ⟨W.heap.size + 1, 0, none⟩) 0 0) [] := by
  have h := own_lit0 (W.alloc o)
  rwa [show (W.alloc o).heap.size = W.heap.size + 1 from by simp] at h
theorem two_of {zs : List Ge} {g0 g1 : Gn} (h : zs.map (·.g) = [g0, g1]) : ∃ z0 z1, zs = [z0, z1] ∧ z0.g = g0 := by
  match zs, h with
  | [z0, z1], h => exact ⟨z0, z1, rfl, by simpa using congrArg (fun l : List Gn => l.head?) h⟩
theorem held_reads {w W : World} {S bc gC capC : Nat} {L : List Int} (h : Held w W S bc (.slice (some ⟨gC, 0, none⟩) L.length capC) L) : ReadsInt W .i64 (some ⟨gC, 0, none⟩) L.length L := ri_of_C (Kd.R_reads' h.row).2.2
set_option maxHeartbeats 8000000 in
theorem own_any (bits by' : Int) (w : World) {P0 P1 : Prop} (_ : P0) (_ : P1) : Calls Try.prog 4 #[.int .i64 bits, .int .i64 by'] w fun e w' => e = .returned (.bool true) ∧ Below w.heap.size w w' := by
  have HL0 := (plainL_fine bits).2.1
  have HL7 := (plainL_fine bits).2.2
  have HLF := Lib.hid (plainL_fine bits).1
  have hpl := fun W => plain_any W bits
  generalize plainL bits = L at *
  have hf3 := Try.field33_3
  go_enter Try.func4, Try.ntmps4
  go_wp2_with (first
    | (go_at_call 5
       refine (known_any _).mono ?_
       rintro e w1 ⟨rfl, hB⟩
       have HB1 := Lib.hid hB
       clear hB)
    | (go_at_call 8
       refine (hpl _).mono ?_
       rintro e w2 ⟨v, rfl, hR, hB⟩
       obtain ⟨gC, capC, curC, rfl, hCk, hCb, hCh, hCl, hCs⟩ := int_row hR HL0
       have HB2 := Lib.hid (HB1.out.trans (hB.mono HB1.out.size))
       have HH2 := Lib.hid (show Held w (w2.alloc (.cells #[.slice none 0 0, .slice (some ⟨gC, 0, none⟩) L.length capC] 30)) (w2.heap.size + 1) w2.heap.size (.slice (some ⟨gC, 0, none⟩) L.length capC) L from ⟨Kd.R_mono (Kd.R_below (Kd.R_bound (Kd.R_lower hR HB1.out.size)) ((Below.refl _ _).alloc (Nat.le_refl _) _)) (fun k hk => Nat.lt_succ_of_lt hk.2.2.1), heap_alloc_new _ _, Nat.lt_succ_self _, HB2.out.alloc HB2.out.size _, by simp⟩)
       have HLIT := Lib.hid (lit0' w2 (.cells #[.slice none 0 0, .slice (some ⟨gC, 0, none⟩) L.length capC] 30))
       have HC2 := Lib.hid (Kd.C_below (Kd.R_reads' hR).2.2 (((Below.refl _ _).alloc (Nat.le_refl _) (.cells #[.slice none 0 0, .slice (some ⟨gC, 0, none⟩) L.length capC] 30)).alloc (by simp) (.cells #[] 3)))
       have hSl : w2.heap.size + 1 ≤ w2.heap.size + 1 := Nat.le_refl _
       clear hR hB hCk hCb hCh hCl hCs)
    | (at_builtin
       refine Kd.R_append_row (Value.int .i64) 0 (h1 := fun _ => rfl) (w0 := w2.alloc (.cells #[.slice none 0 0, .slice (some ⟨gC, 0, none⟩) L.length capC] 30)) (w2.heap.size + 1) rfl _ _ 28 3 (.int .i64 0) 8 rfl Try.underlying28 Try.info3 rfl (by decide) (.slice (some ⟨w2.heap.size + 1, 0, none⟩) 0 0) [] L (some ⟨gC, 0, none⟩) L.length capC (fun k => w2.heap.size + 1 ≤ k) rfl rfl (fun k hk => by simp at hk; omega) HLIT.out HC2.out ((Below.refl _ _).alloc (by simp) _) (by simp) (by simp; omega) ?_
       intro v1 w4 hR1 hB1 hg1 hat1
       rw [List.nil_append] at hR1
       obtain ⟨gM, capM, curM, rfl, hMk, hMb, hMh, hMl, hMs⟩ := int_row hR1 HL0
       have HH4 := Lib.hid ((HH2.out.below (hB1.mono (by simp)) (Nat.le_succ_of_le HB2.out.size)))
       have HCM := Lib.hid (Kd.R_reads' hR1).2.2
       have HMH := Lib.hid hMh
       have HMS := Lib.hid hMs
       have HMlt := Lib.hid (blk_lt hMh)
       clear hR1 hB1 hg1 hat1 hMk hMh hMs)
    | (go_at_call 7
       refine (new_any (w4.alloc (.cells #[.slice none 0 0, .slice (some ⟨gM, 0, none⟩) L.length capM] 30)) 1 1 0 L ⟨gM, 0, none⟩ capM (by decide) rfl (by decide) HLF.out (Kd.C_below HCM.out ((Below.refl _ _).alloc (Nat.le_refl _) _)) HL0 HL7).mono ?_
       rintro e w5 ⟨bk, A5, c5, rfl, hG, hB⟩
       have HBX := Lib.hid (blk_below (heap_alloc_new w4 (.cells #[.slice none 0 0, .slice (some ⟨gM, 0, none⟩) L.length capM] 30)) hB)
       have mb0 : w5.cell? ⟨w4.heap.size, 0, none⟩ = _ := blk_cell HBX.out 0
       have mb1 : w5.cell? ⟨w4.heap.size, 1, none⟩ = _ := blk_cell HBX.out 1
       have HH5 := Lib.hid ((HH4.out.below ((Below.refl _ _).alloc (Nat.le_refl _) (.cells #[.slice none 0 0, .slice (some ⟨gM, 0, none⟩) L.length capM] 30)) (Nat.le_succ_of_le HB2.out.size)).below hB (Nat.le_succ_of_le HB2.out.size))
       have HMH5 := Lib.hid (blk_below (blk_alloc HMH.out (.cells #[.slice none 0 0, .slice (some ⟨gM, 0, none⟩) L.length capM] 30)) hB)
       have HCM5 := Lib.hid (Kd.C_below (Kd.C_below HCM.out ((Below.refl _ _).alloc (Nat.le_refl _) (.cells #[.slice none 0 0, .slice (some ⟨gM, 0, none⟩) L.length capM] 30))) hB)
       have HG5 := Lib.hid hG
       clear hG hB)
    | (go_at_call 9
       refine (seal_ok w5 _ _ bk _ ⟨⟨1, 1, 0, L⟩, A5, c5⟩ HG5.out rfl 3 2 ⟨gM, 0, none⟩ L capM HCM5.out (show ¬ (3 : Int) ≤ 0 by decide) rfl HLF.out (show 1 < 60 by decide) (show (0 : Int) ≤ 1 by decide) (show (1 : Int) < 1000000 by decide) HL0 HL7).mono ?_
       rintro e w6 ⟨rfl, F6, A6, c6, hG, hF, hK⟩
       have hsz5 : (w4.alloc (.cells #[.slice none 0 0, .slice (some ⟨gM, 0, none⟩) L.length capM] 30)).heap.size = w4.heap.size + 1 := by simp
       have hML := HMlt.out
       have hw5 := blk_lt HBX.out
       have hH5 := HH5.out.le
       have hH4 := HH4.out.le
       have HH6 := Lib.hid (HH5.out.step hK (fun j hj => by omega) (Nat.le_succ_of_le HB2.out.size))
       have mh6 := hK.blk HMH5.out (by omega)
       have mx6 := hK.blk HBX.out (by omega)
       have mb6 : w6.cell? ⟨w4.heap.size, 1, none⟩ = _ := blk_cell mx6 1
       obtain ⟨u6, mc6⟩ := row_zero mh6 HMS.out (by omega)
       have mf6 : w6.frozen? ⟨gM, 0, none⟩ = false := blk_frozen mh6 0
       have hK7 : Keep (fun k => k = gM) w6 (w6.setCell ⟨gM, 0, none⟩ (.int .i64 by')) := (Keep.refl _ _).setCell _ _ (.inl rfl)
       have HG7 := Lib.hid (hG.keep hK7 (fun j hj he => by subst he; rcases hF _ hj with h | h <;> omega))
       have HH7 := Lib.hid (HH6.out.step hK7 (fun j hj => by subst hj; exact hMb) (Nat.le_succ_of_le HB2.out.size))
       clear hG hF hK hK7 mh6 mx6 hsz5 hML hw5 hH5 hH4 mb0 mb1)
    | (go_at_call 12
       refine (at_any (w10.setCell ⟨gZ, 0, none⟩ (.int .i64 by')) _ _ bk _ 2 ⟨⟨1, 1, 0, L⟩, A5, c5⟩ HG11.out (show 0 < 2 by decide) (show 2 ≤ 60 by decide) rfl).mono ?_
       rintro e w12 ⟨A12, c12, rfl, hR, hB⟩
       have HY12 := Lib.hid (ri_of_C (Kd.C_below (Kd.R_reads' hR).2.2 ((Below.refl _ _).alloc (Nat.le_refl _) (.cells #[.int .i64 1, .int .i64 1, .int .i64 0, .slice none 0 0, .slice A12 L.length c12] 33))))
       have HG12 := Lib.hid ((HG11.out.below hB).alloc (.cells #[.int .i64 1, .int .i64 1, .int .i64 0, .slice none 0 0, .slice A12 L.length c12] 33))
       have HH12 := Lib.hid ((HH11.out.below hB (Nat.le_succ_of_le HB2.out.size)).below ((Below.refl _ _).alloc (Nat.le_refl _) (.cells #[.int .i64 1, .int .i64 1, .int .i64 0, .slice none 0 0, .slice A12 L.length c12] 33)) (Nat.le_succ_of_le HB2.out.size))
       have HYB := Lib.hid (heap_alloc_new w12 (.cells #[.int .i64 1, .int .i64 1, .int .i64 0, .slice none 0 0, .slice A12 L.length c12] 33))
       clear hR hB zv zc zf)
    | (go_at_call 10
       have hg9 := HG9.out
       refine (all_any ((w8.alloc (.cells #[.int .i64 2, .int .i64 2, .int .i64 3, .slice none 0 0, .slice (some ⟨gX, 0, none⟩) L.length capX] 33)).setCell ⟨gX, 0, none⟩ (.int .i64 by')) _ _ bk _ HG9.out (show 0 < 2 by decide) (show 2 ≤ 60 by decide)).mono ?_
       rintro e w10 ⟨v10, zs, rfl, hA⟩
       obtain ⟨z0, z1, rfl, hz0⟩ := two_of hA.same
       obtain ⟨gR, capR, rfl, _, hRb, _, _⟩ := ge_row hA.row (show 0 < 2 by decide)
       obtain ⟨_, _, _, _, hz4⟩ := ge_get hA.row 0 (show 0 < 2 by decide)
       have hz0L : 0 < z0.g.l.length := by rw [hz0]; exact HL0
       obtain ⟨gZ, capZ, curZ, hZe, hZk, hZb, hZh, hZl, hZs⟩ := int_row (hA.rows z0 (by simp)).1 hz0L
       have zv : w10.cell? ⟨gR, 4, none⟩ = some (.slice (some ⟨gZ, 0, none⟩) L.length capZ) := by rw [hz0] at hZe; rw [← hZe]; simpa using hz4
       obtain ⟨uZ, zc⟩ := row_zero hZh hZs (Nat.lt_of_lt_of_le hz0L hZl)
       have zf : w10.frozen? ⟨gZ, 0, none⟩ = false := blk_frozen hZh 0
       have hK11 : Keep (fun k => k = gZ) w10 (w10.setCell ⟨gZ, 0, none⟩ (.int .i64 by')) := (Keep.refl _ _).setCell _ _ (.inl rfl)
       have hF9 := HG9.out.2.1
       have hle9 := HH9.out.le
       have HG11 := Lib.hid ((HG9.out.below hA.below).keep hK11 (fun j hj he => by have h1 := (hF9 j hj).2; subst he; exact absurd hZb (by omega)))
       have HH11 := Lib.hid ((HH9.out.below hA.below (Nat.le_succ_of_le HB2.out.size)).step hK11 (fun j hj => by subst hj; exact Nat.le_trans hle9 hZb) (Nat.le_succ_of_le HB2.out.size))
       clear hA hz4 hZk hZh hZs hZl hK11 hF9 hle9 hZe hz0L xca xfa hg9 HG7 HG9)
    | (go_at_call 11
       have hh7 := HH7.out
       refine (now_lit (w6.setCell ⟨gM, 0, none⟩ (.int .i64 by')) _ _ bk _ ⟨⟨2, 2, 3, L⟩, A6, c6⟩ HG7.out rfl).mono ?_
       rintro e w8 ⟨A8, c8, rfl, hR, hB⟩
       obtain ⟨gX, capX, curX, hXe, hXk, hXb, hXh, hXl, hXs⟩ := int_row hR HL0
       obtain ⟨hx1, hx2⟩ : A8 = some ⟨gX, 0, none⟩ ∧ capX = c8 := by injection hXe with h1 h2 h3; exact ⟨h1, h3.symm⟩
       subst hx1
       subst hx2
       obtain ⟨uX, xc⟩ := row_zero hXh hXs (Nat.lt_of_lt_of_le HL0 hXl)
       have xca : ∀ o, (w8.alloc o).cell? ⟨gX, 0, none⟩ = some uX := fun o => (World.cell?_of_block (w := w8) (Below.heap_alloc w8 o gX (blk_lt hXh))).trans xc
       have xfa : ∀ o, (w8.alloc o).frozen? ⟨gX, 0, none⟩ = false := fun o => blk_frozen (blk_alloc hXh o) 0
       have hK9 : Keep (fun k => k = gX) w8 ((w8.alloc (.cells #[.int .i64 2, .int .i64 2, .int .i64 3, .slice none 0 0, .slice (some ⟨gX, 0, none⟩) L.length capX] 33)).setCell ⟨gX, 0, none⟩ (.int .i64 by')) := ((Keep.refl _ _).alloc _).setCell _ _ (.inl rfl)
       have hF7 := HG7.out.2.1
       have hle7 := HH7.out.le
       have HG9 := Lib.hid ((HG7.out.below hB).keep hK9 (fun j hj he => by have h1 := (hF7 j hj).2; subst he; exact absurd hXb (by omega)))
       have HH9 := Lib.hid ((HH7.out.below hB (Nat.le_succ_of_le HB2.out.size)).step hK9 (fun j hj => by subst hj; exact Nat.le_trans hle7 hXb) (Nat.le_succ_of_le HB2.out.size))
       clear hR hB hK9 hF7 hle7 hXk hXh hXl hXs xc mb6 mc6 mf6))
  generalize hW13 : w12.alloc _ = W13 at *
  have HGd : RowKit.Hid (GensAt W13.drew _ F6 bk _) := Lib.hid (HG12.out.keep (G := fun _ => False) ((Keep.refl _ W13).drew) (fun _ _ h => h))
  have HHd := Lib.hid (HH12.out.step (G := fun _ => False) ((Keep.refl _ W13).drew) (fun _ h => h.elim) (Nat.le_succ_of_le HB2.out.size))
  have HYBd : RowKit.Hid (W13.drew.heap[w12.heap.size]? = _) := HYB
  have HYd : RowKit.Hid (ReadsInt W13.drew .i64 A12 L.length L) := HY12
  have d0 : W13.drew.cell? ⟨w2.heap.size, 0, none⟩ = _ := blk_cell HHd.out.box 0
  have d1 : W13.drew.cell? ⟨w2.heap.size, 1, none⟩ = _ := blk_cell HHd.out.box 1
  clear hW13 HG12 HH12 HYB HY12 hpl HLIT HC2 HCM HMH HMS HMlt HBX HMH5 HCM5 HG5 HG11 HH11 HH7 HH9 HH6 HH5 HH4 HH2 hRb hZb hXb hMb hMl hSl
  go_region_law (first
    | (go_simp
       go_at_call 13
       have h17 := HH17.out
       refine (sameC_any yA (some ⟨gC, 0, none⟩) yc capC L _ HR17.out (held_reads HH17.out)).mono ?_
       rintro e w18 ⟨rfl, hB⟩
       have HH18 := Lib.hid (HH17.out.below hB (Nat.le_succ_of_le HB2.out.size))
       clear hB h17)
    | (go_simp
       go_at_call 13
       have h15 := HH15.out
       refine (sameC_any A12 (some ⟨gC, 0, none⟩) c12 capC L _ HY15.out (held_reads HH15.out)).mono ?_
       rintro e w16 ⟨rfl, hB⟩
       have HH16 := Lib.hid (HH15.out.below hB (Nat.le_succ_of_le HB2.out.size))
       have HG16 := Lib.hid (HG15.out.below hB)
       have r0 : w16.cell? ⟨w2.heap.size, 0, none⟩ = _ := blk_cell HH16.out.box 0
       have r1 : w16.cell? ⟨w2.heap.size, 1, none⟩ = _ := blk_cell HH16.out.box 1
       clear hB h15)
    | (go_simp
       go_at_call 13
       refine (sameC_any A14 (some ⟨gC, 0, none⟩) c14 capC L _ HR14.out (held_reads HH14.out)).mono ?_
       rintro e w15 ⟨rfl, hB⟩
       have HH15 := Lib.hid (HH14.out.below hB (Nat.le_succ_of_le HB2.out.size))
       have HG15 := Lib.hid (HG14.out.below hB)
       have HYB15 := Lib.hid (blk_below HYB14.out hB)
       have HY15 := Lib.hid (HY14.out.below hB)
       have p0 : w15.cell? ⟨w2.heap.size, 0, none⟩ = _ := blk_cell HH15.out.box 0
       have p1 : w15.cell? ⟨w2.heap.size, 1, none⟩ = _ := blk_cell HH15.out.box 1
       have q3 : w15.cell? ⟨w12.heap.size, 3, none⟩ = _ := blk_cell HYB15.out 3
       have q4 : w15.cell? ⟨w12.heap.size, 4, none⟩ = _ := blk_cell HYB15.out 4
       clear hB)
    | (go_simp
       go_at_call 11
       refine (now_lit _ _ _ bk _ ⟨⟨2, 2, 3, L⟩, A6, c6⟩ HGd.out rfl).mono ?_
       rintro e w14 ⟨A14, c14, rfl, hR, hB⟩
       have HR14 := Lib.hid (ri_of_C (Kd.R_reads' hR).2.2)
       have HH14 := Lib.hid (HHd.out.below hB (Nat.le_succ_of_le HB2.out.size))
       have HG14 := Lib.hid (HGd.out.below hB)
       have HYB14 := Lib.hid (blk_below HYBd.out hB)
       have HY14 := Lib.hid (HYd.out.below hB)
       have e0 : w14.cell? ⟨w2.heap.size, 0, none⟩ = _ := blk_cell HH14.out.box 0
       have e1 : w14.cell? ⟨w2.heap.size, 1, none⟩ = _ := blk_cell HH14.out.box 1
       clear hR hB)
    | (go_simp
       go_at_call 10
       refine (all_any w16 _ _ bk _ HG16.out (show 0 < 2 by decide) (show 2 ≤ 60 by decide)).mono ?_
       rintro e w17 ⟨v17, zs7, rfl, hA⟩
       obtain ⟨y0, y1, rfl, hy0⟩ := two_of hA.same
       obtain ⟨gS, capS, rfl, _, _, _, _⟩ := ge_row hA.row (show 0 < 2 by decide)
       obtain ⟨_, _, _, hs3, hs4⟩ := ge_get hA.row 0 (show 0 < 2 by decide)
       have hrow := (hA.rows y0 (by simp)).1
       obtain ⟨⟨yn, ye, yb, yl⟩, yA, yc⟩ := y0
       cases hy0
       have HR17 := Lib.hid (ri_of_C (Kd.R_reads' (show (Kd.int .i64).R 3 w17 _ _ (.slice yA L.length yc) L from hrow)).2.2)
       have s3 : w17.cell? ⟨gS, 3, none⟩ = some (.slice none 0 0) := by simpa using hs3
       have s4 : w17.cell? ⟨gS, 4, none⟩ = some (.slice yA L.length yc) := by simpa [Ge.v] using hs4
       have HH17 := Lib.hid (HH16.out.below hA.below (Nat.le_succ_of_le HB2.out.size))
       have t0 : w17.cell? ⟨w2.heap.size, 0, none⟩ = _ := blk_cell HH17.out.box 0
       have t1 : w17.cell? ⟨w2.heap.size, 1, none⟩ = _ := blk_cell HH17.out.box 1
       clear hA hs3 hs4 hrow))
  all_goals
    go_wp2
    go_ret
    exact ⟨rfl, HH18.out.keep⟩
end Go.Proofs.Ytjgdglbfnjjmmaa
