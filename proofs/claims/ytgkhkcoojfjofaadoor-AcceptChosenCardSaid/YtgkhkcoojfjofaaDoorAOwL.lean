/- AcceptOwn. -/
import Derived.Test.YtgkhkcoojfjofaaDoorAccV
set_option linter.unusedVariables false
set_option linter.unusedSimpArgs false
namespace Go.Proofs.YtgkhkcoojfjofaaDoor
open Go.RowKit Go.Shelf Go.Proofs.YtgkhkcoojfjofaaDoorW.PrintWords Go.Proofs.Mine

theorem own_firstI {w : World} {base : Nat} {v : Value} {l : List Int} (h : w.ownsRow base 3 1 v l.length (nums .i64 l)) (hp : 0 < l.length) : ∃ g c u, v = .slice (some ⟨g, 0, none⟩) l.length c ∧ base ≤ g ∧ g < w.heap.size ∧ w.cell? ⟨g, 0, none⟩ = some (.int .i64 u) ∧ w.frozen? ⟨g, 0, none⟩ = false := by
  have hR : (Kd.int .i64).R 3 w base (fun _ => True) v l := Kd.R_of_own h (fun _ _ => trivial)
  obtain ⟨g, cap, rfl, hb, hlt, cells, hh⟩ := Kd.R_form hR hp
  have h1 := Kd.R_celln (0 : Int) hR 0 (by decide) (by omega)
  exact ⟨g, cap, _, rfl, hb, hlt, h1.1, h1.2⟩
theorem vote_one_at {w : World} {base : Nat} {ok : Nat → Prop} {v : Value} {x : Vo} (h : voK.R 41 w base ok v [x]) (hp : 0 < x.mem.length) :
    ∃ (ad : Addr) (cap gd cd : Nat) (u : Int), v = .slice (some ad) 1 cap ∧ w.cell? ⟨ad.block, ad.off + 6, none⟩ = some (.slice (some ⟨gd, 0, none⟩) x.mem.length cd) ∧ w.ownsRow base 3 1 (.slice (some ⟨gd, 0, none⟩) x.mem.length cd) x.mem.length (nums .i64 x.mem) ∧ base ≤ gd ∧ gd < w.heap.size ∧ w.cell? ⟨gd, 0, none⟩ = some (.int .i64 u) ∧ w.frozen? ⟨gd, 0, none⟩ = false := by
  obtain ⟨A, c, rfl, hle, hrow⟩ := h.2.reads
  obtain ⟨ad, rfl, hc⟩ := hrow.2.2 (show 0 < 1 by decide)
  obtain ⟨cs, _, ⟨u, rfl, hO, _⟩, hcell⟩ := hc 0 _ rfl
  obtain ⟨gd, cd, u0, rfl, h1, h2, h3, h4⟩ := own_firstI hO hp
  have h5 := hcell 6 _ rfl
  refine ⟨ad, c, gd, cd, u0, rfl, ?_, hO, h1, h2, h3, h4⟩
  simpa [Addr.add] using h5
theorem vh_of2 {w : World} {A : Option Addr} {n : Nat} {xs : List Vo} (h : voK.C w A n xs) : ∃ hs : List Vh, VRow w A n hs ∧ VIn w hs ∧ hs.map Vh.vo = xs := by
  have hn := h.1
  have key : ∀ j, j < n → ∃ y : Vh, xs[j]? = some y.vo ∧ ReadsInt w .i64 y.A y.mem.length y.mem ∧ ∀ ad, A = some ad → ∀ i u, y.cells[i]? = some u → w.cell? (ad.add (j * 8 + i)) = some u := by
    intro j hj
    obtain ⟨ad, hA, hc⟩ := h.2.2 (by omega)
    have hx : xs[j]? = some xs[j] := List.getElem?_eq_getElem (by omega)
    obtain ⟨cs, _, ⟨B, c, rfl, hle, hR⟩, hcell⟩ := hc j _ hx
    refine ⟨⟨xs[j].s, xs[j].b, xs[j].kd, xs[j].c, xs[j].q, xs[j].data, B, c, xs[j].mem, xs[j].dst⟩, hx, hR, fun ad' e i u hu => ?_⟩
    rw [hA] at e
    injection e with e
    subst e
    exact hcell i u hu
  obtain ⟨hs, h1, h2⟩ := vlist_of n _ key
  refine ⟨hs, ⟨h1, h.2.1, fun hp => ?_⟩, fun y hy => ?_, ?_⟩
  · obtain ⟨ad, hA, _⟩ := h.2.2 hp
    exact ⟨ad, hA, fun j y hy => ⟨y.cells, rfl, rfl, (h2 j y hy).2.2 ad hA⟩⟩
  · obtain ⟨j, hj⟩ := List.mem_iff_getElem?.1 hy
    exact (h2 j y hj).2.1
  · apply List.ext_getElem?
    intro j
    rcases Nat.lt_or_ge j n with hj | hj
    · have hy : hs[j]? = some hs[j] := List.getElem?_eq_getElem (by omega)
      rw [List.getElem?_map, hy, (h2 j _ hy).1]; rfl
    · rw [List.getElem?_eq_none (by simp; omega), List.getElem?_eq_none (by omega)]
theorem one_map {hs : List Vh} {x : Vo} (h : hs.map Vh.vo = [x]) : ∃ y, hs = [y] ∧ y.vo = x := by
  rcases hs with _ | ⟨y, _ | ⟨z, l⟩⟩
  · cases h
  · exact ⟨y, rfl, by simpa using h⟩
  · simp at h
theorem AccAt.set {w : World} {base b g : Nat} {F : Nat → Prop} {p : Int} {o : Option Vh} (h : AccAt w base F b p o) (hg : ¬ F g) (i : Nat) (u : Value) : AccAt (w.setCell ⟨g, i, none⟩ u) base F b p o :=
  h.keep (G := fun k => k = g) ((Keep.refl _ w).setCell ⟨g, i, none⟩ u (.inl rfl)) (fun j hj e => hg (e ▸ hj))
set_option maxRecDepth 100000 in
set_option maxHeartbeats 2000000 in
theorem own_any (A0 : Option Addr) (c0 : Nat) (l : List Int) (by_ : Int) (w : World) (hr0 : ReadsInt w .i64 A0 l.length l) :
    Calls Tryd.prog 8 #[.slice A0 l.length c0, .int .i64 by_] w fun r w' => r = .returned (.bool true) ∧ Below w.heap.size w w' := by
  have HX := Lib.hid hr0
  have hmx := hr0.2.1
  clear hr0
  by_cases hgo : l.length = 0 ∨ 20 < l.length
  · by_cases hl0 : l.length = 0
    · have hli : ((l.length : Int) == 0) = true := beq_iff_eq.mpr (by omega)
      clear hgo hl0
      go_enter Tryd.func8, Tryd.ntmps8
      go_wp2_with (go_at_call 9; refine (known_any w).mono ?_; rintro r w0 ⟨rfl, hB0⟩; have HB0 := Lib.hid hB0; clear hB0)
      go_ret
      exact ⟨rfl, HB0.out⟩
    · have hli : ((l.length : Int) == 0) = false := beq_eq_false_iff_ne.mpr (by omega)
      have hl2 : (20 : Int) < (l.length : Int) := by omega
      clear hgo hl0
      go_enter Tryd.func8, Tryd.ntmps8
      go_wp2_with (go_at_call 9; refine (known_any w).mono ?_; rintro r w0 ⟨rfl, hB0⟩; have HB0 := Lib.hid hB0; clear hB0)
      go_ret
      exact ⟨rfl, HB0.out⟩
  · have hli : ((l.length : Int) == 0) = false := beq_eq_false_iff_ne.mpr (by omega)
    have hl2 : ¬ (20 : Int) < (l.length : Int) := by omega
    have hlp : 0 < l.length := by omega
    have hl20 : l.length ≤ 20 := by omega
    have hpos : (0 : Int) < (l.length : Int) := by omega
    clear hgo
    go_enter Tryd.func8, Tryd.ntmps8
    go_wp2_with (first
      | (go_at_call 9; refine (known_any w).mono ?_; rintro r w0 ⟨rfl, hB0⟩; have HB0 := Lib.hid hB0; clear hB0)
      | (go_at_call 10; refine (new_at w0).mono ?_; rintro r w1 ⟨b, F1, rfl, hA1, hB1⟩
         have HA1 := Lib.hid hA1
         have HB1 := Lib.hid (HB0.out.trans (hB1.mono HB0.out.size))
         have HW01 := Lib.hid hB1.size
         clear hA1 hB1)
      | (at_builtin; refine print_append_row (w0 := w1) w1.heap.size rfl _ _ 27 3 .i64 8 (by rfl) Tryd.underlying27 Tryd.info3n (by decide) (.slice (some ⟨w1.heap.size, 0, none⟩) 0 0) [] l A0 l.length c0 (by rfl) (by rfl) (int_empty w1) ((HX.out.below HB1.out).below ((Below.refl _ _).alloc (Nat.le_refl _) _)) ((Below.refl _ _).alloc (Nat.le_refl _) _) (by simp) (by simp; omega) ?_; intro v2 w2 hR2 hB2 hg2 hat2
         rw [List.nil_append] at hR2
         obtain ⟨g2, c2, u2, rfl, hg2b, hg2l, _, _⟩ := own_firstI hR2 hlp
         have HR2 := Lib.hid hR2
         have HA2 := Lib.hid (HA1.out.below hB2)
         have HB2 := Lib.hid (HB1.out.trans (hB2.mono HB1.out.size))
         have HG2 := Lib.hid (show ¬ F1 g2 ∧ w0.heap.size ≤ g2 ∧ g2 < w2.heap.size from ⟨fun hf => by have := (HA1.out.2.1 _ hf).2; omega, by have := HW01.out; omega, hg2l⟩)
         have HW02 := Lib.hid (show w0.heap.size ≤ w2.heap.size from Nat.le_trans HW01.out hB2.size)
         clear hR2 hB2 hg2 hat2 hg2b hg2l))
    obtain ⟨x, hx⟩ : ∃ x : Vh, x = ⟨4, 3, 2, 0, 0, ByteArray.empty, some ⟨g2, 0, none⟩, c2, l, 0⟩ := ⟨_, rfl⟩
    have hrd2 : ReadsInt w2 .i64 (some ⟨g2, 0, none⟩) l.length l := by
      obtain ⟨A', c', he, hr⟩ := own_reads HR2.out
      injection he with he
      rw [he]; exact hr
    have hac := accept_ok ⟨4, 3, 2, 0, 0, ByteArray.empty, some ⟨g2, 0, none⟩, c2, l, 0⟩ b 0 none w0.heap.size F1 w2 HA2.out HW02.out (show (1 : Int) ≤ 4 by decide) (show (4 : Int) ≤ 64 by decide) (show (1 : Int) ≤ 3 by decide) (show (0 : Int) ≤ 3 by decide) (fun y hy => by cases hy) hrd2 (by show l.length ≤ 1000000; omega) (fun _ a ha hf => by injection ha with ha; subst ha; exact HG2.out.1 hf)
    dsimp only at hac
    refine hac.mono ?_
    clear hac hrd2 hx
    rintro r w3 ⟨rfl, A3, c3, F3, hA3, hF3, hK3⟩
    have hR3 : w3.ownsRow w1.heap.size 3 1 (.slice (some ⟨g2, 0, none⟩) l.length c2) l.length (nums .i64 l) := hK3.own HR2.out (fun k hk hf => by
      injection hk with hk
      subst hk
      exact HG2.out.1 hf)
    obtain ⟨g3, c3', u3, he3, _, _, q3, f3⟩ := own_firstI hR3 hlp
    obtain rfl : g2 = g3 := by injection he3 with e; injection e with e; injection e
    obtain ⟨x, hx⟩ : ∃ x : Vh, x = ⟨4, 3, 2, 0, 0, ByteArray.empty, A3, c3, l, 0⟩ := ⟨_, rfl⟩
    rw [← hx] at hA3
    have HXS := Lib.hid (show x.s = 4 ∧ x.mem = l from by rw [hx]; exact ⟨rfl, rfl⟩)
    have HA3 := Lib.hid hA3
    have HG3 := Lib.hid (show ¬ F3 g2 from fun hf => (hF3 _ hf).elim HG2.out.1 (fun e => by have := HG2.out.2.2; omega))
    have HB3 := Lib.hid (show Below w.heap.size w w3 from HB2.out.trans (hK3.to_below HB2.out.size (fun k hk => Nat.le_trans HB0.out.size (HA2.out.2.1 k hk).1)))
    have HW03 := Lib.hid (show w0.heap.size ≤ w3.heap.size from Nat.le_trans HW02.out hK3.size)
    clear hx hA3 hF3 hK3 hR3 he3
    go_wp2_with fail
    generalize hu4 : w3.setCell _ _ = w4
    have HA4 := Lib.hid (show AccAt w4 w0.heap.size F3 b 3 (some x) from by rw [← hu4]; exact HA3.out.set HG3.out 0 _)
    have hS4 : w4.heap.size = w3.heap.size := by rw [← hu4]; simp [World.setCell]
    have HB4 := Lib.hid (show Below w.heap.size w w4 from by rw [← hu4]; exact HB3.out.trans ((Keep.refl (fun k => k = g2) w3).setCell ⟨g2, 0, none⟩ _ (.inl rfl) |>.to_below HB3.out.size (fun k h => by have h' : k = g2 := h; rw [h']; exact Nat.le_trans HB0.out.size HG2.out.2.1)))
    have HW04 := Lib.hid (show w0.heap.size ≤ w4.heap.size from by rw [hS4]; exact HW03.out)
    clear hu4 q3 f3 hS4
    refine (votes_at HA4.out HW04.out).mono ?_
    rintro r w5 ⟨v5, rfl, hR5, hB5⟩
    have hR5' : voK.R 41 w5 w4.heap.size (fun k => w4.heap.size ≤ k) v5 [x.vo] := hR5
    obtain ⟨ad5, cap5, gd5, cd5, u5, rfl, q5, _, hgd5, hgl5, q5b, f5⟩ := vote_one_at hR5' (show 0 < x.mem.length from by rw [HXS.out.2]; exact hlp)
    rw [show x.vo.mem.length = l.length from congrArg List.length HXS.out.2] at q5
    have HA5 := Lib.hid (HA4.out.below hB5)
    have HB5 := Lib.hid (HB4.out.trans (hB5.mono HB4.out.size))
    have HW05 := Lib.hid (show w0.heap.size ≤ w5.heap.size from Nat.le_trans HW04.out hB5.size)
    have HG5 := Lib.hid (show ¬ F3 gd5 ∧ w0.heap.size ≤ gd5 from ⟨fun hf => by have := (HA4.out.2.1 _ hf).2; omega, Nat.le_trans HW04.out hgd5⟩)
    clear hR5 hR5' hB5 hgd5 hgl5
    go_wp2_with fail
    generalize hu6 : w5.setCell _ _ = w6
    have HA6 := Lib.hid (show AccAt w6 w0.heap.size F3 b 3 (some x) from by rw [← hu6]; exact HA5.out.set HG5.out.1 0 _)
    have hS6 : w6.heap.size = w5.heap.size := by rw [← hu6]; simp [World.setCell]
    have HB6 := Lib.hid (show Below w.heap.size w w6 from by rw [← hu6]; exact HB5.out.trans ((Keep.refl (fun k => k = gd5) w5).setCell ⟨gd5, 0, none⟩ _ (.inl rfl) |>.to_below HB5.out.size (fun k h => by have h' : k = gd5 := h; rw [h']; exact Nat.le_trans HB0.out.size HG5.out.2)))
    have HW06 := Lib.hid (show w0.heap.size ≤ w6.heap.size from by rw [hS6]; exact HW05.out)
    clear hu6 q5 q5b f5 hS6
    refine (prepare_at (n := 9) (fr := 1) HA6.out HW06.out (by decide) (by decide) (fun y hy => by injection hy with hy; subst hy; rw [HXS.out.1]; decide)).mono ?_
    rintro r w7 ⟨v7, rfl, hR7, F7, hA7, hF7, hK7⟩
    have hR7' : voK.R 41 w7 w6.heap.size (fun k => w6.heap.size ≤ k) v7 [x.vo] := hR7
    obtain ⟨ad7, cap7, gd7, cd7, u7, rfl, q7, hO7, _, _, _, _⟩ := vote_one_at hR7' (show 0 < x.mem.length from by rw [HXS.out.2]; exact hlp)
    rw [show x.vo.mem = l from HXS.out.2] at q7 hO7
    have HQ7 := Lib.hid q7
    have HR7 : RowKit.Hid (ReadsInt w7 .i64 (some ⟨gd7, 0, none⟩) l.length l) := by
      obtain ⟨A', c', he, hr⟩ := own_reads hO7
      injection he with he
      rw [he]; exact hr
    have HA7 := Lib.hid hA7
    have HB7 := Lib.hid (show Below w.heap.size w w7 from HB6.out.trans (hK7.to_below HB6.out.size (fun k hk => Nat.le_trans HB0.out.size (HA6.out.2.1 k hk).1)))
    have HW07 := Lib.hid (show w0.heap.size ≤ w7.heap.size from Nat.le_trans HW06.out hK7.size)
    clear hR7 hR7' hA7 hF7 hK7 q7 hO7
    go_wp2_with fail
    refine (votes_at HA7.out HW07.out).mono ?_
    rintro r w8 ⟨v8, rfl, hR8, hB8⟩
    obtain ⟨A8, c8, rfl⟩ := Kd.R_slice hR8
    obtain ⟨hs, hv1, hv2, hv3⟩ := vh_of2 (Kd.R_reads' hR8).2.2
    obtain ⟨y, rfl, hyx⟩ : ∃ y, hs = [y] ∧ y.vo = x.vo := one_map hv3
    have HY := Lib.hid (show y.s = 4 ∧ y.mem = l from ⟨(congrArg Vo.s hyx).trans HXS.out.1, (congrArg Vo.mem hyx).trans HXS.out.2⟩)
    have hpk : pk [y] 4 [y].length = some 0 := pk_first (l := [y]) (k := 0) rfl HY.out.1 rfl
    have hpick := pick_any A8 c8 [y] 4 w8 hv1 hv2 (fun z hz => by rw [List.mem_singleton.1 hz, HY.out.2]; omega)
    rw [hpk, show best [y] (some 0) = y from rfl, HY.out.2] at hpick
    unfold entV at hpick
    rw [HY.out.2] at hpick
    have HPI := Lib.hid hpick
    have HB78 := Lib.hid hB8
    have HB8 := Lib.hid (HB7.out.trans (hB8.mono HB7.out.size))
    clear hR8 hB8 hv1 hv2 hv3 hyx hpk hpick
    go_wp2_with fail
    refine HPI.out.mono ?_
    rintro r w9 ⟨A9, c9, rfl, hrd9, hB9⟩
    simp only [Option.isSome_some]
    obtain ⟨W10, hW10⟩ : ∃ z, w9.alloc (.cells #[.int .i64 y.kd, .int .i64 y.c, .int .i64 y.q, .string y.data, .slice A9 l.length c9, .int .i64 y.dst] 29) = z := ⟨_, rfl⟩
    have hB10 : Below w9.heap.size w9 W10 := by rw [← hW10]; exact (Below.refl _ w9).alloc (Nat.le_refl _) _
    have hb11 : W10.heap[w9.heap.size]? = some (.cells #[.int .i64 y.kd, .int .i64 y.c, .int .i64 y.q, .string y.data, .slice A9 l.length c9, .int .i64 y.dst] 29 (0, 0)) := by rw [← hW10]; exact heap_alloc_new w9 _
    have hB710 : Below w7.heap.size w7 W10 := (HB78.out.trans (hB9.mono HB78.out.size)).trans (hB10.mono (Nat.le_trans HB78.out.size hB9.size))
    have q7 := pw_cell_below hB710 HQ7.out
    have HS7 := Lib.hid (HR7.out.below hB710)
    have HS9 := Lib.hid (hrd9.below hB10)
    have HC11 := Lib.hid (show W10.cell? ⟨w9.heap.size, 4, none⟩ = some (.slice A9 l.length c9) from blk_cell hb11 4)
    have HB10 := Lib.hid (HB7.out.trans (hB710.mono HB7.out.size))
    clear hB10 hb11 hB710 hrd9 hB9
    go_wp2_with (first
      | (go_at_call 23; refine (sameInts_any A9 A0 c9 c0 l w11 (HS9.out.below HB11.out) (HX.out.below HBB.out)).mono ?_; rintro r w12 ⟨rfl, hB12⟩; have HB12 := Lib.hid (HBB.out.trans (hB12.mono HBB.out.size)); clear hB12)
      | (go_at_call 23; refine (sameInts_any (some ⟨gd7, 0, none⟩) A0 cd7 c0 l W10 HS7.out (HX.out.below HB10.out)).mono ?_; rintro r w11 ⟨rfl, hB11⟩
         have HB11 := Lib.hid hB11
         have HBB := Lib.hid (HB10.out.trans (hB11.mono HB10.out.size))
         have c11 := pw_cell_below hB11 HC11.out
         clear hB11))
    go_ret
    exact ⟨rfl, HB12.out⟩
theorem own_row (A0 : Option Addr) (c0 : Nat) (l : List Int) (by_ : Int) (w : World) (_ : Laid w) (hr : ReadsInt w .i64 A0 l.length l) (_ : l.length ≤ c0) (_ : l.length * 8 ≤ 140737488351232) (_ : ∀ x ∈ l, (Lit.int .i64 x).wf = true) (_ : (Lit.int .i64 by_).wf = true) :
    Calls Tryd.prog 8 #[.slice A0 l.length c0, .int .i64 by_] w fun e w' => e = .returned (.bool true) ∧ Below w.heap.size w w' := own_any A0 c0 l by_ w hr
end Go.Proofs.YtgkhkcoojfjofaaDoor
