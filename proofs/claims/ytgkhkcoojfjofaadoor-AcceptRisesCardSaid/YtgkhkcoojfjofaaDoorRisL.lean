/- AcceptRises. -/
import Derived.Test.YtgkhkcoojfjofaaDoorCllP
set_option linter.unusedVariables false
set_option linter.unusedSimpArgs false
namespace Go.Proofs.YtgkhkcoojfjofaaDoor
open Go.RowKit Go.Shelf Go.Proofs.YtgkhkcoojfjofaaDoorW.PrintWords Go.Proofs.Mine

/-- An array of whole numbers. -/
def ArrI (t size : Nat) (w : World) (X : Nat) (h : Nat → Int) : Prop := ∃ cs : Array Value, w.heap[X]? = some (.cells cs t (0, 0)) ∧ cs.size = size ∧ ∀ j, j < size → cs[j]? = some (.int .i64 (h j))
theorem ArrI.keep {t size : Nat} {w w1 : World} {X : Nat} {h : Nat → Int} {G : Nat → Prop} (a : ArrI t size w X h) (k : Keep G w w1) (hg : ¬ G X) : ArrI t size w1 X h := by
  obtain ⟨cs, h1, h2⟩ := a
  exact ⟨cs, k.blk h1 hg, h2⟩
theorem ArrI.get {t size : Nat} {w : World} {X : Nat} {h : Nat → Int} (a : ArrI t size w X h) {j : Nat} (hj : j < size) : w.cell? ⟨X, j, none⟩ = some (.int .i64 (h j)) ∧ w.frozen? ⟨X, j, none⟩ = false := by
  obtain ⟨cs, h1, h2, h3⟩ := a
  exact ⟨by rw [blk_cell h1]; exact h3 j hj, blk_frozen h1 j⟩
theorem ArrI.lt {t size : Nat} {w : World} {X : Nat} {h : Nat → Int} (a : ArrI t size w X h) : X < w.heap.size := by
  obtain ⟨cs, h1, _⟩ := a
  exact (Array.getElem?_eq_some_iff.1 h1).1
theorem ArrI.set {t size : Nat} {w : World} {X : Nat} {h : Nat → Int} (a : ArrI t size w X h) (j : Nat) (v : Int) : ArrI t size (w.setCell ⟨X, j, none⟩ (.int .i64 v)) X (fun i => if i = j then v else h i) := by
  obtain ⟨cs, h1, h2, h3⟩ := a
  refine ⟨_, blk_set h1 j _, by simp [h2], fun i hi => ?_⟩
  rw [Array.getElem?_setIfInBounds]
  by_cases e : j = i
  · subst e
    rw [if_pos rfl, if_pos (by omega)]
    show some (Value.int .i64 v) = some (.int .i64 (if j = j then v else h j))
    rw [if_pos rfl]
  · rw [if_neg e]
    show cs[i]? = some (.int .i64 (if i = j then v else h i))
    rw [if_neg (by omega)]
    exact h3 i hi
/-- What stands in the array, and what is promised. -/
def RInv (f : Int → Option Vh) (h : Nat → Int) (p : Int) : Prop := 0 ≤ p ∧ (∀ y z, f y = some z → z.s = y ∧ 1 ≤ y ∧ y ≤ 64 ∧ z.b ≤ p ∧ h y.toNat ≤ z.b) ∧ ∀ j, h j ≤ p
theorem RInv.start : RInv (fun _ => none) (fun _ => 0) 0 := ⟨by decide, fun y z e => (by cases e), fun _ => Int.le_refl _⟩
theorem RInv.vote {f : Int → Option Vh} {h : Nat → Int} {p : Int} (a : RInv f h p) {x : Vh} (h1 : 1 ≤ x.s) (h2 : x.s ≤ 64) (h3 : p ≤ x.b) : RInv (updI f x.s x) h x.b := by
  obtain ⟨g1, g2, g3⟩ := a
  refine ⟨by omega, fun y z e => ?_, fun j => by have := g3 j; omega⟩
  have e' : (if y = x.s then some x else f y) = some z := e
  by_cases hy : y = x.s
  · rw [if_pos hy] at e'
    injection e' with e'
    subst e'
    exact ⟨hy.symm, by omega, by omega, Int.le_refl _, by have := g3 y.toNat; omega⟩
  · rw [if_neg hy] at e'
    obtain ⟨k1, k2, k3, k4, k5⟩ := g2 y z e'
    exact ⟨k1, k2, k3, by omega, k5⟩
theorem RInv.up {f : Int → Option Vh} {h : Nat → Int} {p n : Int} (a : RInv f h p) (hn : p ≤ n) : RInv f h n := by
  obtain ⟨g1, g2, g3⟩ := a
  refine ⟨by omega, fun y z e => ?_, fun j => by have := g3 j; omega⟩
  obtain ⟨k1, k2, k3, k4, k5⟩ := g2 y z e
  exact ⟨k1, k2, k3, by omega, k5⟩
theorem RInv.put {f : Int → Option Vh} {h : Nat → Int} {p : Int} (a : RInv f h p) {s : Nat} {z : Vh} (hz : f (s : Int) = some z) : RInv f (fun i => if i = s then z.b else h i) p := by
  obtain ⟨g1, g2, g3⟩ := a
  obtain ⟨_, _, _, hb, _⟩ := g2 _ z hz
  refine ⟨g1, fun y x e => ?_, fun j => ?_⟩
  · obtain ⟨k1, k2, k3, k4, k5⟩ := g2 y x e
    refine ⟨k1, k2, k3, k4, ?_⟩
    show (if y.toNat = s then z.b else h y.toNat) ≤ x.b
    by_cases hy : y.toNat = s
    · rw [if_pos hy]
      have : y = (s : Int) := by omega
      subst this
      rw [hz] at e
      injection e with e
      subst e
      exact Int.le_refl _
    · rw [if_neg hy]; exact k5
  · show (if j = s then z.b else h j) ≤ p
    by_cases hj : j = s
    · rw [if_pos hj]; exact hb
    · rw [if_neg hj]; exact g3 j
theorem AcG.slots {f : Int → Option Vh} {h : Nat → Int} {p : Int} (a : RInv f h p) : ∀ y z, f y = some z → 1 ≤ y ∧ y ≤ 64 := fun y z e => ⟨(a.2.1 y z e).2.1, (a.2.1 y z e).2.2.1⟩
theorem accept_r (x : Vh) (b : Nat) (p : Int) (f : Int → Option Vh) (h : Nat → Int) (base : Nat) (F : Nat → Prop) (w : World) (hA : AcG w base F b p f) (hI : RInv f h p) (hb : base ≤ w.heap.size) (hg : Laid w) (hr : ReadsInt w .i64 x.A x.mem.length x.mem) (hn : x.mem.length ≤ 1000000) (hoff : 0 < x.mem.length → ∀ a, x.A = some a → ¬ F a.block) :
    Calls Tryd.prog 12 #[.pointer (some ⟨b, 0, none⟩), .int .i64 x.b, .int .i64 x.s, .agg #[.int .i64 x.kd, .int .i64 x.c, .int .i64 x.q, .string x.data, .slice x.A x.mem.length x.cap, .int .i64 x.dst]] w fun r w' => ∃ n p' f', r = .returned (.int .i64 n) ∧ AcT base b p' f' w F w' ∧ RInv f' h p' ∧ p ≤ p' := by
  refine (accept_all x b p f base F w hA hb hg hr hn hoff).mono ?_
  rintro r w' ⟨rfl, h1 | h1⟩
  · obtain ⟨_, h2, h3, h4, h5, A1, c1, hT⟩ := h1
    exact ⟨_, _, _, rfl, hT, hI.vote (x := { x with A := A1, cap := c1 }) h2 h3 h5, h5⟩
  · exact ⟨_, _, _, rfl, h1.2, hI, Int.le_refl _⟩
theorem prepare_r (b : Nat) (p n fr : Int) (f : Int → Option Vh) (h : Nat → Int) (base : Nat) (F : Nat → Prop) (w : World) (hA : AcG w base F b p f) (hI : RInv f h p) (hb : base ≤ w.heap.size) (hg : Laid w) :
    Calls Tryd.prog 13 #[.pointer (some ⟨b, 0, none⟩), .int .i64 n, .int .i64 fr] w fun r w' => ∃ A1 n1 c1 m p', r = .returned (.tuple #[.slice A1 n1 c1, .int .i64 m]) ∧ AcT base b p' f w F w' ∧ RInv f h p' ∧ p ≤ p' := by
  refine (prepare_all b p n fr f base F w hA hb hg (AcG.slots hI)).mono ?_
  rintro r w' ⟨v, hv, rfl, hT, h1⟩
  obtain ⟨A1, c1, rfl, _⟩ := hT.row
  rcases h1 with ⟨_, _, h2, _, h3⟩ | ⟨_, _, h3⟩
  · exact ⟨_, _, _, _, _, rfl, h3, hI.up h2, h2⟩
  · exact ⟨_, _, _, _, _, rfl, h3, hI, Int.le_refl _⟩
theorem TellsAt.row2 {w : World} {lo : Nat} {v : Value} {hv : List Vh} (h : TellsAt w lo v hv) : ∃ A c, v = .slice A hv.length c ∧ VRow w A hv.length hv ∧ ∀ a, A = some a → lo ≤ a.block := by
  obtain ⟨h1, h2, h3⟩ := h
  rcases h3 with ⟨rfl, rfl⟩ | ⟨g, c, rfl, h5, h6, h7⟩
  · exact ⟨none, 0, rfl, ⟨rfl, by decide, fun hp => absurd hp (by decide)⟩, fun a ha => by cases ha⟩
  · exact ⟨_, c, rfl, h6.row (by omega), fun a ha => by injection ha with ha; subst ha; exact h5⟩
theorem told_lt {f : Int → Option Vh} {hv : List Vh} (h : Told f (hv.map Vh.vo)) {j : Nat} {x y : Vh} (hx : hv[j]? = some x) (hy : hv[j + 1]? = some y) : x.s < y.s := by
  have hp := h.1
  rw [List.pairwise_map] at hp
  obtain ⟨ha, hax⟩ := List.getElem?_eq_some_iff.1 hx
  obtain ⟨hb, hby⟩ := List.getElem?_eq_some_iff.1 hy
  have h9 : hv[j].vo.s < hv[j + 1].vo.s := List.pairwise_iff_getElem.1 hp j (j + 1) ha hb (by omega)
  rw [hax, hby] at h9
  exact h9
theorem infoA65 (w : World) : (zeroValue 26).run Tryd.prog w = .ok (.agg (Array.replicate 65 (.int .i64 0))) w := by kernel_rfl
theorem VAt.keep2 {w w1 : World} {a : Addr} {m X : Nat} {x : Vh} (h : VAt w (a.add m) x) (k : Keep (fun b => b = X) w w1) (hb : ¬ a.block = X) : VAt w1 (a.add m) x := by
  have e : ¬ (a.add m).block = X := by rw [vadd_block]; exact hb
  obtain ⟨h0, h1, h2, h3, h4, h5, h6, h7⟩ := h
  exact ⟨k.cell h0 e, k.cell h1 e, k.cell h2 e, k.cell h3 e, k.cell h4 e, k.cell h5 e, k.cell h6 e, k.cell h7 e⟩
set_option maxRecDepth 100000 in
set_option maxHeartbeats 2000000 in
theorem rises_any (A0 : Option Addr) (c0 : Nat) (l : List Ch) (w : World) (hg : Laid w) (hl : CRow w A0 l.length l) (hin : CIn w l) :
    Calls Tryd.prog 3 #[.slice A0 l.length c0] w fun e w' => e = .returned (.bool true) ∧ Below w.heap.size w w' := by
  have H1 := Lib.hid hl
  have HIN := Lib.hid hin
  have HG := Lib.hid hg
  have hmx := hl.2.1
  clear hl hin hg
  go_enter Tryd.func3, Tryd.ntmps3
  go_wp2_with (first
    | (go_at_call 10; refine (new_at w0).mono ?_; rintro r w1 ⟨b, F0, rfl, hA1, hB1⟩
       have HA1 := Lib.hid (AcG.of_at hA1)
       have HB1 := Lib.hid hB1
       clear hA1 hB1)
    | (go_at_call 9; refine (known_any w).mono ?_; rintro r w0 ⟨rfl, hB0⟩; have HB0 := Lib.hid hB0; clear hB0))
  generalize hW : w1.alloc _ = W
  have hBW : Below w1.heap.size w1 W := by rw [← hW]; exact (Below.refl _ w1).alloc (Nat.le_refl _) _
  obtain ⟨X, hX⟩ : ∃ X, X = w1.heap.size := ⟨_, rfl⟩
  have hAX : ArrI 26 65 W X (fun _ => 0) := ⟨Array.replicate 65 (.int .i64 0), by rw [← hW, hX]; exact heap_alloc_new w1 _, by simp, fun j hj => by simp [hj]⟩
  rw [← hX]
  have HAX := Lib.hid hAX
  have HAW := Lib.hid (HA1.out.below hBW)
  have HXF := Lib.hid (show ¬ F0 X from fun hf => by have := (HA1.out.2.1 X hf).2; omega)
  have HBW := Lib.hid (HB1.out.trans (hBW.mono HB1.out.size))
  have HXB := Lib.hid (show w0.heap.size ≤ X from by rw [hX]; exact HB1.out.size)
  clear hBW hAX hW hX
  go_loopw [4, 6, 7, 8, 9] (fun tv iv _ _ _ wr => ∃ (p : Int) (i : Nat) (F : Nat → Prop) (f : Int → Option Vh) (h : Nat → Int), i ≤ 60 ∧ tv = .int .i64 p ∧ iv = .int .i64 (i : Int) ∧ RowKit.Hid (AcG wr w0.heap.size F b p f) ∧ RowKit.Hid (ArrI 26 65 wr X h) ∧ RowKit.Hid (¬ F X) ∧ RowKit.Hid (RInv f h p) ∧ RowKit.Hid (Below w0.heap.size w0 wr)) (fun _ iv _ _ _ _ => 60 - (intOf iv).toNat)
  case atStart => exact ⟨0, 0, F0, fun _ => none, fun _ => 0, by omega, rfl, rfl, HAW, HAX, HXF, Lib.hid RInv.start, HBW⟩
  case round =>
    obtain ⟨p, i, F, f, h, hi, rfl, rfl, HA, HX, HF, HI, HBR⟩ := hrel
    by_cases hi1 : (i : Int) < (l.length : Int)
    · by_cases hi2 : (i : Int) < 60
      · have hi0 : (0 : Int) ≤ (i : Int) := by omega
        obtain ⟨x, hx⟩ : ∃ x, l[i]? = some x := ⟨_, List.getElem?_eq_getElem (by omega)⟩
        obtain ⟨a0, rfl, hca⟩ := ch_at H1.out hx
        have hBwr := HB0.out.trans (HBR.out.mono HB0.out.size)
        obtain ⟨c0', c1, c2, c3, c4, c5, c6, c7, c8⟩ := hca
        have z0 := pw_cell_below hBwr c0'
        have z1 := pw_cell_below hBwr c1
        have z2 := pw_cell_below hBwr c2
        have z3 := pw_cell_below hBwr c3
        have z4 := pw_cell_below hBwr c4
        have z5 := pw_cell_below hBwr c5
        have z6 := pw_cell_below hBwr c6
        have z7 := pw_cell_below hBwr c7
        have z8 := pw_cell_below hBwr c8
        obtain ⟨ea0, hea0⟩ : ∃ ea0, ea0 = a0.add (i * 9) := ⟨_, rfl⟩
        rw [← hea0] at z0 z1 z2 z3 z4 z5 z6 z7 z8
        have hea0' := hea0.symm
        have HRx := Lib.hid ((HIN.out x (List.mem_of_getElem? hx)).below hBwr)
        have HOF := Lib.hid (show 0 < x.v.mem.length → ∀ a, x.v.A = some a → ¬ F a.block from fun hp a ha hf => by
          have h1 := (HA.out.2.1 _ hf).1
          obtain ⟨ad, hA, hc⟩ := (HIN.out x (List.mem_of_getElem? hx)).2.2 hp
          rw [ha] at hA
          injection hA with hA
          subst hA
          have h2 := World.block_lt_of_cell? w _ (hc 0 hp)
          have h3 : (a.add 0).block = a.block := rfl
          rw [h3] at h2
          have := HB0.out.size
          omega)
        have HGR := Lib.hid (HG.out.below hBwr)
        obtain ⟨fw, hfw⟩ : ∃ b, b = (decide ((x.v.data.size : Int) < 300) && decide ((x.v.mem.length : Int) < 50)) := ⟨_, rfl⟩
        have HFW := Lib.hid hfw
        have HFEW := Lib.hid (show ∀ W : World, Calls Tryd.prog 11 #[.agg #[.int .i64 x.v.kd, .int .i64 x.v.c, .int .i64 x.v.q, .string x.v.data, .slice x.v.A x.v.mem.length x.v.cap, .int .i64 x.v.dst]] W (fun e w' => e = .returned (.bool fw) ∧ Below W.heap.size W w') from fun W => by have h := few_lit x.v.kd x.v.c x.v.q x.v.data x.v.mem.length x.v.dst x.v.A x.v.cap W; rw [← hfw] at h; exact h)
        clear hfw c0' c1 c2 c3 c4 c5 c6 c7 c8 hea0 hx hBwr
        cases fw with
        | false =>
          go_wp2_with (first
          | (go_at_call 11
             generalize hW : wr.alloc _ = W
             have hB : Below wr.heap.size wr W := by rw [← hW]; exact (Below.refl _ wr).alloc (Nat.le_refl _) _
             have hb7 : W.heap[wr.heap.size]? = some (.cells #[.bool x.ac, .int .i64 x.v.b, .int .i64 x.v.s, .int .i64 x.v.kd, .int .i64 x.v.c, .int .i64 x.v.q, .string x.v.data, .slice x.v.A x.v.mem.length x.v.cap, .int .i64 x.v.dst] 31 (0, 0)) := by rw [← hW]; exact heap_alloc_new wr _
             obtain ⟨g7, hg7⟩ : ∃ g7, g7 = wr.heap.size := ⟨_, rfl⟩
             rw [← hg7] at hb7
             rw [← hg7]
             refine (HFEW.out W).mono ?_
             rintro r w3 ⟨rfl, hB3⟩
             have hb73 := (hB3.block g7 (blk_lt hb7)).trans hb7
             have q0 := blk_cell hb73 0
             have q1 := blk_cell hb73 1
             have q2 := blk_cell hb73 2
             have q3 := blk_cell hb73 3
             have q4 := blk_cell hb73 4
             have q5 := blk_cell hb73 5
             have q6 := blk_cell hb73 6
             have q7 := blk_cell hb73 7
             have q8 := blk_cell hb73 8
             simp only [List.getElem?_toArray, List.getElem?_cons_zero, List.getElem?_cons_succ] at q0 q1 q2 q3 q4 q5 q6 q7 q8
             have hBB := hB.trans (hB3.mono hB.size)
             have HA3 := Lib.hid (HA.out.below hBB)
             have HX3 := Lib.hid (HX.out.keep (Keep.of_below hBB (fun _ => False)) (fun h => h))
             have HB3 := Lib.hid (HBR.out.trans (hBB.mono HBR.out.size))
             have HR3 := Lib.hid (HRx.out.below hBB)
             have HG3 := Lib.hid (HGR.out.below hBB)
             clear hb7 hb73 hB hB3 hBB hW hg7))
          exact ⟨⟨p, i + 1, F, f, h, by omega, rfl, by simp, HA3, HX3, HF, HI, HB3⟩, by simp [intOf]; omega⟩
        | true =>
          have HN := Lib.hid (show x.v.mem.length ≤ 1000000 from by have := HFW.out; simp at this; omega)
          cases hac : x.ac with
          | true =>
            rw [hac] at z0
            go_wp2_with (first
              | (go_at_call 15; refine (votes_g HA4.out (AcG.slots HI4.out)).mono ?_
                 rintro r w5 ⟨v5, hv, rfl, hT5, hD5, hB5'⟩
                 obtain ⟨Av, cv, rfl, hrow5, hlo5⟩ := hT5.row2
                 have HROW := Lib.hid hrow5
                 have HLO := Lib.hid hlo5
                 have HD := Lib.hid hD5
                 have hvl : hv.length ≤ 64 := hT5.2.1
                 have HA5 := Lib.hid (HA4.out.below hB5')
                 have HX5 := Lib.hid (HX4.out.keep (Keep.of_below hB5' (fun _ => False)) (fun h => h))
                 have HB5 := Lib.hid (HB4.out.trans (hB5'.mono HB4.out.size))
                 have HXL := Lib.hid HX4.out.lt
                 clear hT5 hD5 hB5' hrow5 hlo5)
              | (go_at_call 14; refine (promised_any b p2 _ HC4.out).mono ?_; rintro r w5 ⟨rfl, rfl⟩)
              | (go_at_call 12; refine (accept_r x.v b p f h w0.heap.size F w3 HA3.out HI.out HB3.out.size HG3.out HR3.out HN.out HOF.out).mono ?_
                 rintro r w4 ⟨n4, p2, f2, rfl, hT4, hI4, hp2⟩
                 obtain ⟨F2, hA4, hF4, hK4⟩ := hT4
                 have HA4 := Lib.hid hA4
                 have HI4 := Lib.hid hI4
                 have HC4 := Lib.hid hA4.cell
                 have HX4 := Lib.hid (HX3.out.keep hK4 HF.out)
                 have HF5 := Lib.hid (show ¬ F2 X from fun hf => by
                   rcases hF4 X hf with h1 | h1
                   · exact HF.out h1
                   · have := HX3.out.lt; omega)
                 have HB4 := Lib.hid (HB3.out.trans (hK4.to_below HB3.out.size (fun k hk => (HA3.out.2.1 k hk).1)))
                 have hpp : ¬ p2 < p := by omega
                 clear hA4 hI4 hF4 hK4 hp2)
              | (go_at_call 11
                 generalize hW : wr.alloc _ = W
                 have hB : Below wr.heap.size wr W := by rw [← hW]; exact (Below.refl _ wr).alloc (Nat.le_refl _) _
                 have hb7 : W.heap[wr.heap.size]? = some (.cells #[.bool true, .int .i64 x.v.b, .int .i64 x.v.s, .int .i64 x.v.kd, .int .i64 x.v.c, .int .i64 x.v.q, .string x.v.data, .slice x.v.A x.v.mem.length x.v.cap, .int .i64 x.v.dst] 31 (0, 0)) := by rw [← hW]; exact heap_alloc_new wr _
                 obtain ⟨g7, hg7⟩ : ∃ g7, g7 = wr.heap.size := ⟨_, rfl⟩
                 rw [← hg7] at hb7
                 rw [← hg7]
                 refine (HFEW.out W).mono ?_
                 rintro r w3 ⟨rfl, hB3⟩
                 have hb73 := (hB3.block g7 (blk_lt hb7)).trans hb7
                 have q0 := blk_cell hb73 0
                 have q1 := blk_cell hb73 1
                 have q2 := blk_cell hb73 2
                 have q3 := blk_cell hb73 3
                 have q4 := blk_cell hb73 4
                 have q5 := blk_cell hb73 5
                 have q6 := blk_cell hb73 6
                 have q7 := blk_cell hb73 7
                 have q8 := blk_cell hb73 8
                 simp only [List.getElem?_toArray, List.getElem?_cons_zero, List.getElem?_cons_succ] at q0 q1 q2 q3 q4 q5 q6 q7 q8
                 have hBB := hB.trans (hB3.mono hB.size)
                 have HA3 := Lib.hid (HA.out.below hBB)
                 have HX3 := Lib.hid (HX.out.keep (Keep.of_below hBB (fun _ => False)) (fun h => h))
                 have HB3 := Lib.hid (HBR.out.trans (hBB.mono HBR.out.size))
                 have HR3 := Lib.hid (HRx.out.below hBB)
                 have HG3 := Lib.hid (HGR.out.below hBB)
                 clear hb7 hb73 hB hB3 hBB hW hg7))
            go_loopw [9] (fun kv wx => ∃ (k : Nat) (h2 : Nat → Int), k ≤ hv.length ∧ kv = .int .i64 (k : Int) ∧ RowKit.Hid (ArrI 26 65 wx X h2) ∧ RowKit.Hid (RInv f2 h2 p2) ∧ RowKit.Hid (Keep (fun b => b = X) w5 wx)) (fun kv _ => hv.length - (intOf kv).toNat)
            case atStart => exact ⟨0, h, Nat.zero_le _, rfl, HX5, HI4, Lib.hid (Keep.refl _ _)⟩
            case round =>
              obtain ⟨k, h2, hkl, rfl, HX3, HRI, HK3⟩ := hrel
              by_cases hlt : k < hv.length
              · obtain ⟨z, hz⟩ : ∃ z, hv[k]? = some z := ⟨_, List.getElem?_eq_getElem hlt⟩
                obtain ⟨zf, hzf, hze⟩ := (HD.out.2 z.vo).1 (List.mem_map.2 ⟨z, List.mem_of_getElem? hz, rfl⟩)
                have e1 : z.s = zf.s := congrArg Vo.s hze
                have e2 : z.b = zf.b := congrArg Vo.b hze
                have hzf' : f2 z.s = some zf := hzf
                obtain ⟨g1, g2, g3, g4, g5⟩ := HRI.out.2.1 _ _ hzf'
                obtain ⟨ad, rfl, hva⟩ := vh_at HROW.out hz
                have hlo : ¬ ad.block = X := fun e => by have := HLO.out ad rfl; have := HXL.out; omega
                obtain ⟨s, hs⟩ : ∃ s : Nat, z.s = (s : Int) := ⟨z.s.toNat, by omega⟩
                have HPUT := Lib.hid (HRI.out.put (s := s) (z := zf) (by rw [← hs]; exact hzf'))
                have hs64 : s < 65 := by omega
                obtain ⟨y1, y2⟩ := HX3.out.get (j := s) hs64
                obtain ⟨hq, hhq⟩ : ∃ hq, hq = h2 s := ⟨_, rfl⟩
                have q3 : ¬ z.b < hq := by rw [hs, Int.toNat_natCast] at g5; rw [hhq]; omega
                have q4 : ¬ p2 < z.b := by omega
                have q1 : ¬ z.s < 1 := by omega
                have q2 : ¬ 64 < z.s := by omega
                have q0 : 0 ≤ z.s := by omega
                have q7 : z.s < 65 := by omega
                have hts : z.s.toNat = s := by omega
                rw [← hhq] at y1
                rw [← e2] at HPUT
                obtain ⟨v0, v1, _, _, _, _, _, _⟩ := VAt.keep2 hva HK3.out hlo
                have HKS := Lib.hid (fun (a : Addr) (u : Value) (w' : World) (e : w'.cell? a = some u) (hb : ¬ a.block = X) => ((Keep.refl (fun b => b = X) w').setCell ⟨X, s, none⟩ (.int .i64 z.b) (.inl rfl)).cell e hb)
                cases k with
                | zero =>
                  have hlti : (0 : Int) < (hv.length : Int) := by omega
                  have hea2 : ad.add 0 = ad := rfl
                  rw [show ad.add (0 * 8) = ad from rfl] at v0 v1
                  obtain ⟨ea, hea⟩ : ∃ ea, ea = ad := ⟨_, rfl⟩
                  have hbl : ¬ ea.block = X := by rw [hea]; exact hlo
                  subst hea
                  obtain ⟨zs, hzs⟩ : ∃ zs, zs = z.s := ⟨_, rfl⟩
                  obtain ⟨zb, hzb⟩ : ∃ zb, zb = z.b := ⟨_, rfl⟩
                  rw [← hzs] at q0 q1 q2 q7 hts v0
                  rw [← hzb] at q3 q4 v1 HPUT HKS
                  clear hzs hzb hz hzf hze e1 e2 hzf' g1 g2 g3 g4 g5 hva hs hhq
                  rw [show ((0 : Nat) : Int) = 0 from rfl]
                  go_wp2_with fail
                  refine wp_region_noPanic ?_
                  refine wp_region_held_drew (S := (fun w' => w'.cell? ea = some (.int .i64 zs) ∧ w'.cell? ⟨ea.block, ea.off + 1, none⟩ = some (.int .i64 zb) ∧ w'.cell? ⟨X, s, none⟩ = some (.int .i64 hq))) (by kernel_rfl) ?raas0 (fun hHeld0 => ?raar0)
                  case raas0 => (try dsimp only) <;> exact ⟨v0, v1, y1⟩
                  refine wpAnyH_take (i := 0) (v := ?vraa1) (by simp only [List.getElem?_toArray, List.getElem?_cons_zero, List.getElem?_cons_succ]; rfl) (by kernel_rfl) (by kernel_rfl) (by kernel_rfl) (fun _ _ _ h => h) (Or.inl ⟨by rfl, ?hraa1⟩) hHeld0 ?qraa1
                  case hraa1 => (intro w hSw; (try dsimp only at hSw); go_simp <;> with_reducible rfl)
                  try simp only [Act.put, List.setIfInBounds_toArray, List.set_cons_zero, List.set_cons_succ]
                  refine wpAnyH_take (i := 1) (v := ?vraa2) (by simp only [List.getElem?_toArray, List.getElem?_cons_zero, List.getElem?_cons_succ]; rfl) (by kernel_rfl) (by kernel_rfl) (by kernel_rfl) (fun _ _ _ h => h) (Or.inl ⟨by rfl, ?hraa2⟩) hHeld0 ?qraa2
                  case hraa2 => (intro w hSw; (try dsimp only at hSw); go_simp <;> with_reducible rfl)
                  try simp only [Act.put, List.setIfInBounds_toArray, List.set_cons_zero, List.set_cons_succ]
                  refine wpAnyH_take (i := 2) (v := ?vraa3) (by simp only [List.getElem?_toArray, List.getElem?_cons_zero, List.getElem?_cons_succ]; rfl) (by kernel_rfl) (by kernel_rfl) (by kernel_rfl) (fun _ _ _ h => h) (Or.inl ⟨by rfl, ?hraa3⟩) hHeld0 ?qraa3
                  case hraa3 => (intro w hSw; (try dsimp only at hSw); go_simp <;> with_reducible rfl)
                  try simp only [Act.put, List.setIfInBounds_toArray, List.set_cons_zero, List.set_cons_succ]
                  refine wpAnyH_take (i := 3) (v := ?vraa4) (by simp only [List.getElem?_toArray, List.getElem?_cons_zero, List.getElem?_cons_succ]; rfl) (by kernel_rfl) (by kernel_rfl) (by kernel_rfl) (fun _ _ _ h => h) (Or.inl ⟨by rfl, ?hraa4⟩) hHeld0 ?qraa4
                  case hraa4 => (intro w hSw; (try dsimp only at hSw); go_simp <;> with_reducible rfl)
                  try simp only [Act.put, List.setIfInBounds_toArray, List.set_cons_zero, List.set_cons_succ]
                  refine wpAnyH_take (i := 4) (v := ?vraa5) (by simp only [List.getElem?_toArray, List.getElem?_cons_zero, List.getElem?_cons_succ]; rfl) (by kernel_rfl) (by kernel_rfl) (by kernel_rfl) (fun _ _ _ h => h) (Or.inl ⟨by rfl, ?hraa5⟩) hHeld0 ?qraa5
                  case hraa5 => (intro w hSw; (try dsimp only at hSw); go_simp <;> with_reducible rfl)
                  try simp only [Act.put, List.setIfInBounds_toArray, List.set_cons_zero, List.set_cons_succ]
                  refine wpAnyH_take (i := 5) (v := .bool false) (by simp only [List.getElem?_toArray, List.getElem?_cons_zero, List.getElem?_cons_succ]; rfl) (by kernel_rfl) (by kernel_rfl) (by kernel_rfl) (fun _ _ _ h => h) (Or.inl ⟨by rfl, ?hraa6⟩) hHeld0 ?qraa6
                  case hraa6 => (intro w hSw; (try dsimp only at hSw); go_simp; (try simp [q1, q2, q3, q4]))
                  try simp only [Act.put, List.setIfInBounds_toArray, List.set_cons_zero, List.set_cons_succ]
                  refine wpAnyH_take (i := 6) (v := ?vraa7) (by simp only [List.getElem?_toArray, List.getElem?_cons_zero, List.getElem?_cons_succ]; rfl) (by kernel_rfl) (by kernel_rfl) (by kernel_rfl) (fun _ _ _ h => h) (Or.inl ⟨by rfl, ?hraa7⟩) hHeld0 ?qraa7
                  case hraa7 => (intro w hSw; (try dsimp only at hSw); go_simp <;> with_reducible rfl)
                  try simp only [Act.put, List.setIfInBounds_toArray, List.set_cons_zero, List.set_cons_succ]
                  refine wpAnyH_take (i := 7) (v := ?vraa8) (by simp only [List.getElem?_toArray, List.getElem?_cons_zero, List.getElem?_cons_succ]; rfl) (by kernel_rfl) (by kernel_rfl) (by kernel_rfl) (fun _ _ _ h => h) (Or.inl ⟨by rfl, ?hraa8⟩) hHeld0 ?qraa8
                  case hraa8 => (intro w hSw; (try dsimp only at hSw); go_simp <;> with_reducible rfl)
                  try simp only [Act.put, List.setIfInBounds_toArray, List.set_cons_zero, List.set_cons_succ]
                  refine wpAnyH_take (i := 8) (v := ?vraa9) (by simp only [List.getElem?_toArray, List.getElem?_cons_zero, List.getElem?_cons_succ]; rfl) (by kernel_rfl) (by kernel_rfl) (by kernel_rfl) (fun _ _ _ h => h) (Or.inl ⟨by rfl, ?hraa9⟩) hHeld0 ?qraa9
                  case hraa9 => (intro w hSw; (try dsimp only at hSw); go_simp <;> with_reducible rfl)
                  try simp only [Act.put, List.setIfInBounds_toArray, List.set_cons_zero, List.set_cons_succ]
                  refine wpAnyH_take (i := 9) (v := ?vraa10) (by simp only [List.getElem?_toArray, List.getElem?_cons_zero, List.getElem?_cons_succ]; rfl) (by kernel_rfl) (by kernel_rfl) (by kernel_rfl) (fun _ _ _ h => h) (Or.inl ⟨by rfl, ?hraa10⟩) hHeld0 ?qraa10
                  case hraa10 => (intro w hSw; (try dsimp only at hSw); go_simp <;> with_reducible rfl)
                  try simp only [Act.put, List.setIfInBounds_toArray, List.set_cons_zero, List.set_cons_succ]
                  refine wpAnyH_take (i := 10) (v := ?vraa11) (by simp only [List.getElem?_toArray, List.getElem?_cons_zero, List.getElem?_cons_succ]; rfl) (by kernel_rfl) (by kernel_rfl) (by kernel_rfl) (fun _ _ _ h => h) (Or.inl ⟨by rfl, ?hraa11⟩) hHeld0 ?qraa11
                  case hraa11 => (intro w hSw; (try dsimp only at hSw); go_simp <;> with_reducible rfl)
                  try simp only [Act.put, List.setIfInBounds_toArray, List.set_cons_zero, List.set_cons_succ]
                  refine wpAnyH_take (i := 11) (v := ?vraa12) (by simp only [List.getElem?_toArray, List.getElem?_cons_zero, List.getElem?_cons_succ]; rfl) (by kernel_rfl) (by kernel_rfl) (by kernel_rfl) (fun _ _ _ h => h) (Or.inl ⟨by rfl, ?hraa12⟩) hHeld0 ?qraa12
                  case hraa12 => (intro w hSw; (try dsimp only at hSw); go_simp <;> with_reducible rfl)
                  try simp only [Act.put, List.setIfInBounds_toArray, List.set_cons_zero, List.set_cons_succ]
                  refine wpAnyH_take (i := 12) (v := .bool false) (by simp only [List.getElem?_toArray, List.getElem?_cons_zero, List.getElem?_cons_succ]; rfl) (by kernel_rfl) (by kernel_rfl) (by kernel_rfl) (fun _ _ _ h => h) (Or.inl ⟨by rfl, ?hraa13⟩) hHeld0 ?qraa13
                  case hraa13 => (intro w hSw; (try dsimp only at hSw); go_simp; (try simp [q1, q2, q3, q4]))
                  try simp only [Act.put, List.setIfInBounds_toArray, List.set_cons_zero, List.set_cons_succ]
                  refine wpAnyH_take (i := 13) (v := ?vraa14) (by simp only [List.getElem?_toArray, List.getElem?_cons_zero, List.getElem?_cons_succ]; rfl) (by kernel_rfl) (by kernel_rfl) (by kernel_rfl) (fun _ _ _ h => h) (Or.inl ⟨by rfl, ?hraa14⟩) hHeld0 ?qraa14
                  case hraa14 => (intro w hSw; (try dsimp only at hSw); go_simp <;> with_reducible rfl)
                  try simp only [Act.put, List.setIfInBounds_toArray, List.set_cons_zero, List.set_cons_succ]
                  refine wpAnyH_take (i := 14) (v := ?vraa15) (by simp only [List.getElem?_toArray, List.getElem?_cons_zero, List.getElem?_cons_succ]; rfl) (by kernel_rfl) (by kernel_rfl) (by kernel_rfl) (fun _ _ _ h => h) (Or.inl ⟨by rfl, ?hraa15⟩) hHeld0 ?qraa15
                  case hraa15 => (intro w hSw; (try dsimp only at hSw); go_simp <;> with_reducible rfl)
                  try simp only [Act.put, List.setIfInBounds_toArray, List.set_cons_zero, List.set_cons_succ]
                  refine wpAnyH_take (i := 15) (v := ?vraa16) (by simp only [List.getElem?_toArray, List.getElem?_cons_zero, List.getElem?_cons_succ]; rfl) (by kernel_rfl) (by kernel_rfl) (by kernel_rfl) (fun _ _ _ h => h) (Or.inl ⟨by rfl, ?hraa16⟩) hHeld0 ?qraa16
                  case hraa16 => (intro w hSw; (try dsimp only at hSw); go_simp <;> with_reducible rfl)
                  try simp only [Act.put, List.setIfInBounds_toArray, List.set_cons_zero, List.set_cons_succ]
                  refine wpAnyH_take (i := 16) (v := ?vraa17) (by simp only [List.getElem?_toArray, List.getElem?_cons_zero, List.getElem?_cons_succ]; rfl) (by kernel_rfl) (by kernel_rfl) (by kernel_rfl) (fun _ _ _ h => h) (Or.inl ⟨by rfl, ?hraa17⟩) hHeld0 ?qraa17
                  case hraa17 => (intro w hSw; (try dsimp only at hSw); go_simp <;> with_reducible rfl)
                  try simp only [Act.put, List.setIfInBounds_toArray, List.set_cons_zero, List.set_cons_succ]
                  refine wpAnyH_take (i := 17) (v := ?vraa18) (by simp only [List.getElem?_toArray, List.getElem?_cons_zero, List.getElem?_cons_succ]; rfl) (by kernel_rfl) (by kernel_rfl) (by kernel_rfl) (fun _ _ _ h => h) (Or.inl ⟨by rfl, ?hraa18⟩) hHeld0 ?qraa18
                  case hraa18 => (intro w hSw; (try dsimp only at hSw); go_simp <;> with_reducible rfl)
                  try simp only [Act.put, List.setIfInBounds_toArray, List.set_cons_zero, List.set_cons_succ]
                  refine wpAnyH_take (i := 18) (v := ?vraa19) (by simp only [List.getElem?_toArray, List.getElem?_cons_zero, List.getElem?_cons_succ]; rfl) (by kernel_rfl) (by kernel_rfl) (by kernel_rfl) (fun _ _ _ h => h) (Or.inl ⟨by rfl, ?hraa19⟩) hHeld0 ?qraa19
                  case hraa19 => (intro w hSw; (try dsimp only at hSw); go_simp <;> with_reducible rfl)
                  try simp only [Act.put, List.setIfInBounds_toArray, List.set_cons_zero, List.set_cons_succ]
                  refine wpAnyH_take (i := 19) (v := ?vraa20) (by simp only [List.getElem?_toArray, List.getElem?_cons_zero, List.getElem?_cons_succ]; rfl) (by kernel_rfl) (by kernel_rfl) (by kernel_rfl) (fun _ _ _ h => h) (Or.inl ⟨by rfl, ?hraa20⟩) hHeld0 ?qraa20
                  case hraa20 => (intro w hSw; (try dsimp only at hSw); go_simp <;> with_reducible rfl)
                  try simp only [Act.put, List.setIfInBounds_toArray, List.set_cons_zero, List.set_cons_succ]
                  refine wpAnyH_take (i := 20) (v := ?vraa21) (by simp only [List.getElem?_toArray, List.getElem?_cons_zero, List.getElem?_cons_succ]; rfl) (by kernel_rfl) (by kernel_rfl) (by kernel_rfl) (fun _ _ _ h => h) (Or.inl ⟨by rfl, ?hraa21⟩) hHeld0 ?qraa21
                  case hraa21 => (intro w hSw; (try dsimp only at hSw); go_simp <;> with_reducible rfl)
                  try simp only [Act.put, List.setIfInBounds_toArray, List.set_cons_zero, List.set_cons_succ]
                  refine wpAnyH_take (i := 21) (v := ?vraa22) (by simp only [List.getElem?_toArray, List.getElem?_cons_zero, List.getElem?_cons_succ]; rfl) (by kernel_rfl) (by kernel_rfl) (by kernel_rfl) (fun _ _ _ h => h) (Or.inl ⟨by rfl, ?hraa22⟩) hHeld0 ?qraa22
                  case hraa22 => (intro w hSw; (try dsimp only at hSw); go_simp <;> with_reducible rfl)
                  try simp only [Act.put, List.setIfInBounds_toArray, List.set_cons_zero, List.set_cons_succ]
                  refine wpAnyH_take (i := 22) (v := ?vraa23) (by simp only [List.getElem?_toArray, List.getElem?_cons_zero, List.getElem?_cons_succ]; rfl) (by kernel_rfl) (by kernel_rfl) (by kernel_rfl) (fun _ _ _ h => h) (Or.inl ⟨by rfl, ?hraa23⟩) hHeld0 ?qraa23
                  case hraa23 => (intro w hSw; (try dsimp only at hSw); go_simp <;> with_reducible rfl)
                  try simp only [Act.put, List.setIfInBounds_toArray, List.set_cons_zero, List.set_cons_succ]
                  refine wpAnyH_take (i := 23) (v := ?vraa24) (by simp only [List.getElem?_toArray, List.getElem?_cons_zero, List.getElem?_cons_succ]; rfl) (by kernel_rfl) (by kernel_rfl) (by kernel_rfl) (fun _ _ _ h => h) (Or.inl ⟨by rfl, ?hraa24⟩) hHeld0 ?qraa24
                  case hraa24 => (intro w hSw; (try dsimp only at hSw); go_simp <;> with_reducible rfl)
                  try simp only [Act.put, List.setIfInBounds_toArray, List.set_cons_zero, List.set_cons_succ]
                  refine wpAnyH_take (i := 24) (v := ?vraa25) (by simp only [List.getElem?_toArray, List.getElem?_cons_zero, List.getElem?_cons_succ]; rfl) (by kernel_rfl) (by kernel_rfl) (by kernel_rfl) (fun _ _ _ h => h) (Or.inl ⟨by rfl, ?hraa25⟩) hHeld0 ?qraa25
                  case hraa25 => (intro w hSw; (try dsimp only at hSw); go_simp <;> with_reducible rfl)
                  try simp only [Act.put, List.setIfInBounds_toArray, List.set_cons_zero, List.set_cons_succ]
                  refine wpAnyH_take (i := 25) (v := ?vraa26) (by simp only [List.getElem?_toArray, List.getElem?_cons_zero, List.getElem?_cons_succ]; rfl) (by kernel_rfl) (by kernel_rfl) (by kernel_rfl) (fun _ _ _ h => h) (Or.inl ⟨by rfl, ?hraa26⟩) hHeld0 ?qraa26
                  case hraa26 => (intro w hSw; (try dsimp only at hSw); go_simp <;> with_reducible rfl)
                  try simp only [Act.put, List.setIfInBounds_toArray, List.set_cons_zero, List.set_cons_succ]
                  refine wpAnyH_take (i := 26) (v := ?vraa27) (by simp only [List.getElem?_toArray, List.getElem?_cons_zero, List.getElem?_cons_succ]; rfl) (by kernel_rfl) (by kernel_rfl) (by kernel_rfl) (fun _ _ _ h => h) (Or.inl ⟨by rfl, ?hraa27⟩) hHeld0 ?qraa27
                  case hraa27 => (intro w hSw; (try dsimp only at hSw); go_simp <;> with_reducible rfl)
                  try simp only [Act.put, List.setIfInBounds_toArray, List.set_cons_zero, List.set_cons_succ]
                  refine wpAnyH_take (i := 27) (v := .bool false) (by simp only [List.getElem?_toArray, List.getElem?_cons_zero, List.getElem?_cons_succ]; rfl) (by kernel_rfl) (by kernel_rfl) (by kernel_rfl) (fun _ _ _ h => h) (Or.inl ⟨by rfl, ?hraa28⟩) hHeld0 ?qraa28
                  case hraa28 => (intro w hSw; (try dsimp only at hSw); go_simp; (try simp [q1, q2, q3, q4]))
                  try simp only [Act.put, List.setIfInBounds_toArray, List.set_cons_zero, List.set_cons_succ]
                  refine wpAnyH_take (i := 28) (v := ?vraa29) (by simp only [List.getElem?_toArray, List.getElem?_cons_zero, List.getElem?_cons_succ]; rfl) (by kernel_rfl) (by kernel_rfl) (by kernel_rfl) (fun _ _ _ h => h) (Or.inl ⟨by rfl, ?hraa29⟩) hHeld0 ?qraa29
                  case hraa29 => (intro w hSw; (try dsimp only at hSw); go_simp <;> with_reducible rfl)
                  try simp only [Act.put, List.setIfInBounds_toArray, List.set_cons_zero, List.set_cons_succ]
                  refine wpAnyH_take (i := 29) (v := ?vraa30) (by simp only [List.getElem?_toArray, List.getElem?_cons_zero, List.getElem?_cons_succ]; rfl) (by kernel_rfl) (by kernel_rfl) (by kernel_rfl) (fun _ _ _ h => h) (Or.inl ⟨by rfl, ?hraa30⟩) hHeld0 ?qraa30
                  case hraa30 => (intro w hSw; (try dsimp only at hSw); go_simp <;> with_reducible rfl)
                  try simp only [Act.put, List.setIfInBounds_toArray, List.set_cons_zero, List.set_cons_succ]
                  refine wpAnyH_take (i := 30) (v := ?vraa31) (by simp only [List.getElem?_toArray, List.getElem?_cons_zero, List.getElem?_cons_succ]; rfl) (by kernel_rfl) (by kernel_rfl) (by kernel_rfl) (fun _ _ _ h => h) (Or.inl ⟨by rfl, ?hraa31⟩) hHeld0 ?qraa31
                  case hraa31 => (intro w hSw; (try dsimp only at hSw); go_simp <;> with_reducible rfl)
                  try simp only [Act.put, List.setIfInBounds_toArray, List.set_cons_zero, List.set_cons_succ]
                  refine wpAnyH_take (i := 31) (v := ?vraa32) (by simp only [List.getElem?_toArray, List.getElem?_cons_zero, List.getElem?_cons_succ]; rfl) (by kernel_rfl) (by kernel_rfl) (by kernel_rfl) (fun _ _ _ h => h) (Or.inl ⟨by rfl, ?hraa32⟩) hHeld0 ?qraa32
                  case hraa32 => (intro w hSw; (try dsimp only at hSw); go_simp <;> with_reducible rfl)
                  try simp only [Act.put, List.setIfInBounds_toArray, List.set_cons_zero, List.set_cons_succ]
                  refine wpAnyH_take (i := 32) (v := ?vraa33) (by simp only [List.getElem?_toArray, List.getElem?_cons_zero, List.getElem?_cons_succ]; rfl) (by kernel_rfl) (by kernel_rfl) (by kernel_rfl) (fun _ _ _ h => h) (Or.inl ⟨by rfl, ?hraa33⟩) hHeld0 ?qraa33
                  case hraa33 => (intro w hSw; (try dsimp only at hSw); go_simp <;> with_reducible rfl)
                  try simp only [Act.put, List.setIfInBounds_toArray, List.set_cons_zero, List.set_cons_succ]
                  refine wpAnyH_take (i := 33) (v := ?vraa34) (by simp only [List.getElem?_toArray, List.getElem?_cons_zero, List.getElem?_cons_succ]; rfl) (by kernel_rfl) (by kernel_rfl) (by kernel_rfl) (fun _ _ _ h => h) (Or.inl ⟨by rfl, ?hraa34⟩) hHeld0 ?qraa34
                  case hraa34 => (intro w hSw; (try dsimp only at hSw); go_simp <;> with_reducible rfl)
                  try simp only [Act.put, List.setIfInBounds_toArray, List.set_cons_zero, List.set_cons_succ]
                  refine wpAnyH_take (i := 34) (v := ?vraa35) (by simp only [List.getElem?_toArray, List.getElem?_cons_zero, List.getElem?_cons_succ]; rfl) (by kernel_rfl) (by kernel_rfl) (by kernel_rfl) (fun _ _ _ h => h) (Or.inl ⟨by rfl, ?hraa35⟩) hHeld0 ?qraa35
                  case hraa35 => (intro w hSw; (try dsimp only at hSw); go_simp <;> with_reducible rfl)
                  try simp only [Act.put, List.setIfInBounds_toArray, List.set_cons_zero, List.set_cons_succ]
                  refine wpAnyH_take (i := 35) (v := ?vraa36) (by simp only [List.getElem?_toArray, List.getElem?_cons_zero, List.getElem?_cons_succ]; rfl) (by kernel_rfl) (by kernel_rfl) (by kernel_rfl) (fun _ _ _ h => h) (Or.inl ⟨by rfl, ?hraa36⟩) hHeld0 ?qraa36
                  case hraa36 => (intro w hSw; (try dsimp only at hSw); go_simp <;> with_reducible rfl)
                  try simp only [Act.put, List.setIfInBounds_toArray, List.set_cons_zero, List.set_cons_succ]
                  refine wpAnyH_take (i := 36) (v := .bool false) (by simp only [List.getElem?_toArray, List.getElem?_cons_zero, List.getElem?_cons_succ]; rfl) (by kernel_rfl) (by kernel_rfl) (by kernel_rfl) (fun _ _ _ h => h) (Or.inl ⟨by rfl, ?hraa37⟩) hHeld0 ?qraa37
                  case hraa37 => (intro w hSw; (try dsimp only at hSw); go_simp; (try simp [q1, q2, q3, q4]))
                  try simp only [Act.put, List.setIfInBounds_toArray, List.set_cons_zero, List.set_cons_succ]
                  refine wpAnyH_take (i := 37) (v := ?vraa38) (by simp only [List.getElem?_toArray, List.getElem?_cons_zero, List.getElem?_cons_succ]; rfl) (by kernel_rfl) (by kernel_rfl) (by kernel_rfl) (fun _ _ _ h => h) (Or.inl ⟨by rfl, ?hraa38⟩) hHeld0 ?qraa38
                  case hraa38 => (intro w hSw; (try dsimp only at hSw); go_simp <;> with_reducible rfl)
                  try simp only [Act.put, List.setIfInBounds_toArray, List.set_cons_zero, List.set_cons_succ]
                  refine wpAnyH_take (i := 38) (v := ?vraa39) (by simp only [List.getElem?_toArray, List.getElem?_cons_zero, List.getElem?_cons_succ]; rfl) (by kernel_rfl) (by kernel_rfl) (by kernel_rfl) (fun _ _ _ h => h) (Or.inl ⟨by rfl, ?hraa39⟩) hHeld0 ?qraa39
                  case hraa39 => (intro w hSw; (try dsimp only at hSw); go_simp <;> with_reducible rfl)
                  try simp only [Act.put, List.setIfInBounds_toArray, List.set_cons_zero, List.set_cons_succ]
                  refine wpAnyH_take (i := 39) (v := ?vraa40) (by simp only [List.getElem?_toArray, List.getElem?_cons_zero, List.getElem?_cons_succ]; rfl) (by kernel_rfl) (by kernel_rfl) (by kernel_rfl) (fun _ _ _ h => h) (Or.inl ⟨by rfl, ?hraa40⟩) hHeld0 ?qraa40
                  case hraa40 => (intro w hSw; (try dsimp only at hSw); go_simp <;> with_reducible rfl)
                  try simp only [Act.put, List.setIfInBounds_toArray, List.set_cons_zero, List.set_cons_succ]
                  refine wpAnyH_take (i := 40) (v := .bool false) (by simp only [List.getElem?_toArray, List.getElem?_cons_zero, List.getElem?_cons_succ]; rfl) (by kernel_rfl) (by kernel_rfl) (by kernel_rfl) (fun _ _ _ h => h) (Or.inl ⟨by rfl, ?hraa41⟩) hHeld0 ?qraa41
                  case hraa41 => (intro w hSw; (try dsimp only at hSw); go_simp; (try simp))
                  try simp only [Act.put, List.setIfInBounds_toArray, List.set_cons_zero, List.set_cons_succ]
                  refine wpAnyH_take (i := 41) (v := ?vraa42) (by simp only [List.getElem?_toArray, List.getElem?_cons_zero, List.getElem?_cons_succ]; rfl) (by kernel_rfl) (by kernel_rfl) (by kernel_rfl) (fun _ _ _ h => h) (Or.inl ⟨by rfl, ?hraa42⟩) hHeld0 ?qraa42
                  case hraa42 => (intro w hSw; (try dsimp only at hSw); go_simp <;> with_reducible rfl)
                  try simp only [Act.put, List.setIfInBounds_toArray, List.set_cons_zero, List.set_cons_succ]
                  refine wpAnyH_take (i := 42) (v := undef) (by simp only [List.getElem?_toArray, List.getElem?_cons_zero, List.getElem?_cons_succ]; rfl) (by kernel_rfl) (by kernel_rfl) (by kernel_rfl) (fun _ _ _ h => h) (Or.inr ⟨by rfl, rfl⟩) hHeld0 ?qraa43
                  try simp only [Act.put, List.setIfInBounds_toArray, List.set_cons_zero, List.set_cons_succ]
                  refine wpAnyH_take (i := 43) (v := undef) (by simp only [List.getElem?_toArray, List.getElem?_cons_zero, List.getElem?_cons_succ]; rfl) (by kernel_rfl) (by kernel_rfl) (by kernel_rfl) (fun _ _ _ h => h) (Or.inr ⟨by rfl, rfl⟩) hHeld0 ?qraa44
                  try simp only [Act.put, List.setIfInBounds_toArray, List.set_cons_zero, List.set_cons_succ]
                  refine wpAnyH_take (i := 44) (v := undef) (by simp only [List.getElem?_toArray, List.getElem?_cons_zero, List.getElem?_cons_succ]; rfl) (by kernel_rfl) (by kernel_rfl) (by kernel_rfl) (fun _ _ _ h => h) (Or.inr ⟨by rfl, rfl⟩) hHeld0 ?qraa45
                  try simp only [Act.put, List.setIfInBounds_toArray, List.set_cons_zero, List.set_cons_succ]
                  refine wpAnyH_take (i := 45) (v := undef) (by simp only [List.getElem?_toArray, List.getElem?_cons_zero, List.getElem?_cons_succ]; rfl) (by kernel_rfl) (by kernel_rfl) (by kernel_rfl) (fun _ _ _ h => h) (Or.inr ⟨by rfl, rfl⟩) hHeld0 ?qraa46
                  try simp only [Act.put, List.setIfInBounds_toArray, List.set_cons_zero, List.set_cons_succ]
                  refine wpAnyH_take (i := 46) (v := undef) (by simp only [List.getElem?_toArray, List.getElem?_cons_zero, List.getElem?_cons_succ]; rfl) (by kernel_rfl) (by kernel_rfl) (by kernel_rfl) (fun _ _ _ h => h) (Or.inr ⟨by rfl, rfl⟩) hHeld0 ?qraa47
                  try simp only [Act.put, List.setIfInBounds_toArray, List.set_cons_zero, List.set_cons_succ]
                  refine wpAnyH_take (i := 47) (v := undef) (by simp only [List.getElem?_toArray, List.getElem?_cons_zero, List.getElem?_cons_succ]; rfl) (by kernel_rfl) (by kernel_rfl) (by kernel_rfl) (fun _ _ _ h => h) (Or.inr ⟨by rfl, rfl⟩) hHeld0 ?qraa48
                  try simp only [Act.put, List.setIfInBounds_toArray, List.set_cons_zero, List.set_cons_succ]
                  refine wpAnyH_take (i := 48) (v := undef) (by simp only [List.getElem?_toArray, List.getElem?_cons_zero, List.getElem?_cons_succ]; rfl) (by kernel_rfl) (by kernel_rfl) (by kernel_rfl) (fun _ _ _ h => h) (Or.inr ⟨by rfl, rfl⟩) hHeld0 ?qraa49
                  try simp only [Act.put, List.setIfInBounds_toArray, List.set_cons_zero, List.set_cons_succ]
                  refine wpAnyH_take (i := 49) (v := undef) (by simp only [List.getElem?_toArray, List.getElem?_cons_zero, List.getElem?_cons_succ]; rfl) (by kernel_rfl) (by kernel_rfl) (by kernel_rfl) (fun _ _ _ h => h) (Or.inr ⟨by rfl, rfl⟩) hHeld0 ?qraa50
                  try simp only [Act.put, List.setIfInBounds_toArray, List.set_cons_zero, List.set_cons_succ]
                  refine wpAnyH_take (i := 50) (v := undef) (by simp only [List.getElem?_toArray, List.getElem?_cons_zero, List.getElem?_cons_succ]; rfl) (by kernel_rfl) (by kernel_rfl) (by kernel_rfl) (fun _ _ _ h => h) (Or.inr ⟨by rfl, rfl⟩) hHeld0 ?qraa51
                  try simp only [Act.put, List.setIfInBounds_toArray, List.set_cons_zero, List.set_cons_succ]
                  refine wpAnyH_take (i := 51) (v := undef) (by simp only [List.getElem?_toArray, List.getElem?_cons_zero, List.getElem?_cons_succ]; rfl) (by kernel_rfl) (by kernel_rfl) (by kernel_rfl) (fun _ _ _ h => h) (Or.inr ⟨by rfl, rfl⟩) hHeld0 ?qraa52
                  try simp only [Act.put, List.setIfInBounds_toArray, List.set_cons_zero, List.set_cons_succ]
                  refine wpAnyH_take (i := 52) (v := undef) (by simp only [List.getElem?_toArray, List.getElem?_cons_zero, List.getElem?_cons_succ]; rfl) (by kernel_rfl) (by kernel_rfl) (by kernel_rfl) (fun _ _ _ h => h) (Or.inr ⟨by rfl, rfl⟩) hHeld0 ?qraa53
                  try simp only [Act.put, List.setIfInBounds_toArray, List.set_cons_zero, List.set_cons_succ]
                  refine wpAnyH_take (i := 53) (v := undef) (by simp only [List.getElem?_toArray, List.getElem?_cons_zero, List.getElem?_cons_succ]; rfl) (by kernel_rfl) (by kernel_rfl) (by kernel_rfl) (fun _ _ _ h => h) (Or.inr ⟨by rfl, rfl⟩) hHeld0 ?qraa54
                  try simp only [Act.put, List.setIfInBounds_toArray, List.set_cons_zero, List.set_cons_succ]
                  refine wpAnyH_take (i := 54) (v := .bool false) (by simp only [List.getElem?_toArray, List.getElem?_cons_zero, List.getElem?_cons_succ]; rfl) (by kernel_rfl) (by kernel_rfl) (by kernel_rfl) (fun _ _ _ h => h) (Or.inl ⟨by rfl, ?hraa55⟩) hHeld0 ?qraa55
                  case hraa55 => (intro w hSw; (try dsimp only at hSw); go_simp; (try simp))
                  try simp only [Act.put, List.setIfInBounds_toArray, List.set_cons_zero, List.set_cons_succ]
                  refine wpAnyH_take (i := 55) (v := ?vraa56) (by simp only [List.getElem?_toArray, List.getElem?_cons_zero, List.getElem?_cons_succ]; rfl) (by kernel_rfl) (by kernel_rfl) (by kernel_rfl) (fun _ _ _ h => h) (Or.inl ⟨by rfl, ?hraa56⟩) hHeld0 ?qraa56
                  case hraa56 => (intro w hSw; (try dsimp only at hSw); go_simp <;> with_reducible rfl)
                  try simp only [Act.put, List.setIfInBounds_toArray, List.set_cons_zero, List.set_cons_succ]
                  refine wpAnyH_done (by kernel_rfl) ?_ _
                  refine NoPanic.normal ?_
                  go_wp2_with fail
                  refine wp_region_noPanic ?_
                  refine wp_region_held_drew (S := (fun w' => w'.cell? ea = some (.int .i64 zs) ∧ w'.cell? ⟨ea.block, ea.off + 1, none⟩ = some (.int .i64 zb))) (by kernel_rfl) ?raazs0 (fun hHeld0 => ?raazr0)
                  case raazs0 => (try dsimp only) <;> exact ⟨v0, v1⟩
                  refine wpAnyH_take (i := 0) (v := ?vraaz1) (by simp only [List.getElem?_toArray, List.getElem?_cons_zero, List.getElem?_cons_succ]; rfl) (by kernel_rfl) (by kernel_rfl) (by kernel_rfl) (fun _ _ _ h => h) (Or.inl ⟨by rfl, ?hraaz1⟩) hHeld0 ?qraaz1
                  case hraaz1 => (intro w hSw; (try dsimp only at hSw); go_simp <;> with_reducible rfl)
                  try simp only [Act.put, List.setIfInBounds_toArray, List.set_cons_zero, List.set_cons_succ]
                  refine wpAnyH_take (i := 1) (v := ?vraaz2) (by simp only [List.getElem?_toArray, List.getElem?_cons_zero, List.getElem?_cons_succ]; rfl) (by kernel_rfl) (by kernel_rfl) (by kernel_rfl) (fun _ _ _ h => h) (Or.inl ⟨by rfl, ?hraaz2⟩) hHeld0 ?qraaz2
                  case hraaz2 => (intro w hSw; (try dsimp only at hSw); go_simp <;> with_reducible rfl)
                  try simp only [Act.put, List.setIfInBounds_toArray, List.set_cons_zero, List.set_cons_succ]
                  refine wpAnyH_take (i := 2) (v := ?vraaz3) (by simp only [List.getElem?_toArray, List.getElem?_cons_zero, List.getElem?_cons_succ]; rfl) (by kernel_rfl) (by kernel_rfl) (by kernel_rfl) (fun _ _ _ h => h) (Or.inl ⟨by rfl, ?hraaz3⟩) hHeld0 ?qraaz3
                  case hraaz3 => (intro w hSw; (try dsimp only at hSw); go_simp <;> with_reducible rfl)
                  try simp only [Act.put, List.setIfInBounds_toArray, List.set_cons_zero, List.set_cons_succ]
                  refine wpAnyH_take (i := 3) (v := ?vraaz4) (by simp only [List.getElem?_toArray, List.getElem?_cons_zero, List.getElem?_cons_succ]; rfl) (by kernel_rfl) (by kernel_rfl) (by kernel_rfl) (fun _ _ _ h => h) (Or.inl ⟨by rfl, ?hraaz4⟩) hHeld0 ?qraaz4
                  case hraaz4 => (intro w hSw; (try dsimp only at hSw); go_simp <;> with_reducible rfl)
                  try simp only [Act.put, List.setIfInBounds_toArray, List.set_cons_zero, List.set_cons_succ]
                  refine wpAnyH_take (i := 4) (v := ?vraaz5) (by simp only [List.getElem?_toArray, List.getElem?_cons_zero, List.getElem?_cons_succ]; rfl) (by kernel_rfl) (by kernel_rfl) (by kernel_rfl) (fun _ _ _ h => h) (Or.inl ⟨by rfl, ?hraaz5⟩) hHeld0 ?qraaz5
                  case hraaz5 => (intro w hSw; (try dsimp only at hSw); go_simp <;> with_reducible rfl)
                  try simp only [Act.put, List.setIfInBounds_toArray, List.set_cons_zero, List.set_cons_succ]
                  refine wpAnyH_take (i := 5) (v := ?vraaz6) (by simp only [List.getElem?_toArray, List.getElem?_cons_zero, List.getElem?_cons_succ]; rfl) (by kernel_rfl) (by kernel_rfl) (by kernel_rfl) (fun _ _ _ h => h) (Or.inl ⟨by rfl, ?hraaz6⟩) hHeld0 ?qraaz6
                  case hraaz6 => (intro w hSw; (try dsimp only at hSw); go_simp <;> with_reducible rfl)
                  try simp only [Act.put, List.setIfInBounds_toArray, List.set_cons_zero, List.set_cons_succ]
                  refine wpAnyH_take (i := 6) (v := ?vraaz7) (by simp only [List.getElem?_toArray, List.getElem?_cons_zero, List.getElem?_cons_succ]; rfl) (by kernel_rfl) (by kernel_rfl) (by kernel_rfl) (fun _ _ _ h => h) (Or.inl ⟨by rfl, ?hraaz7⟩) hHeld0 ?qraaz7
                  case hraaz7 => (intro w hSw; (try dsimp only at hSw); go_simp <;> with_reducible rfl)
                  try simp only [Act.put, List.setIfInBounds_toArray, List.set_cons_zero, List.set_cons_succ]
                  refine wpAnyH_take (i := 7) (v := ?vraaz8) (by simp only [List.getElem?_toArray, List.getElem?_cons_zero, List.getElem?_cons_succ]; rfl) (by kernel_rfl) (by kernel_rfl) (by kernel_rfl) (fun _ _ _ h => h) (Or.inl ⟨by rfl, ?hraaz8⟩) hHeld0 ?qraaz8
                  case hraaz8 => (intro w hSw; (try dsimp only at hSw); go_simp <;> with_reducible rfl)
                  try simp only [Act.put, List.setIfInBounds_toArray, List.set_cons_zero, List.set_cons_succ]
                  refine wpAnyH_take (i := 8) (v := ?vraaz9) (by simp only [List.getElem?_toArray, List.getElem?_cons_zero, List.getElem?_cons_succ]; rfl) (by kernel_rfl) (by kernel_rfl) (by kernel_rfl) (fun _ _ _ h => h) (Or.inl ⟨by rfl, ?hraaz9⟩) hHeld0 ?qraaz9
                  case hraaz9 => (intro w hSw; (try dsimp only at hSw); go_simp <;> with_reducible rfl)
                  try simp only [Act.put, List.setIfInBounds_toArray, List.set_cons_zero, List.set_cons_succ]
                  refine wpAnyH_take (i := 9) (v := ?vraaz10) (by simp only [List.getElem?_toArray, List.getElem?_cons_zero, List.getElem?_cons_succ]; rfl) (by kernel_rfl) (by kernel_rfl) (by kernel_rfl) (fun _ _ _ h => h) (Or.inl ⟨by rfl, ?hraaz10⟩) hHeld0 ?qraaz10
                  case hraaz10 => (intro w hSw; (try dsimp only at hSw); go_simp <;> with_reducible rfl)
                  try simp only [Act.put, List.setIfInBounds_toArray, List.set_cons_zero, List.set_cons_succ]
                  refine wpAnyH_take (i := 10) (v := ?vraaz11) (by simp only [List.getElem?_toArray, List.getElem?_cons_zero, List.getElem?_cons_succ]; rfl) (by kernel_rfl) (by kernel_rfl) (by kernel_rfl) (fun _ _ _ h => h) (Or.inl ⟨by rfl, ?hraaz11⟩) hHeld0 ?qraaz11
                  case hraaz11 => (intro w hSw; (try dsimp only at hSw); go_simp <;> with_reducible rfl)
                  try simp only [Act.put, List.setIfInBounds_toArray, List.set_cons_zero, List.set_cons_succ]
                  refine wpAnyH_ready (rs := [11]) (by kernel_rfl) (by simp) ?_
                  refine AllReadyH.cons (by simp only [List.getElem?_toArray, List.getElem?_cons_zero, List.getElem?_cons_succ]; rfl) (fun K hK => ?_) AllReadyH.nil
                  go_simp

                  refine hK.out _ _ ?sraaz12 (fun hHeld1 => ?qraaz12)
                  case sraaz12 => (try dsimp only) <;> exact ⟨HKS.out _ _ _ v0 hbl, HKS.out _ _ _ v1 hbl⟩
                  clear hK K
                  try simp only [Act.put, List.setIfInBounds_toArray, List.set_cons_zero, List.set_cons_succ]
                  refine wpAnyH_done (by kernel_rfl) ?_ _
                  refine NoPanic.normal ?_
                  go_wp2_with fail
                  exact ⟨⟨0 + 1, _, by omega, by simp, Lib.hid (HX3.out.set s zb), HPUT, Lib.hid (HK3.out.trans ((((Keep.refl (fun b => b = X) wr).drew).drew.setCell ⟨X, s, none⟩ (.int .i64 zb) (.inl rfl))) (fun _ h => .inl h))⟩, by simp [intOf]; omega⟩
                | succ j =>
                  obtain ⟨y, hy⟩ : ∃ y, hv[j]? = some y := ⟨_, List.getElem?_eq_getElem (by omega)⟩
                  have q6 : ¬ z.s ≤ y.s := by have := told_lt HD.out hy hz; omega
                  have q5 : 0 < (j : Int) + 1 := by omega
                  have hj0 : (0 : Int) ≤ (j : Int) := by omega
                  have hj1 : (0 : Int) ≤ (j : Int) + 1 := by omega
                  have hlti : (j : Int) + 1 < (hv.length : Int) := by omega
                  have hltj : (j : Int) < (hv.length : Int) := by omega
                  have hwj : IntKind.i64.wrap (j : Int) = (j : Int) := IntWalk.i64_in _ (by omega)
                  obtain ⟨ad', had, hvb⟩ := vh_at HROW.out hy
                  obtain rfl : ad = ad' := by injection had
                  obtain ⟨u0, _, _, _, _, _, _, _⟩ := VAt.keep2 hvb HK3.out hlo
                  obtain ⟨ea, hea⟩ : ∃ ea, ea = ad.add ((j + 1) * 8) := ⟨_, rfl⟩
                  obtain ⟨eb, heb⟩ : ∃ eb, eb = ad.add (j * 8) := ⟨_, rfl⟩
                  have hbl : ¬ ea.block = X := by rw [hea, vadd_block]; exact hlo
                  rw [← hea] at v0 v1
                  rw [← heb] at u0
                  have hea2 := hea.symm
                  have heb2 := heb.symm
                  obtain ⟨zs, hzs⟩ : ∃ zs, zs = z.s := ⟨_, rfl⟩
                  obtain ⟨zb, hzb⟩ : ∃ zb, zb = z.b := ⟨_, rfl⟩
                  obtain ⟨ys, hys⟩ : ∃ ys, ys = y.s := ⟨_, rfl⟩
                  rw [← hzs] at q0 q1 q2 q6 q7 hts v0
                  rw [← hzb] at q3 q4 v1 HPUT HKS
                  rw [← hys] at q6 u0
                  clear hea heb hzs hzb hys hz hy hzf hze e1 e2 hzf' g1 g2 g3 g4 g5 hva hvb had hs hhq
                  rw [show ((j + 1 : Nat) : Int) = (j : Int) + 1 from by omega]
                  go_wp2_with fail
                  refine wp_region_noPanic ?_
                  refine wp_region_held_drew (S := (fun w' => w'.cell? ea = some (.int .i64 zs) ∧ w'.cell? ⟨ea.block, ea.off + 1, none⟩ = some (.int .i64 zb) ∧ w'.cell? ⟨X, s, none⟩ = some (.int .i64 hq) ∧ w'.cell? eb = some (.int .i64 ys))) (by kernel_rfl) ?rabs0 (fun hHeld0 => ?rabr0)
                  case rabs0 => (try dsimp only) <;> exact ⟨v0, v1, y1, u0⟩
                  refine wpAnyH_take (i := 0) (v := ?vrab1) (by simp only [List.getElem?_toArray, List.getElem?_cons_zero, List.getElem?_cons_succ]; rfl) (by kernel_rfl) (by kernel_rfl) (by kernel_rfl) (fun _ _ _ h => h) (Or.inl ⟨by rfl, ?hrab1⟩) hHeld0 ?qrab1
                  case hrab1 => (intro w hSw; (try dsimp only at hSw); go_simp <;> with_reducible rfl)
                  try simp only [Act.put, List.setIfInBounds_toArray, List.set_cons_zero, List.set_cons_succ]
                  refine wpAnyH_take (i := 1) (v := ?vrab2) (by simp only [List.getElem?_toArray, List.getElem?_cons_zero, List.getElem?_cons_succ]; rfl) (by kernel_rfl) (by kernel_rfl) (by kernel_rfl) (fun _ _ _ h => h) (Or.inl ⟨by rfl, ?hrab2⟩) hHeld0 ?qrab2
                  case hrab2 => (intro w hSw; (try dsimp only at hSw); go_simp <;> with_reducible rfl)
                  try simp only [Act.put, List.setIfInBounds_toArray, List.set_cons_zero, List.set_cons_succ]
                  refine wpAnyH_take (i := 2) (v := ?vrab3) (by simp only [List.getElem?_toArray, List.getElem?_cons_zero, List.getElem?_cons_succ]; rfl) (by kernel_rfl) (by kernel_rfl) (by kernel_rfl) (fun _ _ _ h => h) (Or.inl ⟨by rfl, ?hrab3⟩) hHeld0 ?qrab3
                  case hrab3 => (intro w hSw; (try dsimp only at hSw); go_simp <;> with_reducible rfl)
                  try simp only [Act.put, List.setIfInBounds_toArray, List.set_cons_zero, List.set_cons_succ]
                  refine wpAnyH_take (i := 3) (v := ?vrab4) (by simp only [List.getElem?_toArray, List.getElem?_cons_zero, List.getElem?_cons_succ]; rfl) (by kernel_rfl) (by kernel_rfl) (by kernel_rfl) (fun _ _ _ h => h) (Or.inl ⟨by rfl, ?hrab4⟩) hHeld0 ?qrab4
                  case hrab4 => (intro w hSw; (try dsimp only at hSw); go_simp <;> with_reducible rfl)
                  try simp only [Act.put, List.setIfInBounds_toArray, List.set_cons_zero, List.set_cons_succ]
                  refine wpAnyH_take (i := 4) (v := ?vrab5) (by simp only [List.getElem?_toArray, List.getElem?_cons_zero, List.getElem?_cons_succ]; rfl) (by kernel_rfl) (by kernel_rfl) (by kernel_rfl) (fun _ _ _ h => h) (Or.inl ⟨by rfl, ?hrab5⟩) hHeld0 ?qrab5
                  case hrab5 => (intro w hSw; (try dsimp only at hSw); go_simp <;> with_reducible rfl)
                  try simp only [Act.put, List.setIfInBounds_toArray, List.set_cons_zero, List.set_cons_succ]
                  refine wpAnyH_take (i := 5) (v := .bool false) (by simp only [List.getElem?_toArray, List.getElem?_cons_zero, List.getElem?_cons_succ]; rfl) (by kernel_rfl) (by kernel_rfl) (by kernel_rfl) (fun _ _ _ h => h) (Or.inl ⟨by rfl, ?hrab6⟩) hHeld0 ?qrab6
                  case hrab6 => (intro w hSw; (try dsimp only at hSw); go_simp; (try simp [q1, q2, q3, q4]))
                  try simp only [Act.put, List.setIfInBounds_toArray, List.set_cons_zero, List.set_cons_succ]
                  refine wpAnyH_take (i := 6) (v := ?vrab7) (by simp only [List.getElem?_toArray, List.getElem?_cons_zero, List.getElem?_cons_succ]; rfl) (by kernel_rfl) (by kernel_rfl) (by kernel_rfl) (fun _ _ _ h => h) (Or.inl ⟨by rfl, ?hrab7⟩) hHeld0 ?qrab7
                  case hrab7 => (intro w hSw; (try dsimp only at hSw); go_simp <;> with_reducible rfl)
                  try simp only [Act.put, List.setIfInBounds_toArray, List.set_cons_zero, List.set_cons_succ]
                  refine wpAnyH_take (i := 7) (v := ?vrab8) (by simp only [List.getElem?_toArray, List.getElem?_cons_zero, List.getElem?_cons_succ]; rfl) (by kernel_rfl) (by kernel_rfl) (by kernel_rfl) (fun _ _ _ h => h) (Or.inl ⟨by rfl, ?hrab8⟩) hHeld0 ?qrab8
                  case hrab8 => (intro w hSw; (try dsimp only at hSw); go_simp <;> with_reducible rfl)
                  try simp only [Act.put, List.setIfInBounds_toArray, List.set_cons_zero, List.set_cons_succ]
                  refine wpAnyH_take (i := 8) (v := ?vrab9) (by simp only [List.getElem?_toArray, List.getElem?_cons_zero, List.getElem?_cons_succ]; rfl) (by kernel_rfl) (by kernel_rfl) (by kernel_rfl) (fun _ _ _ h => h) (Or.inl ⟨by rfl, ?hrab9⟩) hHeld0 ?qrab9
                  case hrab9 => (intro w hSw; (try dsimp only at hSw); go_simp <;> with_reducible rfl)
                  try simp only [Act.put, List.setIfInBounds_toArray, List.set_cons_zero, List.set_cons_succ]
                  refine wpAnyH_take (i := 9) (v := ?vrab10) (by simp only [List.getElem?_toArray, List.getElem?_cons_zero, List.getElem?_cons_succ]; rfl) (by kernel_rfl) (by kernel_rfl) (by kernel_rfl) (fun _ _ _ h => h) (Or.inl ⟨by rfl, ?hrab10⟩) hHeld0 ?qrab10
                  case hrab10 => (intro w hSw; (try dsimp only at hSw); go_simp <;> with_reducible rfl)
                  try simp only [Act.put, List.setIfInBounds_toArray, List.set_cons_zero, List.set_cons_succ]
                  refine wpAnyH_take (i := 10) (v := ?vrab11) (by simp only [List.getElem?_toArray, List.getElem?_cons_zero, List.getElem?_cons_succ]; rfl) (by kernel_rfl) (by kernel_rfl) (by kernel_rfl) (fun _ _ _ h => h) (Or.inl ⟨by rfl, ?hrab11⟩) hHeld0 ?qrab11
                  case hrab11 => (intro w hSw; (try dsimp only at hSw); go_simp <;> with_reducible rfl)
                  try simp only [Act.put, List.setIfInBounds_toArray, List.set_cons_zero, List.set_cons_succ]
                  refine wpAnyH_take (i := 11) (v := ?vrab12) (by simp only [List.getElem?_toArray, List.getElem?_cons_zero, List.getElem?_cons_succ]; rfl) (by kernel_rfl) (by kernel_rfl) (by kernel_rfl) (fun _ _ _ h => h) (Or.inl ⟨by rfl, ?hrab12⟩) hHeld0 ?qrab12
                  case hrab12 => (intro w hSw; (try dsimp only at hSw); go_simp <;> with_reducible rfl)
                  try simp only [Act.put, List.setIfInBounds_toArray, List.set_cons_zero, List.set_cons_succ]
                  refine wpAnyH_take (i := 12) (v := .bool false) (by simp only [List.getElem?_toArray, List.getElem?_cons_zero, List.getElem?_cons_succ]; rfl) (by kernel_rfl) (by kernel_rfl) (by kernel_rfl) (fun _ _ _ h => h) (Or.inl ⟨by rfl, ?hrab13⟩) hHeld0 ?qrab13
                  case hrab13 => (intro w hSw; (try dsimp only at hSw); go_simp; (try simp [q1, q2, q3, q4]))
                  try simp only [Act.put, List.setIfInBounds_toArray, List.set_cons_zero, List.set_cons_succ]
                  refine wpAnyH_take (i := 13) (v := ?vrab14) (by simp only [List.getElem?_toArray, List.getElem?_cons_zero, List.getElem?_cons_succ]; rfl) (by kernel_rfl) (by kernel_rfl) (by kernel_rfl) (fun _ _ _ h => h) (Or.inl ⟨by rfl, ?hrab14⟩) hHeld0 ?qrab14
                  case hrab14 => (intro w hSw; (try dsimp only at hSw); go_simp <;> with_reducible rfl)
                  try simp only [Act.put, List.setIfInBounds_toArray, List.set_cons_zero, List.set_cons_succ]
                  refine wpAnyH_take (i := 14) (v := ?vrab15) (by simp only [List.getElem?_toArray, List.getElem?_cons_zero, List.getElem?_cons_succ]; rfl) (by kernel_rfl) (by kernel_rfl) (by kernel_rfl) (fun _ _ _ h => h) (Or.inl ⟨by rfl, ?hrab15⟩) hHeld0 ?qrab15
                  case hrab15 => (intro w hSw; (try dsimp only at hSw); go_simp <;> with_reducible rfl)
                  try simp only [Act.put, List.setIfInBounds_toArray, List.set_cons_zero, List.set_cons_succ]
                  refine wpAnyH_take (i := 15) (v := ?vrab16) (by simp only [List.getElem?_toArray, List.getElem?_cons_zero, List.getElem?_cons_succ]; rfl) (by kernel_rfl) (by kernel_rfl) (by kernel_rfl) (fun _ _ _ h => h) (Or.inl ⟨by rfl, ?hrab16⟩) hHeld0 ?qrab16
                  case hrab16 => (intro w hSw; (try dsimp only at hSw); go_simp <;> with_reducible rfl)
                  try simp only [Act.put, List.setIfInBounds_toArray, List.set_cons_zero, List.set_cons_succ]
                  refine wpAnyH_take (i := 16) (v := ?vrab17) (by simp only [List.getElem?_toArray, List.getElem?_cons_zero, List.getElem?_cons_succ]; rfl) (by kernel_rfl) (by kernel_rfl) (by kernel_rfl) (fun _ _ _ h => h) (Or.inl ⟨by rfl, ?hrab17⟩) hHeld0 ?qrab17
                  case hrab17 => (intro w hSw; (try dsimp only at hSw); go_simp <;> with_reducible rfl)
                  try simp only [Act.put, List.setIfInBounds_toArray, List.set_cons_zero, List.set_cons_succ]
                  refine wpAnyH_take (i := 17) (v := ?vrab18) (by simp only [List.getElem?_toArray, List.getElem?_cons_zero, List.getElem?_cons_succ]; rfl) (by kernel_rfl) (by kernel_rfl) (by kernel_rfl) (fun _ _ _ h => h) (Or.inl ⟨by rfl, ?hrab18⟩) hHeld0 ?qrab18
                  case hrab18 => (intro w hSw; (try dsimp only at hSw); go_simp <;> with_reducible rfl)
                  try simp only [Act.put, List.setIfInBounds_toArray, List.set_cons_zero, List.set_cons_succ]
                  refine wpAnyH_take (i := 18) (v := ?vrab19) (by simp only [List.getElem?_toArray, List.getElem?_cons_zero, List.getElem?_cons_succ]; rfl) (by kernel_rfl) (by kernel_rfl) (by kernel_rfl) (fun _ _ _ h => h) (Or.inl ⟨by rfl, ?hrab19⟩) hHeld0 ?qrab19
                  case hrab19 => (intro w hSw; (try dsimp only at hSw); go_simp <;> with_reducible rfl)
                  try simp only [Act.put, List.setIfInBounds_toArray, List.set_cons_zero, List.set_cons_succ]
                  refine wpAnyH_take (i := 19) (v := ?vrab20) (by simp only [List.getElem?_toArray, List.getElem?_cons_zero, List.getElem?_cons_succ]; rfl) (by kernel_rfl) (by kernel_rfl) (by kernel_rfl) (fun _ _ _ h => h) (Or.inl ⟨by rfl, ?hrab20⟩) hHeld0 ?qrab20
                  case hrab20 => (intro w hSw; (try dsimp only at hSw); go_simp <;> with_reducible rfl)
                  try simp only [Act.put, List.setIfInBounds_toArray, List.set_cons_zero, List.set_cons_succ]
                  refine wpAnyH_take (i := 20) (v := ?vrab21) (by simp only [List.getElem?_toArray, List.getElem?_cons_zero, List.getElem?_cons_succ]; rfl) (by kernel_rfl) (by kernel_rfl) (by kernel_rfl) (fun _ _ _ h => h) (Or.inl ⟨by rfl, ?hrab21⟩) hHeld0 ?qrab21
                  case hrab21 => (intro w hSw; (try dsimp only at hSw); go_simp <;> with_reducible rfl)
                  try simp only [Act.put, List.setIfInBounds_toArray, List.set_cons_zero, List.set_cons_succ]
                  refine wpAnyH_take (i := 21) (v := ?vrab22) (by simp only [List.getElem?_toArray, List.getElem?_cons_zero, List.getElem?_cons_succ]; rfl) (by kernel_rfl) (by kernel_rfl) (by kernel_rfl) (fun _ _ _ h => h) (Or.inl ⟨by rfl, ?hrab22⟩) hHeld0 ?qrab22
                  case hrab22 => (intro w hSw; (try dsimp only at hSw); go_simp <;> with_reducible rfl)
                  try simp only [Act.put, List.setIfInBounds_toArray, List.set_cons_zero, List.set_cons_succ]
                  refine wpAnyH_take (i := 22) (v := ?vrab23) (by simp only [List.getElem?_toArray, List.getElem?_cons_zero, List.getElem?_cons_succ]; rfl) (by kernel_rfl) (by kernel_rfl) (by kernel_rfl) (fun _ _ _ h => h) (Or.inl ⟨by rfl, ?hrab23⟩) hHeld0 ?qrab23
                  case hrab23 => (intro w hSw; (try dsimp only at hSw); go_simp <;> with_reducible rfl)
                  try simp only [Act.put, List.setIfInBounds_toArray, List.set_cons_zero, List.set_cons_succ]
                  refine wpAnyH_take (i := 23) (v := ?vrab24) (by simp only [List.getElem?_toArray, List.getElem?_cons_zero, List.getElem?_cons_succ]; rfl) (by kernel_rfl) (by kernel_rfl) (by kernel_rfl) (fun _ _ _ h => h) (Or.inl ⟨by rfl, ?hrab24⟩) hHeld0 ?qrab24
                  case hrab24 => (intro w hSw; (try dsimp only at hSw); go_simp <;> with_reducible rfl)
                  try simp only [Act.put, List.setIfInBounds_toArray, List.set_cons_zero, List.set_cons_succ]
                  refine wpAnyH_take (i := 24) (v := ?vrab25) (by simp only [List.getElem?_toArray, List.getElem?_cons_zero, List.getElem?_cons_succ]; rfl) (by kernel_rfl) (by kernel_rfl) (by kernel_rfl) (fun _ _ _ h => h) (Or.inl ⟨by rfl, ?hrab25⟩) hHeld0 ?qrab25
                  case hrab25 => (intro w hSw; (try dsimp only at hSw); go_simp <;> with_reducible rfl)
                  try simp only [Act.put, List.setIfInBounds_toArray, List.set_cons_zero, List.set_cons_succ]
                  refine wpAnyH_take (i := 25) (v := ?vrab26) (by simp only [List.getElem?_toArray, List.getElem?_cons_zero, List.getElem?_cons_succ]; rfl) (by kernel_rfl) (by kernel_rfl) (by kernel_rfl) (fun _ _ _ h => h) (Or.inl ⟨by rfl, ?hrab26⟩) hHeld0 ?qrab26
                  case hrab26 => (intro w hSw; (try dsimp only at hSw); go_simp <;> with_reducible rfl)
                  try simp only [Act.put, List.setIfInBounds_toArray, List.set_cons_zero, List.set_cons_succ]
                  refine wpAnyH_take (i := 26) (v := ?vrab27) (by simp only [List.getElem?_toArray, List.getElem?_cons_zero, List.getElem?_cons_succ]; rfl) (by kernel_rfl) (by kernel_rfl) (by kernel_rfl) (fun _ _ _ h => h) (Or.inl ⟨by rfl, ?hrab27⟩) hHeld0 ?qrab27
                  case hrab27 => (intro w hSw; (try dsimp only at hSw); go_simp <;> with_reducible rfl)
                  try simp only [Act.put, List.setIfInBounds_toArray, List.set_cons_zero, List.set_cons_succ]
                  refine wpAnyH_take (i := 27) (v := .bool false) (by simp only [List.getElem?_toArray, List.getElem?_cons_zero, List.getElem?_cons_succ]; rfl) (by kernel_rfl) (by kernel_rfl) (by kernel_rfl) (fun _ _ _ h => h) (Or.inl ⟨by rfl, ?hrab28⟩) hHeld0 ?qrab28
                  case hrab28 => (intro w hSw; (try dsimp only at hSw); go_simp; (try simp [q1, q2, q3, q4]))
                  try simp only [Act.put, List.setIfInBounds_toArray, List.set_cons_zero, List.set_cons_succ]
                  refine wpAnyH_take (i := 28) (v := ?vrab29) (by simp only [List.getElem?_toArray, List.getElem?_cons_zero, List.getElem?_cons_succ]; rfl) (by kernel_rfl) (by kernel_rfl) (by kernel_rfl) (fun _ _ _ h => h) (Or.inl ⟨by rfl, ?hrab29⟩) hHeld0 ?qrab29
                  case hrab29 => (intro w hSw; (try dsimp only at hSw); go_simp <;> with_reducible rfl)
                  try simp only [Act.put, List.setIfInBounds_toArray, List.set_cons_zero, List.set_cons_succ]
                  refine wpAnyH_take (i := 29) (v := ?vrab30) (by simp only [List.getElem?_toArray, List.getElem?_cons_zero, List.getElem?_cons_succ]; rfl) (by kernel_rfl) (by kernel_rfl) (by kernel_rfl) (fun _ _ _ h => h) (Or.inl ⟨by rfl, ?hrab30⟩) hHeld0 ?qrab30
                  case hrab30 => (intro w hSw; (try dsimp only at hSw); go_simp <;> with_reducible rfl)
                  try simp only [Act.put, List.setIfInBounds_toArray, List.set_cons_zero, List.set_cons_succ]
                  refine wpAnyH_take (i := 30) (v := ?vrab31) (by simp only [List.getElem?_toArray, List.getElem?_cons_zero, List.getElem?_cons_succ]; rfl) (by kernel_rfl) (by kernel_rfl) (by kernel_rfl) (fun _ _ _ h => h) (Or.inl ⟨by rfl, ?hrab31⟩) hHeld0 ?qrab31
                  case hrab31 => (intro w hSw; (try dsimp only at hSw); go_simp <;> with_reducible rfl)
                  try simp only [Act.put, List.setIfInBounds_toArray, List.set_cons_zero, List.set_cons_succ]
                  refine wpAnyH_take (i := 31) (v := ?vrab32) (by simp only [List.getElem?_toArray, List.getElem?_cons_zero, List.getElem?_cons_succ]; rfl) (by kernel_rfl) (by kernel_rfl) (by kernel_rfl) (fun _ _ _ h => h) (Or.inl ⟨by rfl, ?hrab32⟩) hHeld0 ?qrab32
                  case hrab32 => (intro w hSw; (try dsimp only at hSw); go_simp <;> with_reducible rfl)
                  try simp only [Act.put, List.setIfInBounds_toArray, List.set_cons_zero, List.set_cons_succ]
                  refine wpAnyH_take (i := 32) (v := ?vrab33) (by simp only [List.getElem?_toArray, List.getElem?_cons_zero, List.getElem?_cons_succ]; rfl) (by kernel_rfl) (by kernel_rfl) (by kernel_rfl) (fun _ _ _ h => h) (Or.inl ⟨by rfl, ?hrab33⟩) hHeld0 ?qrab33
                  case hrab33 => (intro w hSw; (try dsimp only at hSw); go_simp <;> with_reducible rfl)
                  try simp only [Act.put, List.setIfInBounds_toArray, List.set_cons_zero, List.set_cons_succ]
                  refine wpAnyH_take (i := 33) (v := ?vrab34) (by simp only [List.getElem?_toArray, List.getElem?_cons_zero, List.getElem?_cons_succ]; rfl) (by kernel_rfl) (by kernel_rfl) (by kernel_rfl) (fun _ _ _ h => h) (Or.inl ⟨by rfl, ?hrab34⟩) hHeld0 ?qrab34
                  case hrab34 => (intro w hSw; (try dsimp only at hSw); go_simp <;> with_reducible rfl)
                  try simp only [Act.put, List.setIfInBounds_toArray, List.set_cons_zero, List.set_cons_succ]
                  refine wpAnyH_take (i := 34) (v := ?vrab35) (by simp only [List.getElem?_toArray, List.getElem?_cons_zero, List.getElem?_cons_succ]; rfl) (by kernel_rfl) (by kernel_rfl) (by kernel_rfl) (fun _ _ _ h => h) (Or.inl ⟨by rfl, ?hrab35⟩) hHeld0 ?qrab35
                  case hrab35 => (intro w hSw; (try dsimp only at hSw); go_simp <;> with_reducible rfl)
                  try simp only [Act.put, List.setIfInBounds_toArray, List.set_cons_zero, List.set_cons_succ]
                  refine wpAnyH_take (i := 35) (v := ?vrab36) (by simp only [List.getElem?_toArray, List.getElem?_cons_zero, List.getElem?_cons_succ]; rfl) (by kernel_rfl) (by kernel_rfl) (by kernel_rfl) (fun _ _ _ h => h) (Or.inl ⟨by rfl, ?hrab36⟩) hHeld0 ?qrab36
                  case hrab36 => (intro w hSw; (try dsimp only at hSw); go_simp <;> with_reducible rfl)
                  try simp only [Act.put, List.setIfInBounds_toArray, List.set_cons_zero, List.set_cons_succ]
                  refine wpAnyH_take (i := 36) (v := .bool false) (by simp only [List.getElem?_toArray, List.getElem?_cons_zero, List.getElem?_cons_succ]; rfl) (by kernel_rfl) (by kernel_rfl) (by kernel_rfl) (fun _ _ _ h => h) (Or.inl ⟨by rfl, ?hrab37⟩) hHeld0 ?qrab37
                  case hrab37 => (intro w hSw; (try dsimp only at hSw); go_simp; (try simp [q1, q2, q3, q4]))
                  try simp only [Act.put, List.setIfInBounds_toArray, List.set_cons_zero, List.set_cons_succ]
                  refine wpAnyH_take (i := 37) (v := ?vrab38) (by simp only [List.getElem?_toArray, List.getElem?_cons_zero, List.getElem?_cons_succ]; rfl) (by kernel_rfl) (by kernel_rfl) (by kernel_rfl) (fun _ _ _ h => h) (Or.inl ⟨by rfl, ?hrab38⟩) hHeld0 ?qrab38
                  case hrab38 => (intro w hSw; (try dsimp only at hSw); go_simp <;> with_reducible rfl)
                  try simp only [Act.put, List.setIfInBounds_toArray, List.set_cons_zero, List.set_cons_succ]
                  refine wpAnyH_take (i := 38) (v := ?vrab39) (by simp only [List.getElem?_toArray, List.getElem?_cons_zero, List.getElem?_cons_succ]; rfl) (by kernel_rfl) (by kernel_rfl) (by kernel_rfl) (fun _ _ _ h => h) (Or.inl ⟨by rfl, ?hrab39⟩) hHeld0 ?qrab39
                  case hrab39 => (intro w hSw; (try dsimp only at hSw); go_simp <;> with_reducible rfl)
                  try simp only [Act.put, List.setIfInBounds_toArray, List.set_cons_zero, List.set_cons_succ]
                  refine wpAnyH_take (i := 39) (v := ?vrab40) (by simp only [List.getElem?_toArray, List.getElem?_cons_zero, List.getElem?_cons_succ]; rfl) (by kernel_rfl) (by kernel_rfl) (by kernel_rfl) (fun _ _ _ h => h) (Or.inl ⟨by rfl, ?hrab40⟩) hHeld0 ?qrab40
                  case hrab40 => (intro w hSw; (try dsimp only at hSw); go_simp <;> with_reducible rfl)
                  try simp only [Act.put, List.setIfInBounds_toArray, List.set_cons_zero, List.set_cons_succ]
                  refine wpAnyH_take (i := 40) (v := .bool true) (by simp only [List.getElem?_toArray, List.getElem?_cons_zero, List.getElem?_cons_succ]; rfl) (by kernel_rfl) (by kernel_rfl) (by kernel_rfl) (fun _ _ _ h => h) (Or.inl ⟨by rfl, ?hrab41⟩) hHeld0 ?qrab41
                  case hrab41 => (intro w hSw; (try dsimp only at hSw); go_simp; (try simp [q5]))
                  try simp only [Act.put, List.setIfInBounds_toArray, List.set_cons_zero, List.set_cons_succ]
                  refine wpAnyH_take (i := 41) (v := ?vrab42) (by simp only [List.getElem?_toArray, List.getElem?_cons_zero, List.getElem?_cons_succ]; rfl) (by kernel_rfl) (by kernel_rfl) (by kernel_rfl) (fun _ _ _ h => h) (Or.inl ⟨by rfl, ?hrab42⟩) hHeld0 ?qrab42
                  case hrab42 => (intro w hSw; (try dsimp only at hSw); go_simp <;> with_reducible rfl)
                  try simp only [Act.put, List.setIfInBounds_toArray, List.set_cons_zero, List.set_cons_succ]
                  refine wpAnyH_take (i := 42) (v := ?vrab43) (by simp only [List.getElem?_toArray, List.getElem?_cons_zero, List.getElem?_cons_succ]; rfl) (by kernel_rfl) (by kernel_rfl) (by kernel_rfl) (fun _ _ _ h => h) (Or.inl ⟨by rfl, ?hrab43⟩) hHeld0 ?qrab43
                  case hrab43 => (intro w hSw; (try dsimp only at hSw); go_simp <;> with_reducible rfl)
                  try simp only [Act.put, List.setIfInBounds_toArray, List.set_cons_zero, List.set_cons_succ]
                  refine wpAnyH_take (i := 43) (v := ?vrab44) (by simp only [List.getElem?_toArray, List.getElem?_cons_zero, List.getElem?_cons_succ]; rfl) (by kernel_rfl) (by kernel_rfl) (by kernel_rfl) (fun _ _ _ h => h) (Or.inl ⟨by rfl, ?hrab44⟩) hHeld0 ?qrab44
                  case hrab44 => (intro w hSw; (try dsimp only at hSw); go_simp <;> with_reducible rfl)
                  try simp only [Act.put, List.setIfInBounds_toArray, List.set_cons_zero, List.set_cons_succ]
                  refine wpAnyH_take (i := 44) (v := ?vrab45) (by simp only [List.getElem?_toArray, List.getElem?_cons_zero, List.getElem?_cons_succ]; rfl) (by kernel_rfl) (by kernel_rfl) (by kernel_rfl) (fun _ _ _ h => h) (Or.inl ⟨by rfl, ?hrab45⟩) hHeld0 ?qrab45
                  case hrab45 => (intro w hSw; (try dsimp only at hSw); go_simp <;> with_reducible rfl)
                  try simp only [Act.put, List.setIfInBounds_toArray, List.set_cons_zero, List.set_cons_succ]
                  refine wpAnyH_take (i := 45) (v := ?vrab46) (by simp only [List.getElem?_toArray, List.getElem?_cons_zero, List.getElem?_cons_succ]; rfl) (by kernel_rfl) (by kernel_rfl) (by kernel_rfl) (fun _ _ _ h => h) (Or.inl ⟨by rfl, ?hrab46⟩) hHeld0 ?qrab46
                  case hrab46 => (intro w hSw; (try dsimp only at hSw); go_simp <;> with_reducible rfl)
                  try simp only [Act.put, List.setIfInBounds_toArray, List.set_cons_zero, List.set_cons_succ]
                  refine wpAnyH_take (i := 46) (v := ?vrab47) (by simp only [List.getElem?_toArray, List.getElem?_cons_zero, List.getElem?_cons_succ]; rfl) (by kernel_rfl) (by kernel_rfl) (by kernel_rfl) (fun _ _ _ h => h) (Or.inl ⟨by rfl, ?hrab47⟩) hHeld0 ?qrab47
                  case hrab47 => (intro w hSw; (try dsimp only at hSw); go_simp <;> with_reducible rfl)
                  try simp only [Act.put, List.setIfInBounds_toArray, List.set_cons_zero, List.set_cons_succ]
                  refine wpAnyH_take (i := 47) (v := ?vrab48) (by simp only [List.getElem?_toArray, List.getElem?_cons_zero, List.getElem?_cons_succ]; rfl) (by kernel_rfl) (by kernel_rfl) (by kernel_rfl) (fun _ _ _ h => h) (Or.inl ⟨by rfl, ?hrab48⟩) hHeld0 ?qrab48
                  case hrab48 => (intro w hSw; (try dsimp only at hSw); go_simp <;> with_reducible rfl)
                  try simp only [Act.put, List.setIfInBounds_toArray, List.set_cons_zero, List.set_cons_succ]
                  refine wpAnyH_take (i := 48) (v := ?vrab49) (by simp only [List.getElem?_toArray, List.getElem?_cons_zero, List.getElem?_cons_succ]; rfl) (by kernel_rfl) (by kernel_rfl) (by kernel_rfl) (fun _ _ _ h => h) (Or.inl ⟨by rfl, ?hrab49⟩) hHeld0 ?qrab49
                  case hrab49 => (intro w hSw; (try dsimp only at hSw); go_simp <;> with_reducible rfl)
                  try simp only [Act.put, List.setIfInBounds_toArray, List.set_cons_zero, List.set_cons_succ]
                  refine wpAnyH_take (i := 49) (v := ?vrab50) (by simp only [List.getElem?_toArray, List.getElem?_cons_zero, List.getElem?_cons_succ]; rfl) (by kernel_rfl) (by kernel_rfl) (by kernel_rfl) (fun _ _ _ h => h) (Or.inl ⟨by rfl, ?hrab50⟩) hHeld0 ?qrab50
                  case hrab50 => (intro w hSw; (try dsimp only at hSw); go_simp <;> with_reducible rfl)
                  try simp only [Act.put, List.setIfInBounds_toArray, List.set_cons_zero, List.set_cons_succ]
                  refine wpAnyH_take (i := 50) (v := ?vrab51) (by simp only [List.getElem?_toArray, List.getElem?_cons_zero, List.getElem?_cons_succ]; rfl) (by kernel_rfl) (by kernel_rfl) (by kernel_rfl) (fun _ _ _ h => h) (Or.inl ⟨by rfl, ?hrab51⟩) hHeld0 ?qrab51
                  case hrab51 => (intro w hSw; (try dsimp only at hSw); go_simp <;> with_reducible rfl)
                  try simp only [Act.put, List.setIfInBounds_toArray, List.set_cons_zero, List.set_cons_succ]
                  refine wpAnyH_take (i := 51) (v := ?vrab52) (by simp only [List.getElem?_toArray, List.getElem?_cons_zero, List.getElem?_cons_succ]; rfl) (by kernel_rfl) (by kernel_rfl) (by kernel_rfl) (fun _ _ _ h => h) (Or.inl ⟨by rfl, ?hrab52⟩) hHeld0 ?qrab52
                  case hrab52 => (intro w hSw; (try dsimp only at hSw); go_simp <;> with_reducible rfl)
                  try simp only [Act.put, List.setIfInBounds_toArray, List.set_cons_zero, List.set_cons_succ]
                  refine wpAnyH_take (i := 52) (v := ?vrab53) (by simp only [List.getElem?_toArray, List.getElem?_cons_zero, List.getElem?_cons_succ]; rfl) (by kernel_rfl) (by kernel_rfl) (by kernel_rfl) (fun _ _ _ h => h) (Or.inl ⟨by rfl, ?hrab53⟩) hHeld0 ?qrab53
                  case hrab53 => (intro w hSw; (try dsimp only at hSw); go_simp <;> with_reducible rfl)
                  try simp only [Act.put, List.setIfInBounds_toArray, List.set_cons_zero, List.set_cons_succ]
                  refine wpAnyH_take (i := 53) (v := .bool false) (by simp only [List.getElem?_toArray, List.getElem?_cons_zero, List.getElem?_cons_succ]; rfl) (by kernel_rfl) (by kernel_rfl) (by kernel_rfl) (fun _ _ _ h => h) (Or.inl ⟨by rfl, ?hrab54⟩) hHeld0 ?qrab54
                  case hrab54 => (intro w hSw; (try dsimp only at hSw); go_simp; (try simp [q6]))
                  try simp only [Act.put, List.setIfInBounds_toArray, List.set_cons_zero, List.set_cons_succ]
                  refine wpAnyH_take (i := 54) (v := ?vrab55) (by simp only [List.getElem?_toArray, List.getElem?_cons_zero, List.getElem?_cons_succ]; rfl) (by kernel_rfl) (by kernel_rfl) (by kernel_rfl) (fun _ _ _ h => h) (Or.inl ⟨by rfl, ?hrab55⟩) hHeld0 ?qrab55
                  case hrab55 => (intro w hSw; (try dsimp only at hSw); go_simp <;> with_reducible rfl)
                  try simp only [Act.put, List.setIfInBounds_toArray, List.set_cons_zero, List.set_cons_succ]
                  refine wpAnyH_take (i := 55) (v := ?vrab56) (by simp only [List.getElem?_toArray, List.getElem?_cons_zero, List.getElem?_cons_succ]; rfl) (by kernel_rfl) (by kernel_rfl) (by kernel_rfl) (fun _ _ _ h => h) (Or.inl ⟨by rfl, ?hrab56⟩) hHeld0 ?qrab56
                  case hrab56 => (intro w hSw; (try dsimp only at hSw); go_simp <;> with_reducible rfl)
                  try simp only [Act.put, List.setIfInBounds_toArray, List.set_cons_zero, List.set_cons_succ]
                  refine wpAnyH_done (by kernel_rfl) ?_ _
                  refine NoPanic.normal ?_
                  go_wp2_with fail
                  refine wp_region_noPanic ?_
                  refine wp_region_held_drew (S := (fun w' => w'.cell? ea = some (.int .i64 zs) ∧ w'.cell? ⟨ea.block, ea.off + 1, none⟩ = some (.int .i64 zb))) (by kernel_rfl) ?rabzs0 (fun hHeld0 => ?rabzr0)
                  case rabzs0 => (try dsimp only) <;> exact ⟨v0, v1⟩
                  refine wpAnyH_take (i := 0) (v := ?vrabz1) (by simp only [List.getElem?_toArray, List.getElem?_cons_zero, List.getElem?_cons_succ]; rfl) (by kernel_rfl) (by kernel_rfl) (by kernel_rfl) (fun _ _ _ h => h) (Or.inl ⟨by rfl, ?hrabz1⟩) hHeld0 ?qrabz1
                  case hrabz1 => (intro w hSw; (try dsimp only at hSw); go_simp <;> with_reducible rfl)
                  try simp only [Act.put, List.setIfInBounds_toArray, List.set_cons_zero, List.set_cons_succ]
                  refine wpAnyH_take (i := 1) (v := ?vrabz2) (by simp only [List.getElem?_toArray, List.getElem?_cons_zero, List.getElem?_cons_succ]; rfl) (by kernel_rfl) (by kernel_rfl) (by kernel_rfl) (fun _ _ _ h => h) (Or.inl ⟨by rfl, ?hrabz2⟩) hHeld0 ?qrabz2
                  case hrabz2 => (intro w hSw; (try dsimp only at hSw); go_simp <;> with_reducible rfl)
                  try simp only [Act.put, List.setIfInBounds_toArray, List.set_cons_zero, List.set_cons_succ]
                  refine wpAnyH_take (i := 2) (v := ?vrabz3) (by simp only [List.getElem?_toArray, List.getElem?_cons_zero, List.getElem?_cons_succ]; rfl) (by kernel_rfl) (by kernel_rfl) (by kernel_rfl) (fun _ _ _ h => h) (Or.inl ⟨by rfl, ?hrabz3⟩) hHeld0 ?qrabz3
                  case hrabz3 => (intro w hSw; (try dsimp only at hSw); go_simp <;> with_reducible rfl)
                  try simp only [Act.put, List.setIfInBounds_toArray, List.set_cons_zero, List.set_cons_succ]
                  refine wpAnyH_take (i := 3) (v := ?vrabz4) (by simp only [List.getElem?_toArray, List.getElem?_cons_zero, List.getElem?_cons_succ]; rfl) (by kernel_rfl) (by kernel_rfl) (by kernel_rfl) (fun _ _ _ h => h) (Or.inl ⟨by rfl, ?hrabz4⟩) hHeld0 ?qrabz4
                  case hrabz4 => (intro w hSw; (try dsimp only at hSw); go_simp <;> with_reducible rfl)
                  try simp only [Act.put, List.setIfInBounds_toArray, List.set_cons_zero, List.set_cons_succ]
                  refine wpAnyH_take (i := 4) (v := ?vrabz5) (by simp only [List.getElem?_toArray, List.getElem?_cons_zero, List.getElem?_cons_succ]; rfl) (by kernel_rfl) (by kernel_rfl) (by kernel_rfl) (fun _ _ _ h => h) (Or.inl ⟨by rfl, ?hrabz5⟩) hHeld0 ?qrabz5
                  case hrabz5 => (intro w hSw; (try dsimp only at hSw); go_simp <;> with_reducible rfl)
                  try simp only [Act.put, List.setIfInBounds_toArray, List.set_cons_zero, List.set_cons_succ]
                  refine wpAnyH_take (i := 5) (v := ?vrabz6) (by simp only [List.getElem?_toArray, List.getElem?_cons_zero, List.getElem?_cons_succ]; rfl) (by kernel_rfl) (by kernel_rfl) (by kernel_rfl) (fun _ _ _ h => h) (Or.inl ⟨by rfl, ?hrabz6⟩) hHeld0 ?qrabz6
                  case hrabz6 => (intro w hSw; (try dsimp only at hSw); go_simp <;> with_reducible rfl)
                  try simp only [Act.put, List.setIfInBounds_toArray, List.set_cons_zero, List.set_cons_succ]
                  refine wpAnyH_take (i := 6) (v := ?vrabz7) (by simp only [List.getElem?_toArray, List.getElem?_cons_zero, List.getElem?_cons_succ]; rfl) (by kernel_rfl) (by kernel_rfl) (by kernel_rfl) (fun _ _ _ h => h) (Or.inl ⟨by rfl, ?hrabz7⟩) hHeld0 ?qrabz7
                  case hrabz7 => (intro w hSw; (try dsimp only at hSw); go_simp <;> with_reducible rfl)
                  try simp only [Act.put, List.setIfInBounds_toArray, List.set_cons_zero, List.set_cons_succ]
                  refine wpAnyH_take (i := 7) (v := ?vrabz8) (by simp only [List.getElem?_toArray, List.getElem?_cons_zero, List.getElem?_cons_succ]; rfl) (by kernel_rfl) (by kernel_rfl) (by kernel_rfl) (fun _ _ _ h => h) (Or.inl ⟨by rfl, ?hrabz8⟩) hHeld0 ?qrabz8
                  case hrabz8 => (intro w hSw; (try dsimp only at hSw); go_simp <;> with_reducible rfl)
                  try simp only [Act.put, List.setIfInBounds_toArray, List.set_cons_zero, List.set_cons_succ]
                  refine wpAnyH_take (i := 8) (v := ?vrabz9) (by simp only [List.getElem?_toArray, List.getElem?_cons_zero, List.getElem?_cons_succ]; rfl) (by kernel_rfl) (by kernel_rfl) (by kernel_rfl) (fun _ _ _ h => h) (Or.inl ⟨by rfl, ?hrabz9⟩) hHeld0 ?qrabz9
                  case hrabz9 => (intro w hSw; (try dsimp only at hSw); go_simp <;> with_reducible rfl)
                  try simp only [Act.put, List.setIfInBounds_toArray, List.set_cons_zero, List.set_cons_succ]
                  refine wpAnyH_take (i := 9) (v := ?vrabz10) (by simp only [List.getElem?_toArray, List.getElem?_cons_zero, List.getElem?_cons_succ]; rfl) (by kernel_rfl) (by kernel_rfl) (by kernel_rfl) (fun _ _ _ h => h) (Or.inl ⟨by rfl, ?hrabz10⟩) hHeld0 ?qrabz10
                  case hrabz10 => (intro w hSw; (try dsimp only at hSw); go_simp <;> with_reducible rfl)
                  try simp only [Act.put, List.setIfInBounds_toArray, List.set_cons_zero, List.set_cons_succ]
                  refine wpAnyH_take (i := 10) (v := ?vrabz11) (by simp only [List.getElem?_toArray, List.getElem?_cons_zero, List.getElem?_cons_succ]; rfl) (by kernel_rfl) (by kernel_rfl) (by kernel_rfl) (fun _ _ _ h => h) (Or.inl ⟨by rfl, ?hrabz11⟩) hHeld0 ?qrabz11
                  case hrabz11 => (intro w hSw; (try dsimp only at hSw); go_simp <;> with_reducible rfl)
                  try simp only [Act.put, List.setIfInBounds_toArray, List.set_cons_zero, List.set_cons_succ]
                  refine wpAnyH_ready (rs := [11]) (by kernel_rfl) (by simp) ?_
                  refine AllReadyH.cons (by simp only [List.getElem?_toArray, List.getElem?_cons_zero, List.getElem?_cons_succ]; rfl) (fun K hK => ?_) AllReadyH.nil
                  go_simp

                  refine hK.out _ _ ?srabz12 (fun hHeld1 => ?qrabz12)
                  case srabz12 => (try dsimp only) <;> exact ⟨HKS.out _ _ _ v0 hbl, HKS.out _ _ _ v1 hbl⟩
                  clear hK K
                  try simp only [Act.put, List.setIfInBounds_toArray, List.set_cons_zero, List.set_cons_succ]
                  refine wpAnyH_done (by kernel_rfl) ?_ _
                  refine NoPanic.normal ?_
                  go_wp2_with fail
                  exact ⟨⟨j + 1 + 1, _, by omega, by simp, Lib.hid (HX3.out.set s zb), HPUT, Lib.hid (HK3.out.trans ((((Keep.refl (fun b => b = X) wr).drew).drew.setCell ⟨X, s, none⟩ (.int .i64 zb) (.inl rfl))) (fun _ h => .inl h))⟩, by simp [intOf]; omega⟩
              · have hlti : ¬ (k : Int) < (hv.length : Int) := by omega
                go_wp2_with fail
                exact ⟨⟨p2, i + 1, F2, f2, h2, by omega, rfl, by simp, Lib.hid (HA5.out.keep HK3.out (fun j hj e => HF5.out (e ▸ hj))), HX3, HF5, HRI, Lib.hid (HB5.out.trans (HK3.out.to_below HB5.out.size (fun b hb => by have e : b = X := hb; rw [e]; exact HXB.out)))⟩, by simp [intOf]; omega⟩
          | false =>
            rw [hac] at z0
            go_wp2_with (first
              | (go_at_call 15; refine (votes_g HA4.out (AcG.slots HI4.out)).mono ?_
                 rintro r w5 ⟨v5, hv, rfl, hT5, hD5, hB5'⟩
                 obtain ⟨Av, cv, rfl, hrow5, hlo5⟩ := hT5.row2
                 have HROW := Lib.hid hrow5
                 have HLO := Lib.hid hlo5
                 have HD := Lib.hid hD5
                 have hvl : hv.length ≤ 64 := hT5.2.1
                 have HA5 := Lib.hid (HA4.out.below hB5')
                 have HX5 := Lib.hid (HX4.out.keep (Keep.of_below hB5' (fun _ => False)) (fun h => h))
                 have HB5 := Lib.hid (HB4.out.trans (hB5'.mono HB4.out.size))
                 have HXL := Lib.hid HX4.out.lt
                 clear hT5 hD5 hB5' hrow5 hlo5)
              | (go_at_call 14; refine (promised_any b p2 _ HC4.out).mono ?_; rintro r w5 ⟨rfl, rfl⟩)
              | (go_at_call 13; refine (prepare_r b p x.v.b x.v.s f h w0.heap.size F w3 HA3.out HI.out HB3.out.size HG3.out).mono ?_
                 rintro r w4 ⟨A4, n4, c4, m4, p2, rfl, hT4, hI4, hp2⟩
                 obtain ⟨F2, hA4, hF4, hK4⟩ := hT4
                 have HA4 := Lib.hid hA4
                 have HI4 := Lib.hid hI4
                 have HC4 := Lib.hid hA4.cell
                 have HX4 := Lib.hid (HX3.out.keep hK4 HF.out)
                 have HF5 := Lib.hid (show ¬ F2 X from fun hf => by
                   rcases hF4 X hf with h1 | h1
                   · exact HF.out h1
                   · have := HX3.out.lt; omega)
                 have HB4 := Lib.hid (HB3.out.trans (hK4.to_below HB3.out.size (fun k hk => (HA3.out.2.1 k hk).1)))
                 have hpp : ¬ p2 < p := by omega
                 clear hA4 hI4 hF4 hK4 hp2)
              | (go_at_call 11
                 generalize hW : wr.alloc _ = W
                 have hB : Below wr.heap.size wr W := by rw [← hW]; exact (Below.refl _ wr).alloc (Nat.le_refl _) _
                 have hb7 : W.heap[wr.heap.size]? = some (.cells #[.bool false, .int .i64 x.v.b, .int .i64 x.v.s, .int .i64 x.v.kd, .int .i64 x.v.c, .int .i64 x.v.q, .string x.v.data, .slice x.v.A x.v.mem.length x.v.cap, .int .i64 x.v.dst] 31 (0, 0)) := by rw [← hW]; exact heap_alloc_new wr _
                 obtain ⟨g7, hg7⟩ : ∃ g7, g7 = wr.heap.size := ⟨_, rfl⟩
                 rw [← hg7] at hb7
                 rw [← hg7]
                 refine (HFEW.out W).mono ?_
                 rintro r w3 ⟨rfl, hB3⟩
                 have hb73 := (hB3.block g7 (blk_lt hb7)).trans hb7
                 have q0 := blk_cell hb73 0
                 have q1 := blk_cell hb73 1
                 have q2 := blk_cell hb73 2
                 have q3 := blk_cell hb73 3
                 have q4 := blk_cell hb73 4
                 have q5 := blk_cell hb73 5
                 have q6 := blk_cell hb73 6
                 have q7 := blk_cell hb73 7
                 have q8 := blk_cell hb73 8
                 simp only [List.getElem?_toArray, List.getElem?_cons_zero, List.getElem?_cons_succ] at q0 q1 q2 q3 q4 q5 q6 q7 q8
                 have hBB := hB.trans (hB3.mono hB.size)
                 have HA3 := Lib.hid (HA.out.below hBB)
                 have HX3 := Lib.hid (HX.out.keep (Keep.of_below hBB (fun _ => False)) (fun h => h))
                 have HB3 := Lib.hid (HBR.out.trans (hBB.mono HBR.out.size))
                 have HR3 := Lib.hid (HRx.out.below hBB)
                 have HG3 := Lib.hid (HGR.out.below hBB)
                 clear hb7 hb73 hB hB3 hBB hW hg7))
            go_loopw [9] (fun kv wx => ∃ (k : Nat) (h2 : Nat → Int), k ≤ hv.length ∧ kv = .int .i64 (k : Int) ∧ RowKit.Hid (ArrI 26 65 wx X h2) ∧ RowKit.Hid (RInv f h2 p2) ∧ RowKit.Hid (Keep (fun b => b = X) w5 wx)) (fun kv _ => hv.length - (intOf kv).toNat)
            case atStart => exact ⟨0, h, Nat.zero_le _, rfl, HX5, HI4, Lib.hid (Keep.refl _ _)⟩
            case round =>
              obtain ⟨k, h2, hkl, rfl, HX3, HRI, HK3⟩ := hrel
              by_cases hlt : k < hv.length
              · obtain ⟨z, hz⟩ : ∃ z, hv[k]? = some z := ⟨_, List.getElem?_eq_getElem hlt⟩
                obtain ⟨zf, hzf, hze⟩ := (HD.out.2 z.vo).1 (List.mem_map.2 ⟨z, List.mem_of_getElem? hz, rfl⟩)
                have e1 : z.s = zf.s := congrArg Vo.s hze
                have e2 : z.b = zf.b := congrArg Vo.b hze
                have hzf' : f z.s = some zf := hzf
                obtain ⟨g1, g2, g3, g4, g5⟩ := HRI.out.2.1 _ _ hzf'
                obtain ⟨ad, rfl, hva⟩ := vh_at HROW.out hz
                have hlo : ¬ ad.block = X := fun e => by have := HLO.out ad rfl; have := HXL.out; omega
                obtain ⟨s, hs⟩ : ∃ s : Nat, z.s = (s : Int) := ⟨z.s.toNat, by omega⟩
                have HPUT := Lib.hid (HRI.out.put (s := s) (z := zf) (by rw [← hs]; exact hzf'))
                have hs64 : s < 65 := by omega
                obtain ⟨y1, y2⟩ := HX3.out.get (j := s) hs64
                obtain ⟨hq, hhq⟩ : ∃ hq, hq = h2 s := ⟨_, rfl⟩
                have q3 : ¬ z.b < hq := by rw [hs, Int.toNat_natCast] at g5; rw [hhq]; omega
                have q4 : ¬ p2 < z.b := by omega
                have q1 : ¬ z.s < 1 := by omega
                have q2 : ¬ 64 < z.s := by omega
                have q0 : 0 ≤ z.s := by omega
                have q7 : z.s < 65 := by omega
                have hts : z.s.toNat = s := by omega
                rw [← hhq] at y1
                rw [← e2] at HPUT
                obtain ⟨v0, v1, _, _, _, _, _, _⟩ := VAt.keep2 hva HK3.out hlo
                have HKS := Lib.hid (fun (a : Addr) (u : Value) (w' : World) (e : w'.cell? a = some u) (hb : ¬ a.block = X) => ((Keep.refl (fun b => b = X) w').setCell ⟨X, s, none⟩ (.int .i64 z.b) (.inl rfl)).cell e hb)
                cases k with
                | zero =>
                  have hlti : (0 : Int) < (hv.length : Int) := by omega
                  have hea2 : ad.add 0 = ad := rfl
                  rw [show ad.add (0 * 8) = ad from rfl] at v0 v1
                  obtain ⟨ea, hea⟩ : ∃ ea, ea = ad := ⟨_, rfl⟩
                  have hbl : ¬ ea.block = X := by rw [hea]; exact hlo
                  subst hea
                  obtain ⟨zs, hzs⟩ : ∃ zs, zs = z.s := ⟨_, rfl⟩
                  obtain ⟨zb, hzb⟩ : ∃ zb, zb = z.b := ⟨_, rfl⟩
                  rw [← hzs] at q0 q1 q2 q7 hts v0
                  rw [← hzb] at q3 q4 v1 HPUT HKS
                  clear hzs hzb hz hzf hze e1 e2 hzf' g1 g2 g3 g4 g5 hva hs hhq
                  rw [show ((0 : Nat) : Int) = 0 from rfl]
                  go_wp2_with fail
                  refine wp_region_noPanic ?_
                  refine wp_region_held_drew (S := (fun w' => w'.cell? ea = some (.int .i64 zs) ∧ w'.cell? ⟨ea.block, ea.off + 1, none⟩ = some (.int .i64 zb) ∧ w'.cell? ⟨X, s, none⟩ = some (.int .i64 hq))) (by kernel_rfl) ?rbas0 (fun hHeld0 => ?rbar0)
                  case rbas0 => (try dsimp only) <;> exact ⟨v0, v1, y1⟩
                  refine wpAnyH_take (i := 0) (v := ?vrba1) (by simp only [List.getElem?_toArray, List.getElem?_cons_zero, List.getElem?_cons_succ]; rfl) (by kernel_rfl) (by kernel_rfl) (by kernel_rfl) (fun _ _ _ h => h) (Or.inl ⟨by rfl, ?hrba1⟩) hHeld0 ?qrba1
                  case hrba1 => (intro w hSw; (try dsimp only at hSw); go_simp <;> with_reducible rfl)
                  try simp only [Act.put, List.setIfInBounds_toArray, List.set_cons_zero, List.set_cons_succ]
                  refine wpAnyH_take (i := 1) (v := ?vrba2) (by simp only [List.getElem?_toArray, List.getElem?_cons_zero, List.getElem?_cons_succ]; rfl) (by kernel_rfl) (by kernel_rfl) (by kernel_rfl) (fun _ _ _ h => h) (Or.inl ⟨by rfl, ?hrba2⟩) hHeld0 ?qrba2
                  case hrba2 => (intro w hSw; (try dsimp only at hSw); go_simp <;> with_reducible rfl)
                  try simp only [Act.put, List.setIfInBounds_toArray, List.set_cons_zero, List.set_cons_succ]
                  refine wpAnyH_take (i := 2) (v := ?vrba3) (by simp only [List.getElem?_toArray, List.getElem?_cons_zero, List.getElem?_cons_succ]; rfl) (by kernel_rfl) (by kernel_rfl) (by kernel_rfl) (fun _ _ _ h => h) (Or.inl ⟨by rfl, ?hrba3⟩) hHeld0 ?qrba3
                  case hrba3 => (intro w hSw; (try dsimp only at hSw); go_simp <;> with_reducible rfl)
                  try simp only [Act.put, List.setIfInBounds_toArray, List.set_cons_zero, List.set_cons_succ]
                  refine wpAnyH_take (i := 3) (v := ?vrba4) (by simp only [List.getElem?_toArray, List.getElem?_cons_zero, List.getElem?_cons_succ]; rfl) (by kernel_rfl) (by kernel_rfl) (by kernel_rfl) (fun _ _ _ h => h) (Or.inl ⟨by rfl, ?hrba4⟩) hHeld0 ?qrba4
                  case hrba4 => (intro w hSw; (try dsimp only at hSw); go_simp <;> with_reducible rfl)
                  try simp only [Act.put, List.setIfInBounds_toArray, List.set_cons_zero, List.set_cons_succ]
                  refine wpAnyH_take (i := 4) (v := ?vrba5) (by simp only [List.getElem?_toArray, List.getElem?_cons_zero, List.getElem?_cons_succ]; rfl) (by kernel_rfl) (by kernel_rfl) (by kernel_rfl) (fun _ _ _ h => h) (Or.inl ⟨by rfl, ?hrba5⟩) hHeld0 ?qrba5
                  case hrba5 => (intro w hSw; (try dsimp only at hSw); go_simp <;> with_reducible rfl)
                  try simp only [Act.put, List.setIfInBounds_toArray, List.set_cons_zero, List.set_cons_succ]
                  refine wpAnyH_take (i := 5) (v := .bool false) (by simp only [List.getElem?_toArray, List.getElem?_cons_zero, List.getElem?_cons_succ]; rfl) (by kernel_rfl) (by kernel_rfl) (by kernel_rfl) (fun _ _ _ h => h) (Or.inl ⟨by rfl, ?hrba6⟩) hHeld0 ?qrba6
                  case hrba6 => (intro w hSw; (try dsimp only at hSw); go_simp; (try simp [q1, q2, q3, q4]))
                  try simp only [Act.put, List.setIfInBounds_toArray, List.set_cons_zero, List.set_cons_succ]
                  refine wpAnyH_take (i := 6) (v := ?vrba7) (by simp only [List.getElem?_toArray, List.getElem?_cons_zero, List.getElem?_cons_succ]; rfl) (by kernel_rfl) (by kernel_rfl) (by kernel_rfl) (fun _ _ _ h => h) (Or.inl ⟨by rfl, ?hrba7⟩) hHeld0 ?qrba7
                  case hrba7 => (intro w hSw; (try dsimp only at hSw); go_simp <;> with_reducible rfl)
                  try simp only [Act.put, List.setIfInBounds_toArray, List.set_cons_zero, List.set_cons_succ]
                  refine wpAnyH_take (i := 7) (v := ?vrba8) (by simp only [List.getElem?_toArray, List.getElem?_cons_zero, List.getElem?_cons_succ]; rfl) (by kernel_rfl) (by kernel_rfl) (by kernel_rfl) (fun _ _ _ h => h) (Or.inl ⟨by rfl, ?hrba8⟩) hHeld0 ?qrba8
                  case hrba8 => (intro w hSw; (try dsimp only at hSw); go_simp <;> with_reducible rfl)
                  try simp only [Act.put, List.setIfInBounds_toArray, List.set_cons_zero, List.set_cons_succ]
                  refine wpAnyH_take (i := 8) (v := ?vrba9) (by simp only [List.getElem?_toArray, List.getElem?_cons_zero, List.getElem?_cons_succ]; rfl) (by kernel_rfl) (by kernel_rfl) (by kernel_rfl) (fun _ _ _ h => h) (Or.inl ⟨by rfl, ?hrba9⟩) hHeld0 ?qrba9
                  case hrba9 => (intro w hSw; (try dsimp only at hSw); go_simp <;> with_reducible rfl)
                  try simp only [Act.put, List.setIfInBounds_toArray, List.set_cons_zero, List.set_cons_succ]
                  refine wpAnyH_take (i := 9) (v := ?vrba10) (by simp only [List.getElem?_toArray, List.getElem?_cons_zero, List.getElem?_cons_succ]; rfl) (by kernel_rfl) (by kernel_rfl) (by kernel_rfl) (fun _ _ _ h => h) (Or.inl ⟨by rfl, ?hrba10⟩) hHeld0 ?qrba10
                  case hrba10 => (intro w hSw; (try dsimp only at hSw); go_simp <;> with_reducible rfl)
                  try simp only [Act.put, List.setIfInBounds_toArray, List.set_cons_zero, List.set_cons_succ]
                  refine wpAnyH_take (i := 10) (v := ?vrba11) (by simp only [List.getElem?_toArray, List.getElem?_cons_zero, List.getElem?_cons_succ]; rfl) (by kernel_rfl) (by kernel_rfl) (by kernel_rfl) (fun _ _ _ h => h) (Or.inl ⟨by rfl, ?hrba11⟩) hHeld0 ?qrba11
                  case hrba11 => (intro w hSw; (try dsimp only at hSw); go_simp <;> with_reducible rfl)
                  try simp only [Act.put, List.setIfInBounds_toArray, List.set_cons_zero, List.set_cons_succ]
                  refine wpAnyH_take (i := 11) (v := ?vrba12) (by simp only [List.getElem?_toArray, List.getElem?_cons_zero, List.getElem?_cons_succ]; rfl) (by kernel_rfl) (by kernel_rfl) (by kernel_rfl) (fun _ _ _ h => h) (Or.inl ⟨by rfl, ?hrba12⟩) hHeld0 ?qrba12
                  case hrba12 => (intro w hSw; (try dsimp only at hSw); go_simp <;> with_reducible rfl)
                  try simp only [Act.put, List.setIfInBounds_toArray, List.set_cons_zero, List.set_cons_succ]
                  refine wpAnyH_take (i := 12) (v := .bool false) (by simp only [List.getElem?_toArray, List.getElem?_cons_zero, List.getElem?_cons_succ]; rfl) (by kernel_rfl) (by kernel_rfl) (by kernel_rfl) (fun _ _ _ h => h) (Or.inl ⟨by rfl, ?hrba13⟩) hHeld0 ?qrba13
                  case hrba13 => (intro w hSw; (try dsimp only at hSw); go_simp; (try simp [q1, q2, q3, q4]))
                  try simp only [Act.put, List.setIfInBounds_toArray, List.set_cons_zero, List.set_cons_succ]
                  refine wpAnyH_take (i := 13) (v := ?vrba14) (by simp only [List.getElem?_toArray, List.getElem?_cons_zero, List.getElem?_cons_succ]; rfl) (by kernel_rfl) (by kernel_rfl) (by kernel_rfl) (fun _ _ _ h => h) (Or.inl ⟨by rfl, ?hrba14⟩) hHeld0 ?qrba14
                  case hrba14 => (intro w hSw; (try dsimp only at hSw); go_simp <;> with_reducible rfl)
                  try simp only [Act.put, List.setIfInBounds_toArray, List.set_cons_zero, List.set_cons_succ]
                  refine wpAnyH_take (i := 14) (v := ?vrba15) (by simp only [List.getElem?_toArray, List.getElem?_cons_zero, List.getElem?_cons_succ]; rfl) (by kernel_rfl) (by kernel_rfl) (by kernel_rfl) (fun _ _ _ h => h) (Or.inl ⟨by rfl, ?hrba15⟩) hHeld0 ?qrba15
                  case hrba15 => (intro w hSw; (try dsimp only at hSw); go_simp <;> with_reducible rfl)
                  try simp only [Act.put, List.setIfInBounds_toArray, List.set_cons_zero, List.set_cons_succ]
                  refine wpAnyH_take (i := 15) (v := ?vrba16) (by simp only [List.getElem?_toArray, List.getElem?_cons_zero, List.getElem?_cons_succ]; rfl) (by kernel_rfl) (by kernel_rfl) (by kernel_rfl) (fun _ _ _ h => h) (Or.inl ⟨by rfl, ?hrba16⟩) hHeld0 ?qrba16
                  case hrba16 => (intro w hSw; (try dsimp only at hSw); go_simp <;> with_reducible rfl)
                  try simp only [Act.put, List.setIfInBounds_toArray, List.set_cons_zero, List.set_cons_succ]
                  refine wpAnyH_take (i := 16) (v := ?vrba17) (by simp only [List.getElem?_toArray, List.getElem?_cons_zero, List.getElem?_cons_succ]; rfl) (by kernel_rfl) (by kernel_rfl) (by kernel_rfl) (fun _ _ _ h => h) (Or.inl ⟨by rfl, ?hrba17⟩) hHeld0 ?qrba17
                  case hrba17 => (intro w hSw; (try dsimp only at hSw); go_simp <;> with_reducible rfl)
                  try simp only [Act.put, List.setIfInBounds_toArray, List.set_cons_zero, List.set_cons_succ]
                  refine wpAnyH_take (i := 17) (v := ?vrba18) (by simp only [List.getElem?_toArray, List.getElem?_cons_zero, List.getElem?_cons_succ]; rfl) (by kernel_rfl) (by kernel_rfl) (by kernel_rfl) (fun _ _ _ h => h) (Or.inl ⟨by rfl, ?hrba18⟩) hHeld0 ?qrba18
                  case hrba18 => (intro w hSw; (try dsimp only at hSw); go_simp <;> with_reducible rfl)
                  try simp only [Act.put, List.setIfInBounds_toArray, List.set_cons_zero, List.set_cons_succ]
                  refine wpAnyH_take (i := 18) (v := ?vrba19) (by simp only [List.getElem?_toArray, List.getElem?_cons_zero, List.getElem?_cons_succ]; rfl) (by kernel_rfl) (by kernel_rfl) (by kernel_rfl) (fun _ _ _ h => h) (Or.inl ⟨by rfl, ?hrba19⟩) hHeld0 ?qrba19
                  case hrba19 => (intro w hSw; (try dsimp only at hSw); go_simp <;> with_reducible rfl)
                  try simp only [Act.put, List.setIfInBounds_toArray, List.set_cons_zero, List.set_cons_succ]
                  refine wpAnyH_take (i := 19) (v := ?vrba20) (by simp only [List.getElem?_toArray, List.getElem?_cons_zero, List.getElem?_cons_succ]; rfl) (by kernel_rfl) (by kernel_rfl) (by kernel_rfl) (fun _ _ _ h => h) (Or.inl ⟨by rfl, ?hrba20⟩) hHeld0 ?qrba20
                  case hrba20 => (intro w hSw; (try dsimp only at hSw); go_simp <;> with_reducible rfl)
                  try simp only [Act.put, List.setIfInBounds_toArray, List.set_cons_zero, List.set_cons_succ]
                  refine wpAnyH_take (i := 20) (v := ?vrba21) (by simp only [List.getElem?_toArray, List.getElem?_cons_zero, List.getElem?_cons_succ]; rfl) (by kernel_rfl) (by kernel_rfl) (by kernel_rfl) (fun _ _ _ h => h) (Or.inl ⟨by rfl, ?hrba21⟩) hHeld0 ?qrba21
                  case hrba21 => (intro w hSw; (try dsimp only at hSw); go_simp <;> with_reducible rfl)
                  try simp only [Act.put, List.setIfInBounds_toArray, List.set_cons_zero, List.set_cons_succ]
                  refine wpAnyH_take (i := 21) (v := ?vrba22) (by simp only [List.getElem?_toArray, List.getElem?_cons_zero, List.getElem?_cons_succ]; rfl) (by kernel_rfl) (by kernel_rfl) (by kernel_rfl) (fun _ _ _ h => h) (Or.inl ⟨by rfl, ?hrba22⟩) hHeld0 ?qrba22
                  case hrba22 => (intro w hSw; (try dsimp only at hSw); go_simp <;> with_reducible rfl)
                  try simp only [Act.put, List.setIfInBounds_toArray, List.set_cons_zero, List.set_cons_succ]
                  refine wpAnyH_take (i := 22) (v := ?vrba23) (by simp only [List.getElem?_toArray, List.getElem?_cons_zero, List.getElem?_cons_succ]; rfl) (by kernel_rfl) (by kernel_rfl) (by kernel_rfl) (fun _ _ _ h => h) (Or.inl ⟨by rfl, ?hrba23⟩) hHeld0 ?qrba23
                  case hrba23 => (intro w hSw; (try dsimp only at hSw); go_simp <;> with_reducible rfl)
                  try simp only [Act.put, List.setIfInBounds_toArray, List.set_cons_zero, List.set_cons_succ]
                  refine wpAnyH_take (i := 23) (v := ?vrba24) (by simp only [List.getElem?_toArray, List.getElem?_cons_zero, List.getElem?_cons_succ]; rfl) (by kernel_rfl) (by kernel_rfl) (by kernel_rfl) (fun _ _ _ h => h) (Or.inl ⟨by rfl, ?hrba24⟩) hHeld0 ?qrba24
                  case hrba24 => (intro w hSw; (try dsimp only at hSw); go_simp <;> with_reducible rfl)
                  try simp only [Act.put, List.setIfInBounds_toArray, List.set_cons_zero, List.set_cons_succ]
                  refine wpAnyH_take (i := 24) (v := ?vrba25) (by simp only [List.getElem?_toArray, List.getElem?_cons_zero, List.getElem?_cons_succ]; rfl) (by kernel_rfl) (by kernel_rfl) (by kernel_rfl) (fun _ _ _ h => h) (Or.inl ⟨by rfl, ?hrba25⟩) hHeld0 ?qrba25
                  case hrba25 => (intro w hSw; (try dsimp only at hSw); go_simp <;> with_reducible rfl)
                  try simp only [Act.put, List.setIfInBounds_toArray, List.set_cons_zero, List.set_cons_succ]
                  refine wpAnyH_take (i := 25) (v := ?vrba26) (by simp only [List.getElem?_toArray, List.getElem?_cons_zero, List.getElem?_cons_succ]; rfl) (by kernel_rfl) (by kernel_rfl) (by kernel_rfl) (fun _ _ _ h => h) (Or.inl ⟨by rfl, ?hrba26⟩) hHeld0 ?qrba26
                  case hrba26 => (intro w hSw; (try dsimp only at hSw); go_simp <;> with_reducible rfl)
                  try simp only [Act.put, List.setIfInBounds_toArray, List.set_cons_zero, List.set_cons_succ]
                  refine wpAnyH_take (i := 26) (v := ?vrba27) (by simp only [List.getElem?_toArray, List.getElem?_cons_zero, List.getElem?_cons_succ]; rfl) (by kernel_rfl) (by kernel_rfl) (by kernel_rfl) (fun _ _ _ h => h) (Or.inl ⟨by rfl, ?hrba27⟩) hHeld0 ?qrba27
                  case hrba27 => (intro w hSw; (try dsimp only at hSw); go_simp <;> with_reducible rfl)
                  try simp only [Act.put, List.setIfInBounds_toArray, List.set_cons_zero, List.set_cons_succ]
                  refine wpAnyH_take (i := 27) (v := .bool false) (by simp only [List.getElem?_toArray, List.getElem?_cons_zero, List.getElem?_cons_succ]; rfl) (by kernel_rfl) (by kernel_rfl) (by kernel_rfl) (fun _ _ _ h => h) (Or.inl ⟨by rfl, ?hrba28⟩) hHeld0 ?qrba28
                  case hrba28 => (intro w hSw; (try dsimp only at hSw); go_simp; (try simp [q1, q2, q3, q4]))
                  try simp only [Act.put, List.setIfInBounds_toArray, List.set_cons_zero, List.set_cons_succ]
                  refine wpAnyH_take (i := 28) (v := ?vrba29) (by simp only [List.getElem?_toArray, List.getElem?_cons_zero, List.getElem?_cons_succ]; rfl) (by kernel_rfl) (by kernel_rfl) (by kernel_rfl) (fun _ _ _ h => h) (Or.inl ⟨by rfl, ?hrba29⟩) hHeld0 ?qrba29
                  case hrba29 => (intro w hSw; (try dsimp only at hSw); go_simp <;> with_reducible rfl)
                  try simp only [Act.put, List.setIfInBounds_toArray, List.set_cons_zero, List.set_cons_succ]
                  refine wpAnyH_take (i := 29) (v := ?vrba30) (by simp only [List.getElem?_toArray, List.getElem?_cons_zero, List.getElem?_cons_succ]; rfl) (by kernel_rfl) (by kernel_rfl) (by kernel_rfl) (fun _ _ _ h => h) (Or.inl ⟨by rfl, ?hrba30⟩) hHeld0 ?qrba30
                  case hrba30 => (intro w hSw; (try dsimp only at hSw); go_simp <;> with_reducible rfl)
                  try simp only [Act.put, List.setIfInBounds_toArray, List.set_cons_zero, List.set_cons_succ]
                  refine wpAnyH_take (i := 30) (v := ?vrba31) (by simp only [List.getElem?_toArray, List.getElem?_cons_zero, List.getElem?_cons_succ]; rfl) (by kernel_rfl) (by kernel_rfl) (by kernel_rfl) (fun _ _ _ h => h) (Or.inl ⟨by rfl, ?hrba31⟩) hHeld0 ?qrba31
                  case hrba31 => (intro w hSw; (try dsimp only at hSw); go_simp <;> with_reducible rfl)
                  try simp only [Act.put, List.setIfInBounds_toArray, List.set_cons_zero, List.set_cons_succ]
                  refine wpAnyH_take (i := 31) (v := ?vrba32) (by simp only [List.getElem?_toArray, List.getElem?_cons_zero, List.getElem?_cons_succ]; rfl) (by kernel_rfl) (by kernel_rfl) (by kernel_rfl) (fun _ _ _ h => h) (Or.inl ⟨by rfl, ?hrba32⟩) hHeld0 ?qrba32
                  case hrba32 => (intro w hSw; (try dsimp only at hSw); go_simp <;> with_reducible rfl)
                  try simp only [Act.put, List.setIfInBounds_toArray, List.set_cons_zero, List.set_cons_succ]
                  refine wpAnyH_take (i := 32) (v := ?vrba33) (by simp only [List.getElem?_toArray, List.getElem?_cons_zero, List.getElem?_cons_succ]; rfl) (by kernel_rfl) (by kernel_rfl) (by kernel_rfl) (fun _ _ _ h => h) (Or.inl ⟨by rfl, ?hrba33⟩) hHeld0 ?qrba33
                  case hrba33 => (intro w hSw; (try dsimp only at hSw); go_simp <;> with_reducible rfl)
                  try simp only [Act.put, List.setIfInBounds_toArray, List.set_cons_zero, List.set_cons_succ]
                  refine wpAnyH_take (i := 33) (v := ?vrba34) (by simp only [List.getElem?_toArray, List.getElem?_cons_zero, List.getElem?_cons_succ]; rfl) (by kernel_rfl) (by kernel_rfl) (by kernel_rfl) (fun _ _ _ h => h) (Or.inl ⟨by rfl, ?hrba34⟩) hHeld0 ?qrba34
                  case hrba34 => (intro w hSw; (try dsimp only at hSw); go_simp <;> with_reducible rfl)
                  try simp only [Act.put, List.setIfInBounds_toArray, List.set_cons_zero, List.set_cons_succ]
                  refine wpAnyH_take (i := 34) (v := ?vrba35) (by simp only [List.getElem?_toArray, List.getElem?_cons_zero, List.getElem?_cons_succ]; rfl) (by kernel_rfl) (by kernel_rfl) (by kernel_rfl) (fun _ _ _ h => h) (Or.inl ⟨by rfl, ?hrba35⟩) hHeld0 ?qrba35
                  case hrba35 => (intro w hSw; (try dsimp only at hSw); go_simp <;> with_reducible rfl)
                  try simp only [Act.put, List.setIfInBounds_toArray, List.set_cons_zero, List.set_cons_succ]
                  refine wpAnyH_take (i := 35) (v := ?vrba36) (by simp only [List.getElem?_toArray, List.getElem?_cons_zero, List.getElem?_cons_succ]; rfl) (by kernel_rfl) (by kernel_rfl) (by kernel_rfl) (fun _ _ _ h => h) (Or.inl ⟨by rfl, ?hrba36⟩) hHeld0 ?qrba36
                  case hrba36 => (intro w hSw; (try dsimp only at hSw); go_simp <;> with_reducible rfl)
                  try simp only [Act.put, List.setIfInBounds_toArray, List.set_cons_zero, List.set_cons_succ]
                  refine wpAnyH_take (i := 36) (v := .bool false) (by simp only [List.getElem?_toArray, List.getElem?_cons_zero, List.getElem?_cons_succ]; rfl) (by kernel_rfl) (by kernel_rfl) (by kernel_rfl) (fun _ _ _ h => h) (Or.inl ⟨by rfl, ?hrba37⟩) hHeld0 ?qrba37
                  case hrba37 => (intro w hSw; (try dsimp only at hSw); go_simp; (try simp [q1, q2, q3, q4]))
                  try simp only [Act.put, List.setIfInBounds_toArray, List.set_cons_zero, List.set_cons_succ]
                  refine wpAnyH_take (i := 37) (v := ?vrba38) (by simp only [List.getElem?_toArray, List.getElem?_cons_zero, List.getElem?_cons_succ]; rfl) (by kernel_rfl) (by kernel_rfl) (by kernel_rfl) (fun _ _ _ h => h) (Or.inl ⟨by rfl, ?hrba38⟩) hHeld0 ?qrba38
                  case hrba38 => (intro w hSw; (try dsimp only at hSw); go_simp <;> with_reducible rfl)
                  try simp only [Act.put, List.setIfInBounds_toArray, List.set_cons_zero, List.set_cons_succ]
                  refine wpAnyH_take (i := 38) (v := ?vrba39) (by simp only [List.getElem?_toArray, List.getElem?_cons_zero, List.getElem?_cons_succ]; rfl) (by kernel_rfl) (by kernel_rfl) (by kernel_rfl) (fun _ _ _ h => h) (Or.inl ⟨by rfl, ?hrba39⟩) hHeld0 ?qrba39
                  case hrba39 => (intro w hSw; (try dsimp only at hSw); go_simp <;> with_reducible rfl)
                  try simp only [Act.put, List.setIfInBounds_toArray, List.set_cons_zero, List.set_cons_succ]
                  refine wpAnyH_take (i := 39) (v := ?vrba40) (by simp only [List.getElem?_toArray, List.getElem?_cons_zero, List.getElem?_cons_succ]; rfl) (by kernel_rfl) (by kernel_rfl) (by kernel_rfl) (fun _ _ _ h => h) (Or.inl ⟨by rfl, ?hrba40⟩) hHeld0 ?qrba40
                  case hrba40 => (intro w hSw; (try dsimp only at hSw); go_simp <;> with_reducible rfl)
                  try simp only [Act.put, List.setIfInBounds_toArray, List.set_cons_zero, List.set_cons_succ]
                  refine wpAnyH_take (i := 40) (v := .bool false) (by simp only [List.getElem?_toArray, List.getElem?_cons_zero, List.getElem?_cons_succ]; rfl) (by kernel_rfl) (by kernel_rfl) (by kernel_rfl) (fun _ _ _ h => h) (Or.inl ⟨by rfl, ?hrba41⟩) hHeld0 ?qrba41
                  case hrba41 => (intro w hSw; (try dsimp only at hSw); go_simp; (try simp))
                  try simp only [Act.put, List.setIfInBounds_toArray, List.set_cons_zero, List.set_cons_succ]
                  refine wpAnyH_take (i := 41) (v := ?vrba42) (by simp only [List.getElem?_toArray, List.getElem?_cons_zero, List.getElem?_cons_succ]; rfl) (by kernel_rfl) (by kernel_rfl) (by kernel_rfl) (fun _ _ _ h => h) (Or.inl ⟨by rfl, ?hrba42⟩) hHeld0 ?qrba42
                  case hrba42 => (intro w hSw; (try dsimp only at hSw); go_simp <;> with_reducible rfl)
                  try simp only [Act.put, List.setIfInBounds_toArray, List.set_cons_zero, List.set_cons_succ]
                  refine wpAnyH_take (i := 42) (v := undef) (by simp only [List.getElem?_toArray, List.getElem?_cons_zero, List.getElem?_cons_succ]; rfl) (by kernel_rfl) (by kernel_rfl) (by kernel_rfl) (fun _ _ _ h => h) (Or.inr ⟨by rfl, rfl⟩) hHeld0 ?qrba43
                  try simp only [Act.put, List.setIfInBounds_toArray, List.set_cons_zero, List.set_cons_succ]
                  refine wpAnyH_take (i := 43) (v := undef) (by simp only [List.getElem?_toArray, List.getElem?_cons_zero, List.getElem?_cons_succ]; rfl) (by kernel_rfl) (by kernel_rfl) (by kernel_rfl) (fun _ _ _ h => h) (Or.inr ⟨by rfl, rfl⟩) hHeld0 ?qrba44
                  try simp only [Act.put, List.setIfInBounds_toArray, List.set_cons_zero, List.set_cons_succ]
                  refine wpAnyH_take (i := 44) (v := undef) (by simp only [List.getElem?_toArray, List.getElem?_cons_zero, List.getElem?_cons_succ]; rfl) (by kernel_rfl) (by kernel_rfl) (by kernel_rfl) (fun _ _ _ h => h) (Or.inr ⟨by rfl, rfl⟩) hHeld0 ?qrba45
                  try simp only [Act.put, List.setIfInBounds_toArray, List.set_cons_zero, List.set_cons_succ]
                  refine wpAnyH_take (i := 45) (v := undef) (by simp only [List.getElem?_toArray, List.getElem?_cons_zero, List.getElem?_cons_succ]; rfl) (by kernel_rfl) (by kernel_rfl) (by kernel_rfl) (fun _ _ _ h => h) (Or.inr ⟨by rfl, rfl⟩) hHeld0 ?qrba46
                  try simp only [Act.put, List.setIfInBounds_toArray, List.set_cons_zero, List.set_cons_succ]
                  refine wpAnyH_take (i := 46) (v := undef) (by simp only [List.getElem?_toArray, List.getElem?_cons_zero, List.getElem?_cons_succ]; rfl) (by kernel_rfl) (by kernel_rfl) (by kernel_rfl) (fun _ _ _ h => h) (Or.inr ⟨by rfl, rfl⟩) hHeld0 ?qrba47
                  try simp only [Act.put, List.setIfInBounds_toArray, List.set_cons_zero, List.set_cons_succ]
                  refine wpAnyH_take (i := 47) (v := undef) (by simp only [List.getElem?_toArray, List.getElem?_cons_zero, List.getElem?_cons_succ]; rfl) (by kernel_rfl) (by kernel_rfl) (by kernel_rfl) (fun _ _ _ h => h) (Or.inr ⟨by rfl, rfl⟩) hHeld0 ?qrba48
                  try simp only [Act.put, List.setIfInBounds_toArray, List.set_cons_zero, List.set_cons_succ]
                  refine wpAnyH_take (i := 48) (v := undef) (by simp only [List.getElem?_toArray, List.getElem?_cons_zero, List.getElem?_cons_succ]; rfl) (by kernel_rfl) (by kernel_rfl) (by kernel_rfl) (fun _ _ _ h => h) (Or.inr ⟨by rfl, rfl⟩) hHeld0 ?qrba49
                  try simp only [Act.put, List.setIfInBounds_toArray, List.set_cons_zero, List.set_cons_succ]
                  refine wpAnyH_take (i := 49) (v := undef) (by simp only [List.getElem?_toArray, List.getElem?_cons_zero, List.getElem?_cons_succ]; rfl) (by kernel_rfl) (by kernel_rfl) (by kernel_rfl) (fun _ _ _ h => h) (Or.inr ⟨by rfl, rfl⟩) hHeld0 ?qrba50
                  try simp only [Act.put, List.setIfInBounds_toArray, List.set_cons_zero, List.set_cons_succ]
                  refine wpAnyH_take (i := 50) (v := undef) (by simp only [List.getElem?_toArray, List.getElem?_cons_zero, List.getElem?_cons_succ]; rfl) (by kernel_rfl) (by kernel_rfl) (by kernel_rfl) (fun _ _ _ h => h) (Or.inr ⟨by rfl, rfl⟩) hHeld0 ?qrba51
                  try simp only [Act.put, List.setIfInBounds_toArray, List.set_cons_zero, List.set_cons_succ]
                  refine wpAnyH_take (i := 51) (v := undef) (by simp only [List.getElem?_toArray, List.getElem?_cons_zero, List.getElem?_cons_succ]; rfl) (by kernel_rfl) (by kernel_rfl) (by kernel_rfl) (fun _ _ _ h => h) (Or.inr ⟨by rfl, rfl⟩) hHeld0 ?qrba52
                  try simp only [Act.put, List.setIfInBounds_toArray, List.set_cons_zero, List.set_cons_succ]
                  refine wpAnyH_take (i := 52) (v := undef) (by simp only [List.getElem?_toArray, List.getElem?_cons_zero, List.getElem?_cons_succ]; rfl) (by kernel_rfl) (by kernel_rfl) (by kernel_rfl) (fun _ _ _ h => h) (Or.inr ⟨by rfl, rfl⟩) hHeld0 ?qrba53
                  try simp only [Act.put, List.setIfInBounds_toArray, List.set_cons_zero, List.set_cons_succ]
                  refine wpAnyH_take (i := 53) (v := undef) (by simp only [List.getElem?_toArray, List.getElem?_cons_zero, List.getElem?_cons_succ]; rfl) (by kernel_rfl) (by kernel_rfl) (by kernel_rfl) (fun _ _ _ h => h) (Or.inr ⟨by rfl, rfl⟩) hHeld0 ?qrba54
                  try simp only [Act.put, List.setIfInBounds_toArray, List.set_cons_zero, List.set_cons_succ]
                  refine wpAnyH_take (i := 54) (v := .bool false) (by simp only [List.getElem?_toArray, List.getElem?_cons_zero, List.getElem?_cons_succ]; rfl) (by kernel_rfl) (by kernel_rfl) (by kernel_rfl) (fun _ _ _ h => h) (Or.inl ⟨by rfl, ?hrba55⟩) hHeld0 ?qrba55
                  case hrba55 => (intro w hSw; (try dsimp only at hSw); go_simp; (try simp))
                  try simp only [Act.put, List.setIfInBounds_toArray, List.set_cons_zero, List.set_cons_succ]
                  refine wpAnyH_take (i := 55) (v := ?vrba56) (by simp only [List.getElem?_toArray, List.getElem?_cons_zero, List.getElem?_cons_succ]; rfl) (by kernel_rfl) (by kernel_rfl) (by kernel_rfl) (fun _ _ _ h => h) (Or.inl ⟨by rfl, ?hrba56⟩) hHeld0 ?qrba56
                  case hrba56 => (intro w hSw; (try dsimp only at hSw); go_simp <;> with_reducible rfl)
                  try simp only [Act.put, List.setIfInBounds_toArray, List.set_cons_zero, List.set_cons_succ]
                  refine wpAnyH_done (by kernel_rfl) ?_ _
                  refine NoPanic.normal ?_
                  go_wp2_with fail
                  refine wp_region_noPanic ?_
                  refine wp_region_held_drew (S := (fun w' => w'.cell? ea = some (.int .i64 zs) ∧ w'.cell? ⟨ea.block, ea.off + 1, none⟩ = some (.int .i64 zb))) (by kernel_rfl) ?rbazs0 (fun hHeld0 => ?rbazr0)
                  case rbazs0 => (try dsimp only) <;> exact ⟨v0, v1⟩
                  refine wpAnyH_take (i := 0) (v := ?vrbaz1) (by simp only [List.getElem?_toArray, List.getElem?_cons_zero, List.getElem?_cons_succ]; rfl) (by kernel_rfl) (by kernel_rfl) (by kernel_rfl) (fun _ _ _ h => h) (Or.inl ⟨by rfl, ?hrbaz1⟩) hHeld0 ?qrbaz1
                  case hrbaz1 => (intro w hSw; (try dsimp only at hSw); go_simp <;> with_reducible rfl)
                  try simp only [Act.put, List.setIfInBounds_toArray, List.set_cons_zero, List.set_cons_succ]
                  refine wpAnyH_take (i := 1) (v := ?vrbaz2) (by simp only [List.getElem?_toArray, List.getElem?_cons_zero, List.getElem?_cons_succ]; rfl) (by kernel_rfl) (by kernel_rfl) (by kernel_rfl) (fun _ _ _ h => h) (Or.inl ⟨by rfl, ?hrbaz2⟩) hHeld0 ?qrbaz2
                  case hrbaz2 => (intro w hSw; (try dsimp only at hSw); go_simp <;> with_reducible rfl)
                  try simp only [Act.put, List.setIfInBounds_toArray, List.set_cons_zero, List.set_cons_succ]
                  refine wpAnyH_take (i := 2) (v := ?vrbaz3) (by simp only [List.getElem?_toArray, List.getElem?_cons_zero, List.getElem?_cons_succ]; rfl) (by kernel_rfl) (by kernel_rfl) (by kernel_rfl) (fun _ _ _ h => h) (Or.inl ⟨by rfl, ?hrbaz3⟩) hHeld0 ?qrbaz3
                  case hrbaz3 => (intro w hSw; (try dsimp only at hSw); go_simp <;> with_reducible rfl)
                  try simp only [Act.put, List.setIfInBounds_toArray, List.set_cons_zero, List.set_cons_succ]
                  refine wpAnyH_take (i := 3) (v := ?vrbaz4) (by simp only [List.getElem?_toArray, List.getElem?_cons_zero, List.getElem?_cons_succ]; rfl) (by kernel_rfl) (by kernel_rfl) (by kernel_rfl) (fun _ _ _ h => h) (Or.inl ⟨by rfl, ?hrbaz4⟩) hHeld0 ?qrbaz4
                  case hrbaz4 => (intro w hSw; (try dsimp only at hSw); go_simp <;> with_reducible rfl)
                  try simp only [Act.put, List.setIfInBounds_toArray, List.set_cons_zero, List.set_cons_succ]
                  refine wpAnyH_take (i := 4) (v := ?vrbaz5) (by simp only [List.getElem?_toArray, List.getElem?_cons_zero, List.getElem?_cons_succ]; rfl) (by kernel_rfl) (by kernel_rfl) (by kernel_rfl) (fun _ _ _ h => h) (Or.inl ⟨by rfl, ?hrbaz5⟩) hHeld0 ?qrbaz5
                  case hrbaz5 => (intro w hSw; (try dsimp only at hSw); go_simp <;> with_reducible rfl)
                  try simp only [Act.put, List.setIfInBounds_toArray, List.set_cons_zero, List.set_cons_succ]
                  refine wpAnyH_take (i := 5) (v := ?vrbaz6) (by simp only [List.getElem?_toArray, List.getElem?_cons_zero, List.getElem?_cons_succ]; rfl) (by kernel_rfl) (by kernel_rfl) (by kernel_rfl) (fun _ _ _ h => h) (Or.inl ⟨by rfl, ?hrbaz6⟩) hHeld0 ?qrbaz6
                  case hrbaz6 => (intro w hSw; (try dsimp only at hSw); go_simp <;> with_reducible rfl)
                  try simp only [Act.put, List.setIfInBounds_toArray, List.set_cons_zero, List.set_cons_succ]
                  refine wpAnyH_take (i := 6) (v := ?vrbaz7) (by simp only [List.getElem?_toArray, List.getElem?_cons_zero, List.getElem?_cons_succ]; rfl) (by kernel_rfl) (by kernel_rfl) (by kernel_rfl) (fun _ _ _ h => h) (Or.inl ⟨by rfl, ?hrbaz7⟩) hHeld0 ?qrbaz7
                  case hrbaz7 => (intro w hSw; (try dsimp only at hSw); go_simp <;> with_reducible rfl)
                  try simp only [Act.put, List.setIfInBounds_toArray, List.set_cons_zero, List.set_cons_succ]
                  refine wpAnyH_take (i := 7) (v := ?vrbaz8) (by simp only [List.getElem?_toArray, List.getElem?_cons_zero, List.getElem?_cons_succ]; rfl) (by kernel_rfl) (by kernel_rfl) (by kernel_rfl) (fun _ _ _ h => h) (Or.inl ⟨by rfl, ?hrbaz8⟩) hHeld0 ?qrbaz8
                  case hrbaz8 => (intro w hSw; (try dsimp only at hSw); go_simp <;> with_reducible rfl)
                  try simp only [Act.put, List.setIfInBounds_toArray, List.set_cons_zero, List.set_cons_succ]
                  refine wpAnyH_take (i := 8) (v := ?vrbaz9) (by simp only [List.getElem?_toArray, List.getElem?_cons_zero, List.getElem?_cons_succ]; rfl) (by kernel_rfl) (by kernel_rfl) (by kernel_rfl) (fun _ _ _ h => h) (Or.inl ⟨by rfl, ?hrbaz9⟩) hHeld0 ?qrbaz9
                  case hrbaz9 => (intro w hSw; (try dsimp only at hSw); go_simp <;> with_reducible rfl)
                  try simp only [Act.put, List.setIfInBounds_toArray, List.set_cons_zero, List.set_cons_succ]
                  refine wpAnyH_take (i := 9) (v := ?vrbaz10) (by simp only [List.getElem?_toArray, List.getElem?_cons_zero, List.getElem?_cons_succ]; rfl) (by kernel_rfl) (by kernel_rfl) (by kernel_rfl) (fun _ _ _ h => h) (Or.inl ⟨by rfl, ?hrbaz10⟩) hHeld0 ?qrbaz10
                  case hrbaz10 => (intro w hSw; (try dsimp only at hSw); go_simp <;> with_reducible rfl)
                  try simp only [Act.put, List.setIfInBounds_toArray, List.set_cons_zero, List.set_cons_succ]
                  refine wpAnyH_take (i := 10) (v := ?vrbaz11) (by simp only [List.getElem?_toArray, List.getElem?_cons_zero, List.getElem?_cons_succ]; rfl) (by kernel_rfl) (by kernel_rfl) (by kernel_rfl) (fun _ _ _ h => h) (Or.inl ⟨by rfl, ?hrbaz11⟩) hHeld0 ?qrbaz11
                  case hrbaz11 => (intro w hSw; (try dsimp only at hSw); go_simp <;> with_reducible rfl)
                  try simp only [Act.put, List.setIfInBounds_toArray, List.set_cons_zero, List.set_cons_succ]
                  refine wpAnyH_ready (rs := [11]) (by kernel_rfl) (by simp) ?_
                  refine AllReadyH.cons (by simp only [List.getElem?_toArray, List.getElem?_cons_zero, List.getElem?_cons_succ]; rfl) (fun K hK => ?_) AllReadyH.nil
                  go_simp

                  refine hK.out _ _ ?srbaz12 (fun hHeld1 => ?qrbaz12)
                  case srbaz12 => (try dsimp only) <;> exact ⟨HKS.out _ _ _ v0 hbl, HKS.out _ _ _ v1 hbl⟩
                  clear hK K
                  try simp only [Act.put, List.setIfInBounds_toArray, List.set_cons_zero, List.set_cons_succ]
                  refine wpAnyH_done (by kernel_rfl) ?_ _
                  refine NoPanic.normal ?_
                  go_wp2_with fail
                  exact ⟨⟨0 + 1, _, by omega, by simp, Lib.hid (HX3.out.set s zb), HPUT, Lib.hid (HK3.out.trans ((((Keep.refl (fun b => b = X) wr).drew).drew.setCell ⟨X, s, none⟩ (.int .i64 zb) (.inl rfl))) (fun _ h => .inl h))⟩, by simp [intOf]; omega⟩
                | succ j =>
                  obtain ⟨y, hy⟩ : ∃ y, hv[j]? = some y := ⟨_, List.getElem?_eq_getElem (by omega)⟩
                  have q6 : ¬ z.s ≤ y.s := by have := told_lt HD.out hy hz; omega
                  have q5 : 0 < (j : Int) + 1 := by omega
                  have hj0 : (0 : Int) ≤ (j : Int) := by omega
                  have hj1 : (0 : Int) ≤ (j : Int) + 1 := by omega
                  have hlti : (j : Int) + 1 < (hv.length : Int) := by omega
                  have hltj : (j : Int) < (hv.length : Int) := by omega
                  have hwj : IntKind.i64.wrap (j : Int) = (j : Int) := IntWalk.i64_in _ (by omega)
                  obtain ⟨ad', had, hvb⟩ := vh_at HROW.out hy
                  obtain rfl : ad = ad' := by injection had
                  obtain ⟨u0, _, _, _, _, _, _, _⟩ := VAt.keep2 hvb HK3.out hlo
                  obtain ⟨ea, hea⟩ : ∃ ea, ea = ad.add ((j + 1) * 8) := ⟨_, rfl⟩
                  obtain ⟨eb, heb⟩ : ∃ eb, eb = ad.add (j * 8) := ⟨_, rfl⟩
                  have hbl : ¬ ea.block = X := by rw [hea, vadd_block]; exact hlo
                  rw [← hea] at v0 v1
                  rw [← heb] at u0
                  have hea2 := hea.symm
                  have heb2 := heb.symm
                  obtain ⟨zs, hzs⟩ : ∃ zs, zs = z.s := ⟨_, rfl⟩
                  obtain ⟨zb, hzb⟩ : ∃ zb, zb = z.b := ⟨_, rfl⟩
                  obtain ⟨ys, hys⟩ : ∃ ys, ys = y.s := ⟨_, rfl⟩
                  rw [← hzs] at q0 q1 q2 q6 q7 hts v0
                  rw [← hzb] at q3 q4 v1 HPUT HKS
                  rw [← hys] at q6 u0
                  clear hea heb hzs hzb hys hz hy hzf hze e1 e2 hzf' g1 g2 g3 g4 g5 hva hvb had hs hhq
                  rw [show ((j + 1 : Nat) : Int) = (j : Int) + 1 from by omega]
                  go_wp2_with fail
                  refine wp_region_noPanic ?_
                  refine wp_region_held_drew (S := (fun w' => w'.cell? ea = some (.int .i64 zs) ∧ w'.cell? ⟨ea.block, ea.off + 1, none⟩ = some (.int .i64 zb) ∧ w'.cell? ⟨X, s, none⟩ = some (.int .i64 hq) ∧ w'.cell? eb = some (.int .i64 ys))) (by kernel_rfl) ?rbbs0 (fun hHeld0 => ?rbbr0)
                  case rbbs0 => (try dsimp only) <;> exact ⟨v0, v1, y1, u0⟩
                  refine wpAnyH_take (i := 0) (v := ?vrbb1) (by simp only [List.getElem?_toArray, List.getElem?_cons_zero, List.getElem?_cons_succ]; rfl) (by kernel_rfl) (by kernel_rfl) (by kernel_rfl) (fun _ _ _ h => h) (Or.inl ⟨by rfl, ?hrbb1⟩) hHeld0 ?qrbb1
                  case hrbb1 => (intro w hSw; (try dsimp only at hSw); go_simp <;> with_reducible rfl)
                  try simp only [Act.put, List.setIfInBounds_toArray, List.set_cons_zero, List.set_cons_succ]
                  refine wpAnyH_take (i := 1) (v := ?vrbb2) (by simp only [List.getElem?_toArray, List.getElem?_cons_zero, List.getElem?_cons_succ]; rfl) (by kernel_rfl) (by kernel_rfl) (by kernel_rfl) (fun _ _ _ h => h) (Or.inl ⟨by rfl, ?hrbb2⟩) hHeld0 ?qrbb2
                  case hrbb2 => (intro w hSw; (try dsimp only at hSw); go_simp <;> with_reducible rfl)
                  try simp only [Act.put, List.setIfInBounds_toArray, List.set_cons_zero, List.set_cons_succ]
                  refine wpAnyH_take (i := 2) (v := ?vrbb3) (by simp only [List.getElem?_toArray, List.getElem?_cons_zero, List.getElem?_cons_succ]; rfl) (by kernel_rfl) (by kernel_rfl) (by kernel_rfl) (fun _ _ _ h => h) (Or.inl ⟨by rfl, ?hrbb3⟩) hHeld0 ?qrbb3
                  case hrbb3 => (intro w hSw; (try dsimp only at hSw); go_simp <;> with_reducible rfl)
                  try simp only [Act.put, List.setIfInBounds_toArray, List.set_cons_zero, List.set_cons_succ]
                  refine wpAnyH_take (i := 3) (v := ?vrbb4) (by simp only [List.getElem?_toArray, List.getElem?_cons_zero, List.getElem?_cons_succ]; rfl) (by kernel_rfl) (by kernel_rfl) (by kernel_rfl) (fun _ _ _ h => h) (Or.inl ⟨by rfl, ?hrbb4⟩) hHeld0 ?qrbb4
                  case hrbb4 => (intro w hSw; (try dsimp only at hSw); go_simp <;> with_reducible rfl)
                  try simp only [Act.put, List.setIfInBounds_toArray, List.set_cons_zero, List.set_cons_succ]
                  refine wpAnyH_take (i := 4) (v := ?vrbb5) (by simp only [List.getElem?_toArray, List.getElem?_cons_zero, List.getElem?_cons_succ]; rfl) (by kernel_rfl) (by kernel_rfl) (by kernel_rfl) (fun _ _ _ h => h) (Or.inl ⟨by rfl, ?hrbb5⟩) hHeld0 ?qrbb5
                  case hrbb5 => (intro w hSw; (try dsimp only at hSw); go_simp <;> with_reducible rfl)
                  try simp only [Act.put, List.setIfInBounds_toArray, List.set_cons_zero, List.set_cons_succ]
                  refine wpAnyH_take (i := 5) (v := .bool false) (by simp only [List.getElem?_toArray, List.getElem?_cons_zero, List.getElem?_cons_succ]; rfl) (by kernel_rfl) (by kernel_rfl) (by kernel_rfl) (fun _ _ _ h => h) (Or.inl ⟨by rfl, ?hrbb6⟩) hHeld0 ?qrbb6
                  case hrbb6 => (intro w hSw; (try dsimp only at hSw); go_simp; (try simp [q1, q2, q3, q4]))
                  try simp only [Act.put, List.setIfInBounds_toArray, List.set_cons_zero, List.set_cons_succ]
                  refine wpAnyH_take (i := 6) (v := ?vrbb7) (by simp only [List.getElem?_toArray, List.getElem?_cons_zero, List.getElem?_cons_succ]; rfl) (by kernel_rfl) (by kernel_rfl) (by kernel_rfl) (fun _ _ _ h => h) (Or.inl ⟨by rfl, ?hrbb7⟩) hHeld0 ?qrbb7
                  case hrbb7 => (intro w hSw; (try dsimp only at hSw); go_simp <;> with_reducible rfl)
                  try simp only [Act.put, List.setIfInBounds_toArray, List.set_cons_zero, List.set_cons_succ]
                  refine wpAnyH_take (i := 7) (v := ?vrbb8) (by simp only [List.getElem?_toArray, List.getElem?_cons_zero, List.getElem?_cons_succ]; rfl) (by kernel_rfl) (by kernel_rfl) (by kernel_rfl) (fun _ _ _ h => h) (Or.inl ⟨by rfl, ?hrbb8⟩) hHeld0 ?qrbb8
                  case hrbb8 => (intro w hSw; (try dsimp only at hSw); go_simp <;> with_reducible rfl)
                  try simp only [Act.put, List.setIfInBounds_toArray, List.set_cons_zero, List.set_cons_succ]
                  refine wpAnyH_take (i := 8) (v := ?vrbb9) (by simp only [List.getElem?_toArray, List.getElem?_cons_zero, List.getElem?_cons_succ]; rfl) (by kernel_rfl) (by kernel_rfl) (by kernel_rfl) (fun _ _ _ h => h) (Or.inl ⟨by rfl, ?hrbb9⟩) hHeld0 ?qrbb9
                  case hrbb9 => (intro w hSw; (try dsimp only at hSw); go_simp <;> with_reducible rfl)
                  try simp only [Act.put, List.setIfInBounds_toArray, List.set_cons_zero, List.set_cons_succ]
                  refine wpAnyH_take (i := 9) (v := ?vrbb10) (by simp only [List.getElem?_toArray, List.getElem?_cons_zero, List.getElem?_cons_succ]; rfl) (by kernel_rfl) (by kernel_rfl) (by kernel_rfl) (fun _ _ _ h => h) (Or.inl ⟨by rfl, ?hrbb10⟩) hHeld0 ?qrbb10
                  case hrbb10 => (intro w hSw; (try dsimp only at hSw); go_simp <;> with_reducible rfl)
                  try simp only [Act.put, List.setIfInBounds_toArray, List.set_cons_zero, List.set_cons_succ]
                  refine wpAnyH_take (i := 10) (v := ?vrbb11) (by simp only [List.getElem?_toArray, List.getElem?_cons_zero, List.getElem?_cons_succ]; rfl) (by kernel_rfl) (by kernel_rfl) (by kernel_rfl) (fun _ _ _ h => h) (Or.inl ⟨by rfl, ?hrbb11⟩) hHeld0 ?qrbb11
                  case hrbb11 => (intro w hSw; (try dsimp only at hSw); go_simp <;> with_reducible rfl)
                  try simp only [Act.put, List.setIfInBounds_toArray, List.set_cons_zero, List.set_cons_succ]
                  refine wpAnyH_take (i := 11) (v := ?vrbb12) (by simp only [List.getElem?_toArray, List.getElem?_cons_zero, List.getElem?_cons_succ]; rfl) (by kernel_rfl) (by kernel_rfl) (by kernel_rfl) (fun _ _ _ h => h) (Or.inl ⟨by rfl, ?hrbb12⟩) hHeld0 ?qrbb12
                  case hrbb12 => (intro w hSw; (try dsimp only at hSw); go_simp <;> with_reducible rfl)
                  try simp only [Act.put, List.setIfInBounds_toArray, List.set_cons_zero, List.set_cons_succ]
                  refine wpAnyH_take (i := 12) (v := .bool false) (by simp only [List.getElem?_toArray, List.getElem?_cons_zero, List.getElem?_cons_succ]; rfl) (by kernel_rfl) (by kernel_rfl) (by kernel_rfl) (fun _ _ _ h => h) (Or.inl ⟨by rfl, ?hrbb13⟩) hHeld0 ?qrbb13
                  case hrbb13 => (intro w hSw; (try dsimp only at hSw); go_simp; (try simp [q1, q2, q3, q4]))
                  try simp only [Act.put, List.setIfInBounds_toArray, List.set_cons_zero, List.set_cons_succ]
                  refine wpAnyH_take (i := 13) (v := ?vrbb14) (by simp only [List.getElem?_toArray, List.getElem?_cons_zero, List.getElem?_cons_succ]; rfl) (by kernel_rfl) (by kernel_rfl) (by kernel_rfl) (fun _ _ _ h => h) (Or.inl ⟨by rfl, ?hrbb14⟩) hHeld0 ?qrbb14
                  case hrbb14 => (intro w hSw; (try dsimp only at hSw); go_simp <;> with_reducible rfl)
                  try simp only [Act.put, List.setIfInBounds_toArray, List.set_cons_zero, List.set_cons_succ]
                  refine wpAnyH_take (i := 14) (v := ?vrbb15) (by simp only [List.getElem?_toArray, List.getElem?_cons_zero, List.getElem?_cons_succ]; rfl) (by kernel_rfl) (by kernel_rfl) (by kernel_rfl) (fun _ _ _ h => h) (Or.inl ⟨by rfl, ?hrbb15⟩) hHeld0 ?qrbb15
                  case hrbb15 => (intro w hSw; (try dsimp only at hSw); go_simp <;> with_reducible rfl)
                  try simp only [Act.put, List.setIfInBounds_toArray, List.set_cons_zero, List.set_cons_succ]
                  refine wpAnyH_take (i := 15) (v := ?vrbb16) (by simp only [List.getElem?_toArray, List.getElem?_cons_zero, List.getElem?_cons_succ]; rfl) (by kernel_rfl) (by kernel_rfl) (by kernel_rfl) (fun _ _ _ h => h) (Or.inl ⟨by rfl, ?hrbb16⟩) hHeld0 ?qrbb16
                  case hrbb16 => (intro w hSw; (try dsimp only at hSw); go_simp <;> with_reducible rfl)
                  try simp only [Act.put, List.setIfInBounds_toArray, List.set_cons_zero, List.set_cons_succ]
                  refine wpAnyH_take (i := 16) (v := ?vrbb17) (by simp only [List.getElem?_toArray, List.getElem?_cons_zero, List.getElem?_cons_succ]; rfl) (by kernel_rfl) (by kernel_rfl) (by kernel_rfl) (fun _ _ _ h => h) (Or.inl ⟨by rfl, ?hrbb17⟩) hHeld0 ?qrbb17
                  case hrbb17 => (intro w hSw; (try dsimp only at hSw); go_simp <;> with_reducible rfl)
                  try simp only [Act.put, List.setIfInBounds_toArray, List.set_cons_zero, List.set_cons_succ]
                  refine wpAnyH_take (i := 17) (v := ?vrbb18) (by simp only [List.getElem?_toArray, List.getElem?_cons_zero, List.getElem?_cons_succ]; rfl) (by kernel_rfl) (by kernel_rfl) (by kernel_rfl) (fun _ _ _ h => h) (Or.inl ⟨by rfl, ?hrbb18⟩) hHeld0 ?qrbb18
                  case hrbb18 => (intro w hSw; (try dsimp only at hSw); go_simp <;> with_reducible rfl)
                  try simp only [Act.put, List.setIfInBounds_toArray, List.set_cons_zero, List.set_cons_succ]
                  refine wpAnyH_take (i := 18) (v := ?vrbb19) (by simp only [List.getElem?_toArray, List.getElem?_cons_zero, List.getElem?_cons_succ]; rfl) (by kernel_rfl) (by kernel_rfl) (by kernel_rfl) (fun _ _ _ h => h) (Or.inl ⟨by rfl, ?hrbb19⟩) hHeld0 ?qrbb19
                  case hrbb19 => (intro w hSw; (try dsimp only at hSw); go_simp <;> with_reducible rfl)
                  try simp only [Act.put, List.setIfInBounds_toArray, List.set_cons_zero, List.set_cons_succ]
                  refine wpAnyH_take (i := 19) (v := ?vrbb20) (by simp only [List.getElem?_toArray, List.getElem?_cons_zero, List.getElem?_cons_succ]; rfl) (by kernel_rfl) (by kernel_rfl) (by kernel_rfl) (fun _ _ _ h => h) (Or.inl ⟨by rfl, ?hrbb20⟩) hHeld0 ?qrbb20
                  case hrbb20 => (intro w hSw; (try dsimp only at hSw); go_simp <;> with_reducible rfl)
                  try simp only [Act.put, List.setIfInBounds_toArray, List.set_cons_zero, List.set_cons_succ]
                  refine wpAnyH_take (i := 20) (v := ?vrbb21) (by simp only [List.getElem?_toArray, List.getElem?_cons_zero, List.getElem?_cons_succ]; rfl) (by kernel_rfl) (by kernel_rfl) (by kernel_rfl) (fun _ _ _ h => h) (Or.inl ⟨by rfl, ?hrbb21⟩) hHeld0 ?qrbb21
                  case hrbb21 => (intro w hSw; (try dsimp only at hSw); go_simp <;> with_reducible rfl)
                  try simp only [Act.put, List.setIfInBounds_toArray, List.set_cons_zero, List.set_cons_succ]
                  refine wpAnyH_take (i := 21) (v := ?vrbb22) (by simp only [List.getElem?_toArray, List.getElem?_cons_zero, List.getElem?_cons_succ]; rfl) (by kernel_rfl) (by kernel_rfl) (by kernel_rfl) (fun _ _ _ h => h) (Or.inl ⟨by rfl, ?hrbb22⟩) hHeld0 ?qrbb22
                  case hrbb22 => (intro w hSw; (try dsimp only at hSw); go_simp <;> with_reducible rfl)
                  try simp only [Act.put, List.setIfInBounds_toArray, List.set_cons_zero, List.set_cons_succ]
                  refine wpAnyH_take (i := 22) (v := ?vrbb23) (by simp only [List.getElem?_toArray, List.getElem?_cons_zero, List.getElem?_cons_succ]; rfl) (by kernel_rfl) (by kernel_rfl) (by kernel_rfl) (fun _ _ _ h => h) (Or.inl ⟨by rfl, ?hrbb23⟩) hHeld0 ?qrbb23
                  case hrbb23 => (intro w hSw; (try dsimp only at hSw); go_simp <;> with_reducible rfl)
                  try simp only [Act.put, List.setIfInBounds_toArray, List.set_cons_zero, List.set_cons_succ]
                  refine wpAnyH_take (i := 23) (v := ?vrbb24) (by simp only [List.getElem?_toArray, List.getElem?_cons_zero, List.getElem?_cons_succ]; rfl) (by kernel_rfl) (by kernel_rfl) (by kernel_rfl) (fun _ _ _ h => h) (Or.inl ⟨by rfl, ?hrbb24⟩) hHeld0 ?qrbb24
                  case hrbb24 => (intro w hSw; (try dsimp only at hSw); go_simp <;> with_reducible rfl)
                  try simp only [Act.put, List.setIfInBounds_toArray, List.set_cons_zero, List.set_cons_succ]
                  refine wpAnyH_take (i := 24) (v := ?vrbb25) (by simp only [List.getElem?_toArray, List.getElem?_cons_zero, List.getElem?_cons_succ]; rfl) (by kernel_rfl) (by kernel_rfl) (by kernel_rfl) (fun _ _ _ h => h) (Or.inl ⟨by rfl, ?hrbb25⟩) hHeld0 ?qrbb25
                  case hrbb25 => (intro w hSw; (try dsimp only at hSw); go_simp <;> with_reducible rfl)
                  try simp only [Act.put, List.setIfInBounds_toArray, List.set_cons_zero, List.set_cons_succ]
                  refine wpAnyH_take (i := 25) (v := ?vrbb26) (by simp only [List.getElem?_toArray, List.getElem?_cons_zero, List.getElem?_cons_succ]; rfl) (by kernel_rfl) (by kernel_rfl) (by kernel_rfl) (fun _ _ _ h => h) (Or.inl ⟨by rfl, ?hrbb26⟩) hHeld0 ?qrbb26
                  case hrbb26 => (intro w hSw; (try dsimp only at hSw); go_simp <;> with_reducible rfl)
                  try simp only [Act.put, List.setIfInBounds_toArray, List.set_cons_zero, List.set_cons_succ]
                  refine wpAnyH_take (i := 26) (v := ?vrbb27) (by simp only [List.getElem?_toArray, List.getElem?_cons_zero, List.getElem?_cons_succ]; rfl) (by kernel_rfl) (by kernel_rfl) (by kernel_rfl) (fun _ _ _ h => h) (Or.inl ⟨by rfl, ?hrbb27⟩) hHeld0 ?qrbb27
                  case hrbb27 => (intro w hSw; (try dsimp only at hSw); go_simp <;> with_reducible rfl)
                  try simp only [Act.put, List.setIfInBounds_toArray, List.set_cons_zero, List.set_cons_succ]
                  refine wpAnyH_take (i := 27) (v := .bool false) (by simp only [List.getElem?_toArray, List.getElem?_cons_zero, List.getElem?_cons_succ]; rfl) (by kernel_rfl) (by kernel_rfl) (by kernel_rfl) (fun _ _ _ h => h) (Or.inl ⟨by rfl, ?hrbb28⟩) hHeld0 ?qrbb28
                  case hrbb28 => (intro w hSw; (try dsimp only at hSw); go_simp; (try simp [q1, q2, q3, q4]))
                  try simp only [Act.put, List.setIfInBounds_toArray, List.set_cons_zero, List.set_cons_succ]
                  refine wpAnyH_take (i := 28) (v := ?vrbb29) (by simp only [List.getElem?_toArray, List.getElem?_cons_zero, List.getElem?_cons_succ]; rfl) (by kernel_rfl) (by kernel_rfl) (by kernel_rfl) (fun _ _ _ h => h) (Or.inl ⟨by rfl, ?hrbb29⟩) hHeld0 ?qrbb29
                  case hrbb29 => (intro w hSw; (try dsimp only at hSw); go_simp <;> with_reducible rfl)
                  try simp only [Act.put, List.setIfInBounds_toArray, List.set_cons_zero, List.set_cons_succ]
                  refine wpAnyH_take (i := 29) (v := ?vrbb30) (by simp only [List.getElem?_toArray, List.getElem?_cons_zero, List.getElem?_cons_succ]; rfl) (by kernel_rfl) (by kernel_rfl) (by kernel_rfl) (fun _ _ _ h => h) (Or.inl ⟨by rfl, ?hrbb30⟩) hHeld0 ?qrbb30
                  case hrbb30 => (intro w hSw; (try dsimp only at hSw); go_simp <;> with_reducible rfl)
                  try simp only [Act.put, List.setIfInBounds_toArray, List.set_cons_zero, List.set_cons_succ]
                  refine wpAnyH_take (i := 30) (v := ?vrbb31) (by simp only [List.getElem?_toArray, List.getElem?_cons_zero, List.getElem?_cons_succ]; rfl) (by kernel_rfl) (by kernel_rfl) (by kernel_rfl) (fun _ _ _ h => h) (Or.inl ⟨by rfl, ?hrbb31⟩) hHeld0 ?qrbb31
                  case hrbb31 => (intro w hSw; (try dsimp only at hSw); go_simp <;> with_reducible rfl)
                  try simp only [Act.put, List.setIfInBounds_toArray, List.set_cons_zero, List.set_cons_succ]
                  refine wpAnyH_take (i := 31) (v := ?vrbb32) (by simp only [List.getElem?_toArray, List.getElem?_cons_zero, List.getElem?_cons_succ]; rfl) (by kernel_rfl) (by kernel_rfl) (by kernel_rfl) (fun _ _ _ h => h) (Or.inl ⟨by rfl, ?hrbb32⟩) hHeld0 ?qrbb32
                  case hrbb32 => (intro w hSw; (try dsimp only at hSw); go_simp <;> with_reducible rfl)
                  try simp only [Act.put, List.setIfInBounds_toArray, List.set_cons_zero, List.set_cons_succ]
                  refine wpAnyH_take (i := 32) (v := ?vrbb33) (by simp only [List.getElem?_toArray, List.getElem?_cons_zero, List.getElem?_cons_succ]; rfl) (by kernel_rfl) (by kernel_rfl) (by kernel_rfl) (fun _ _ _ h => h) (Or.inl ⟨by rfl, ?hrbb33⟩) hHeld0 ?qrbb33
                  case hrbb33 => (intro w hSw; (try dsimp only at hSw); go_simp <;> with_reducible rfl)
                  try simp only [Act.put, List.setIfInBounds_toArray, List.set_cons_zero, List.set_cons_succ]
                  refine wpAnyH_take (i := 33) (v := ?vrbb34) (by simp only [List.getElem?_toArray, List.getElem?_cons_zero, List.getElem?_cons_succ]; rfl) (by kernel_rfl) (by kernel_rfl) (by kernel_rfl) (fun _ _ _ h => h) (Or.inl ⟨by rfl, ?hrbb34⟩) hHeld0 ?qrbb34
                  case hrbb34 => (intro w hSw; (try dsimp only at hSw); go_simp <;> with_reducible rfl)
                  try simp only [Act.put, List.setIfInBounds_toArray, List.set_cons_zero, List.set_cons_succ]
                  refine wpAnyH_take (i := 34) (v := ?vrbb35) (by simp only [List.getElem?_toArray, List.getElem?_cons_zero, List.getElem?_cons_succ]; rfl) (by kernel_rfl) (by kernel_rfl) (by kernel_rfl) (fun _ _ _ h => h) (Or.inl ⟨by rfl, ?hrbb35⟩) hHeld0 ?qrbb35
                  case hrbb35 => (intro w hSw; (try dsimp only at hSw); go_simp <;> with_reducible rfl)
                  try simp only [Act.put, List.setIfInBounds_toArray, List.set_cons_zero, List.set_cons_succ]
                  refine wpAnyH_take (i := 35) (v := ?vrbb36) (by simp only [List.getElem?_toArray, List.getElem?_cons_zero, List.getElem?_cons_succ]; rfl) (by kernel_rfl) (by kernel_rfl) (by kernel_rfl) (fun _ _ _ h => h) (Or.inl ⟨by rfl, ?hrbb36⟩) hHeld0 ?qrbb36
                  case hrbb36 => (intro w hSw; (try dsimp only at hSw); go_simp <;> with_reducible rfl)
                  try simp only [Act.put, List.setIfInBounds_toArray, List.set_cons_zero, List.set_cons_succ]
                  refine wpAnyH_take (i := 36) (v := .bool false) (by simp only [List.getElem?_toArray, List.getElem?_cons_zero, List.getElem?_cons_succ]; rfl) (by kernel_rfl) (by kernel_rfl) (by kernel_rfl) (fun _ _ _ h => h) (Or.inl ⟨by rfl, ?hrbb37⟩) hHeld0 ?qrbb37
                  case hrbb37 => (intro w hSw; (try dsimp only at hSw); go_simp; (try simp [q1, q2, q3, q4]))
                  try simp only [Act.put, List.setIfInBounds_toArray, List.set_cons_zero, List.set_cons_succ]
                  refine wpAnyH_take (i := 37) (v := ?vrbb38) (by simp only [List.getElem?_toArray, List.getElem?_cons_zero, List.getElem?_cons_succ]; rfl) (by kernel_rfl) (by kernel_rfl) (by kernel_rfl) (fun _ _ _ h => h) (Or.inl ⟨by rfl, ?hrbb38⟩) hHeld0 ?qrbb38
                  case hrbb38 => (intro w hSw; (try dsimp only at hSw); go_simp <;> with_reducible rfl)
                  try simp only [Act.put, List.setIfInBounds_toArray, List.set_cons_zero, List.set_cons_succ]
                  refine wpAnyH_take (i := 38) (v := ?vrbb39) (by simp only [List.getElem?_toArray, List.getElem?_cons_zero, List.getElem?_cons_succ]; rfl) (by kernel_rfl) (by kernel_rfl) (by kernel_rfl) (fun _ _ _ h => h) (Or.inl ⟨by rfl, ?hrbb39⟩) hHeld0 ?qrbb39
                  case hrbb39 => (intro w hSw; (try dsimp only at hSw); go_simp <;> with_reducible rfl)
                  try simp only [Act.put, List.setIfInBounds_toArray, List.set_cons_zero, List.set_cons_succ]
                  refine wpAnyH_take (i := 39) (v := ?vrbb40) (by simp only [List.getElem?_toArray, List.getElem?_cons_zero, List.getElem?_cons_succ]; rfl) (by kernel_rfl) (by kernel_rfl) (by kernel_rfl) (fun _ _ _ h => h) (Or.inl ⟨by rfl, ?hrbb40⟩) hHeld0 ?qrbb40
                  case hrbb40 => (intro w hSw; (try dsimp only at hSw); go_simp <;> with_reducible rfl)
                  try simp only [Act.put, List.setIfInBounds_toArray, List.set_cons_zero, List.set_cons_succ]
                  refine wpAnyH_take (i := 40) (v := .bool true) (by simp only [List.getElem?_toArray, List.getElem?_cons_zero, List.getElem?_cons_succ]; rfl) (by kernel_rfl) (by kernel_rfl) (by kernel_rfl) (fun _ _ _ h => h) (Or.inl ⟨by rfl, ?hrbb41⟩) hHeld0 ?qrbb41
                  case hrbb41 => (intro w hSw; (try dsimp only at hSw); go_simp; (try simp [q5]))
                  try simp only [Act.put, List.setIfInBounds_toArray, List.set_cons_zero, List.set_cons_succ]
                  refine wpAnyH_take (i := 41) (v := ?vrbb42) (by simp only [List.getElem?_toArray, List.getElem?_cons_zero, List.getElem?_cons_succ]; rfl) (by kernel_rfl) (by kernel_rfl) (by kernel_rfl) (fun _ _ _ h => h) (Or.inl ⟨by rfl, ?hrbb42⟩) hHeld0 ?qrbb42
                  case hrbb42 => (intro w hSw; (try dsimp only at hSw); go_simp <;> with_reducible rfl)
                  try simp only [Act.put, List.setIfInBounds_toArray, List.set_cons_zero, List.set_cons_succ]
                  refine wpAnyH_take (i := 42) (v := ?vrbb43) (by simp only [List.getElem?_toArray, List.getElem?_cons_zero, List.getElem?_cons_succ]; rfl) (by kernel_rfl) (by kernel_rfl) (by kernel_rfl) (fun _ _ _ h => h) (Or.inl ⟨by rfl, ?hrbb43⟩) hHeld0 ?qrbb43
                  case hrbb43 => (intro w hSw; (try dsimp only at hSw); go_simp <;> with_reducible rfl)
                  try simp only [Act.put, List.setIfInBounds_toArray, List.set_cons_zero, List.set_cons_succ]
                  refine wpAnyH_take (i := 43) (v := ?vrbb44) (by simp only [List.getElem?_toArray, List.getElem?_cons_zero, List.getElem?_cons_succ]; rfl) (by kernel_rfl) (by kernel_rfl) (by kernel_rfl) (fun _ _ _ h => h) (Or.inl ⟨by rfl, ?hrbb44⟩) hHeld0 ?qrbb44
                  case hrbb44 => (intro w hSw; (try dsimp only at hSw); go_simp <;> with_reducible rfl)
                  try simp only [Act.put, List.setIfInBounds_toArray, List.set_cons_zero, List.set_cons_succ]
                  refine wpAnyH_take (i := 44) (v := ?vrbb45) (by simp only [List.getElem?_toArray, List.getElem?_cons_zero, List.getElem?_cons_succ]; rfl) (by kernel_rfl) (by kernel_rfl) (by kernel_rfl) (fun _ _ _ h => h) (Or.inl ⟨by rfl, ?hrbb45⟩) hHeld0 ?qrbb45
                  case hrbb45 => (intro w hSw; (try dsimp only at hSw); go_simp <;> with_reducible rfl)
                  try simp only [Act.put, List.setIfInBounds_toArray, List.set_cons_zero, List.set_cons_succ]
                  refine wpAnyH_take (i := 45) (v := ?vrbb46) (by simp only [List.getElem?_toArray, List.getElem?_cons_zero, List.getElem?_cons_succ]; rfl) (by kernel_rfl) (by kernel_rfl) (by kernel_rfl) (fun _ _ _ h => h) (Or.inl ⟨by rfl, ?hrbb46⟩) hHeld0 ?qrbb46
                  case hrbb46 => (intro w hSw; (try dsimp only at hSw); go_simp <;> with_reducible rfl)
                  try simp only [Act.put, List.setIfInBounds_toArray, List.set_cons_zero, List.set_cons_succ]
                  refine wpAnyH_take (i := 46) (v := ?vrbb47) (by simp only [List.getElem?_toArray, List.getElem?_cons_zero, List.getElem?_cons_succ]; rfl) (by kernel_rfl) (by kernel_rfl) (by kernel_rfl) (fun _ _ _ h => h) (Or.inl ⟨by rfl, ?hrbb47⟩) hHeld0 ?qrbb47
                  case hrbb47 => (intro w hSw; (try dsimp only at hSw); go_simp <;> with_reducible rfl)
                  try simp only [Act.put, List.setIfInBounds_toArray, List.set_cons_zero, List.set_cons_succ]
                  refine wpAnyH_take (i := 47) (v := ?vrbb48) (by simp only [List.getElem?_toArray, List.getElem?_cons_zero, List.getElem?_cons_succ]; rfl) (by kernel_rfl) (by kernel_rfl) (by kernel_rfl) (fun _ _ _ h => h) (Or.inl ⟨by rfl, ?hrbb48⟩) hHeld0 ?qrbb48
                  case hrbb48 => (intro w hSw; (try dsimp only at hSw); go_simp <;> with_reducible rfl)
                  try simp only [Act.put, List.setIfInBounds_toArray, List.set_cons_zero, List.set_cons_succ]
                  refine wpAnyH_take (i := 48) (v := ?vrbb49) (by simp only [List.getElem?_toArray, List.getElem?_cons_zero, List.getElem?_cons_succ]; rfl) (by kernel_rfl) (by kernel_rfl) (by kernel_rfl) (fun _ _ _ h => h) (Or.inl ⟨by rfl, ?hrbb49⟩) hHeld0 ?qrbb49
                  case hrbb49 => (intro w hSw; (try dsimp only at hSw); go_simp <;> with_reducible rfl)
                  try simp only [Act.put, List.setIfInBounds_toArray, List.set_cons_zero, List.set_cons_succ]
                  refine wpAnyH_take (i := 49) (v := ?vrbb50) (by simp only [List.getElem?_toArray, List.getElem?_cons_zero, List.getElem?_cons_succ]; rfl) (by kernel_rfl) (by kernel_rfl) (by kernel_rfl) (fun _ _ _ h => h) (Or.inl ⟨by rfl, ?hrbb50⟩) hHeld0 ?qrbb50
                  case hrbb50 => (intro w hSw; (try dsimp only at hSw); go_simp <;> with_reducible rfl)
                  try simp only [Act.put, List.setIfInBounds_toArray, List.set_cons_zero, List.set_cons_succ]
                  refine wpAnyH_take (i := 50) (v := ?vrbb51) (by simp only [List.getElem?_toArray, List.getElem?_cons_zero, List.getElem?_cons_succ]; rfl) (by kernel_rfl) (by kernel_rfl) (by kernel_rfl) (fun _ _ _ h => h) (Or.inl ⟨by rfl, ?hrbb51⟩) hHeld0 ?qrbb51
                  case hrbb51 => (intro w hSw; (try dsimp only at hSw); go_simp <;> with_reducible rfl)
                  try simp only [Act.put, List.setIfInBounds_toArray, List.set_cons_zero, List.set_cons_succ]
                  refine wpAnyH_take (i := 51) (v := ?vrbb52) (by simp only [List.getElem?_toArray, List.getElem?_cons_zero, List.getElem?_cons_succ]; rfl) (by kernel_rfl) (by kernel_rfl) (by kernel_rfl) (fun _ _ _ h => h) (Or.inl ⟨by rfl, ?hrbb52⟩) hHeld0 ?qrbb52
                  case hrbb52 => (intro w hSw; (try dsimp only at hSw); go_simp <;> with_reducible rfl)
                  try simp only [Act.put, List.setIfInBounds_toArray, List.set_cons_zero, List.set_cons_succ]
                  refine wpAnyH_take (i := 52) (v := ?vrbb53) (by simp only [List.getElem?_toArray, List.getElem?_cons_zero, List.getElem?_cons_succ]; rfl) (by kernel_rfl) (by kernel_rfl) (by kernel_rfl) (fun _ _ _ h => h) (Or.inl ⟨by rfl, ?hrbb53⟩) hHeld0 ?qrbb53
                  case hrbb53 => (intro w hSw; (try dsimp only at hSw); go_simp <;> with_reducible rfl)
                  try simp only [Act.put, List.setIfInBounds_toArray, List.set_cons_zero, List.set_cons_succ]
                  refine wpAnyH_take (i := 53) (v := .bool false) (by simp only [List.getElem?_toArray, List.getElem?_cons_zero, List.getElem?_cons_succ]; rfl) (by kernel_rfl) (by kernel_rfl) (by kernel_rfl) (fun _ _ _ h => h) (Or.inl ⟨by rfl, ?hrbb54⟩) hHeld0 ?qrbb54
                  case hrbb54 => (intro w hSw; (try dsimp only at hSw); go_simp; (try simp [q6]))
                  try simp only [Act.put, List.setIfInBounds_toArray, List.set_cons_zero, List.set_cons_succ]
                  refine wpAnyH_take (i := 54) (v := ?vrbb55) (by simp only [List.getElem?_toArray, List.getElem?_cons_zero, List.getElem?_cons_succ]; rfl) (by kernel_rfl) (by kernel_rfl) (by kernel_rfl) (fun _ _ _ h => h) (Or.inl ⟨by rfl, ?hrbb55⟩) hHeld0 ?qrbb55
                  case hrbb55 => (intro w hSw; (try dsimp only at hSw); go_simp <;> with_reducible rfl)
                  try simp only [Act.put, List.setIfInBounds_toArray, List.set_cons_zero, List.set_cons_succ]
                  refine wpAnyH_take (i := 55) (v := ?vrbb56) (by simp only [List.getElem?_toArray, List.getElem?_cons_zero, List.getElem?_cons_succ]; rfl) (by kernel_rfl) (by kernel_rfl) (by kernel_rfl) (fun _ _ _ h => h) (Or.inl ⟨by rfl, ?hrbb56⟩) hHeld0 ?qrbb56
                  case hrbb56 => (intro w hSw; (try dsimp only at hSw); go_simp <;> with_reducible rfl)
                  try simp only [Act.put, List.setIfInBounds_toArray, List.set_cons_zero, List.set_cons_succ]
                  refine wpAnyH_done (by kernel_rfl) ?_ _
                  refine NoPanic.normal ?_
                  go_wp2_with fail
                  refine wp_region_noPanic ?_
                  refine wp_region_held_drew (S := (fun w' => w'.cell? ea = some (.int .i64 zs) ∧ w'.cell? ⟨ea.block, ea.off + 1, none⟩ = some (.int .i64 zb))) (by kernel_rfl) ?rbbzs0 (fun hHeld0 => ?rbbzr0)
                  case rbbzs0 => (try dsimp only) <;> exact ⟨v0, v1⟩
                  refine wpAnyH_take (i := 0) (v := ?vrbbz1) (by simp only [List.getElem?_toArray, List.getElem?_cons_zero, List.getElem?_cons_succ]; rfl) (by kernel_rfl) (by kernel_rfl) (by kernel_rfl) (fun _ _ _ h => h) (Or.inl ⟨by rfl, ?hrbbz1⟩) hHeld0 ?qrbbz1
                  case hrbbz1 => (intro w hSw; (try dsimp only at hSw); go_simp <;> with_reducible rfl)
                  try simp only [Act.put, List.setIfInBounds_toArray, List.set_cons_zero, List.set_cons_succ]
                  refine wpAnyH_take (i := 1) (v := ?vrbbz2) (by simp only [List.getElem?_toArray, List.getElem?_cons_zero, List.getElem?_cons_succ]; rfl) (by kernel_rfl) (by kernel_rfl) (by kernel_rfl) (fun _ _ _ h => h) (Or.inl ⟨by rfl, ?hrbbz2⟩) hHeld0 ?qrbbz2
                  case hrbbz2 => (intro w hSw; (try dsimp only at hSw); go_simp <;> with_reducible rfl)
                  try simp only [Act.put, List.setIfInBounds_toArray, List.set_cons_zero, List.set_cons_succ]
                  refine wpAnyH_take (i := 2) (v := ?vrbbz3) (by simp only [List.getElem?_toArray, List.getElem?_cons_zero, List.getElem?_cons_succ]; rfl) (by kernel_rfl) (by kernel_rfl) (by kernel_rfl) (fun _ _ _ h => h) (Or.inl ⟨by rfl, ?hrbbz3⟩) hHeld0 ?qrbbz3
                  case hrbbz3 => (intro w hSw; (try dsimp only at hSw); go_simp <;> with_reducible rfl)
                  try simp only [Act.put, List.setIfInBounds_toArray, List.set_cons_zero, List.set_cons_succ]
                  refine wpAnyH_take (i := 3) (v := ?vrbbz4) (by simp only [List.getElem?_toArray, List.getElem?_cons_zero, List.getElem?_cons_succ]; rfl) (by kernel_rfl) (by kernel_rfl) (by kernel_rfl) (fun _ _ _ h => h) (Or.inl ⟨by rfl, ?hrbbz4⟩) hHeld0 ?qrbbz4
                  case hrbbz4 => (intro w hSw; (try dsimp only at hSw); go_simp <;> with_reducible rfl)
                  try simp only [Act.put, List.setIfInBounds_toArray, List.set_cons_zero, List.set_cons_succ]
                  refine wpAnyH_take (i := 4) (v := ?vrbbz5) (by simp only [List.getElem?_toArray, List.getElem?_cons_zero, List.getElem?_cons_succ]; rfl) (by kernel_rfl) (by kernel_rfl) (by kernel_rfl) (fun _ _ _ h => h) (Or.inl ⟨by rfl, ?hrbbz5⟩) hHeld0 ?qrbbz5
                  case hrbbz5 => (intro w hSw; (try dsimp only at hSw); go_simp <;> with_reducible rfl)
                  try simp only [Act.put, List.setIfInBounds_toArray, List.set_cons_zero, List.set_cons_succ]
                  refine wpAnyH_take (i := 5) (v := ?vrbbz6) (by simp only [List.getElem?_toArray, List.getElem?_cons_zero, List.getElem?_cons_succ]; rfl) (by kernel_rfl) (by kernel_rfl) (by kernel_rfl) (fun _ _ _ h => h) (Or.inl ⟨by rfl, ?hrbbz6⟩) hHeld0 ?qrbbz6
                  case hrbbz6 => (intro w hSw; (try dsimp only at hSw); go_simp <;> with_reducible rfl)
                  try simp only [Act.put, List.setIfInBounds_toArray, List.set_cons_zero, List.set_cons_succ]
                  refine wpAnyH_take (i := 6) (v := ?vrbbz7) (by simp only [List.getElem?_toArray, List.getElem?_cons_zero, List.getElem?_cons_succ]; rfl) (by kernel_rfl) (by kernel_rfl) (by kernel_rfl) (fun _ _ _ h => h) (Or.inl ⟨by rfl, ?hrbbz7⟩) hHeld0 ?qrbbz7
                  case hrbbz7 => (intro w hSw; (try dsimp only at hSw); go_simp <;> with_reducible rfl)
                  try simp only [Act.put, List.setIfInBounds_toArray, List.set_cons_zero, List.set_cons_succ]
                  refine wpAnyH_take (i := 7) (v := ?vrbbz8) (by simp only [List.getElem?_toArray, List.getElem?_cons_zero, List.getElem?_cons_succ]; rfl) (by kernel_rfl) (by kernel_rfl) (by kernel_rfl) (fun _ _ _ h => h) (Or.inl ⟨by rfl, ?hrbbz8⟩) hHeld0 ?qrbbz8
                  case hrbbz8 => (intro w hSw; (try dsimp only at hSw); go_simp <;> with_reducible rfl)
                  try simp only [Act.put, List.setIfInBounds_toArray, List.set_cons_zero, List.set_cons_succ]
                  refine wpAnyH_take (i := 8) (v := ?vrbbz9) (by simp only [List.getElem?_toArray, List.getElem?_cons_zero, List.getElem?_cons_succ]; rfl) (by kernel_rfl) (by kernel_rfl) (by kernel_rfl) (fun _ _ _ h => h) (Or.inl ⟨by rfl, ?hrbbz9⟩) hHeld0 ?qrbbz9
                  case hrbbz9 => (intro w hSw; (try dsimp only at hSw); go_simp <;> with_reducible rfl)
                  try simp only [Act.put, List.setIfInBounds_toArray, List.set_cons_zero, List.set_cons_succ]
                  refine wpAnyH_take (i := 9) (v := ?vrbbz10) (by simp only [List.getElem?_toArray, List.getElem?_cons_zero, List.getElem?_cons_succ]; rfl) (by kernel_rfl) (by kernel_rfl) (by kernel_rfl) (fun _ _ _ h => h) (Or.inl ⟨by rfl, ?hrbbz10⟩) hHeld0 ?qrbbz10
                  case hrbbz10 => (intro w hSw; (try dsimp only at hSw); go_simp <;> with_reducible rfl)
                  try simp only [Act.put, List.setIfInBounds_toArray, List.set_cons_zero, List.set_cons_succ]
                  refine wpAnyH_take (i := 10) (v := ?vrbbz11) (by simp only [List.getElem?_toArray, List.getElem?_cons_zero, List.getElem?_cons_succ]; rfl) (by kernel_rfl) (by kernel_rfl) (by kernel_rfl) (fun _ _ _ h => h) (Or.inl ⟨by rfl, ?hrbbz11⟩) hHeld0 ?qrbbz11
                  case hrbbz11 => (intro w hSw; (try dsimp only at hSw); go_simp <;> with_reducible rfl)
                  try simp only [Act.put, List.setIfInBounds_toArray, List.set_cons_zero, List.set_cons_succ]
                  refine wpAnyH_ready (rs := [11]) (by kernel_rfl) (by simp) ?_
                  refine AllReadyH.cons (by simp only [List.getElem?_toArray, List.getElem?_cons_zero, List.getElem?_cons_succ]; rfl) (fun K hK => ?_) AllReadyH.nil
                  go_simp

                  refine hK.out _ _ ?srbbz12 (fun hHeld1 => ?qrbbz12)
                  case srbbz12 => (try dsimp only) <;> exact ⟨HKS.out _ _ _ v0 hbl, HKS.out _ _ _ v1 hbl⟩
                  clear hK K
                  try simp only [Act.put, List.setIfInBounds_toArray, List.set_cons_zero, List.set_cons_succ]
                  refine wpAnyH_done (by kernel_rfl) ?_ _
                  refine NoPanic.normal ?_
                  go_wp2_with fail
                  exact ⟨⟨j + 1 + 1, _, by omega, by simp, Lib.hid (HX3.out.set s zb), HPUT, Lib.hid (HK3.out.trans ((((Keep.refl (fun b => b = X) wr).drew).drew.setCell ⟨X, s, none⟩ (.int .i64 zb) (.inl rfl))) (fun _ h => .inl h))⟩, by simp [intOf]; omega⟩
              · have hlti : ¬ (k : Int) < (hv.length : Int) := by omega
                go_wp2_with fail
                exact ⟨⟨p2, i + 1, F2, f, h2, by omega, rfl, by simp, Lib.hid (HA5.out.keep HK3.out (fun j hj e => HF5.out (e ▸ hj))), HX3, HF5, HRI, Lib.hid (HB5.out.trans (HK3.out.to_below HB5.out.size (fun b hb => by have e : b = X := hb; rw [e]; exact HXB.out)))⟩, by simp [intOf]; omega⟩
      · go_wp2_with fail
        go_ret
        exact ⟨rfl, HB0.out.trans (HBR.out.mono HB0.out.size)⟩
    · go_wp2_with fail
      go_ret
      exact ⟨rfl, HB0.out.trans (HBR.out.mono HB0.out.size)⟩
end Go.Proofs.YtgkhkcoojfjofaaDoor
