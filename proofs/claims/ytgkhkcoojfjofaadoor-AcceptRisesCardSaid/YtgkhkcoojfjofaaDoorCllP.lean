/- Calls as they are read; what Accept and Prepare answer, whatever is asked. -/
import Derived.Test.YtgkhkcoojfjofaaDoorPreG
import Derived.Test.YtgkhkcoojfjofaaDoorOpnV
import Derived.Test.YtgkhkcoojfjofaaDoorOpen
set_option linter.unusedVariables false
set_option linter.unusedSimpArgs false
namespace Go.Proofs.YtgkhkcoojfjofaaDoor
open Go.ChangeShapes Go.WideShapes Go.ChangeAt
open Go.RowKit Go.Shelf Go.Proofs.YtgkhkcoojfjofaaDoorW.PrintWords Go.Proofs.Mine

/-- A call. -/
structure Co where
  ac : Bool
  v : Vo
def Co.cells (x : Co) (u : Value) : List Value := [.bool x.ac, .int .i64 x.v.b, .int .i64 x.v.s, .int .i64 x.v.kd, .int .i64 x.v.c, .int .i64 x.v.q, .string x.v.data, u, .int .i64 x.v.dst]
theorem Co.one {x : Co} {v : Value} (h : v.oneCell' = true) : ∀ u ∈ x.cells v, u.oneCell' = true := by
  intro u hu
  simp only [Co.cells, List.mem_cons, List.not_mem_nil, or_false] at hu
  rcases hu with rfl | rfl | rfl | rfl | rfl | rfl | rfl | rfl | rfl <;> first | rfl | exact h
def coK : Kd Co where
  sz := 9
  E := [3]
  K := fun w x cs => ∃ A c, cs = x.cells (.slice A x.v.mem.length c) ∧ x.v.mem.length ≤ c ∧ ReadsInt w .i64 A x.v.mem.length x.v.mem
  M := fun w base ok x cs => ∃ v, cs = x.cells v ∧ w.ownsRow base 3 1 v x.v.mem.length (nums .i64 x.v.mem) ∧ ∀ k, v.ownBlock = some k → ok k
  K_len := by rintro w x cs ⟨A, c, rfl, _⟩; rfl
  K_one := by rintro w x cs ⟨A, c, rfl, _⟩; exact Co.one rfl
  K_below := by rintro w w1 x cs hb ⟨A, c, rfl, h1, h2⟩; exact ⟨A, c, rfl, h1, h2.below hb⟩
  K_of_M := by
    rintro w base ok x cs ⟨v, rfl, ho, _⟩
    obtain ⟨A, c, rfl, hr⟩ := own_reads ho
    refine ⟨A, c, rfl, ?_, hr⟩
    rcases ho.2 with ⟨h, h2⟩ | ⟨g, cap, cur, h, _, _, h1, _⟩
    · rw [h2]; omega
    · injection h with _ _ h3; omega
  M_mono := by rintro w base ok ok' x cs hk ⟨v, rfl, ho, h⟩; exact ⟨v, rfl, ho, fun k hk' => hk k (h k hk')⟩
  M_bound := by
    rintro w base ok x cs ⟨v, rfl, ho, h⟩
    exact ⟨v, rfl, ho, fun k hk => ⟨h k hk, own_base ho k hk, own_lt ho k hk, 3, by simp, own_typed ho k hk⟩⟩
  M_move := by rintro w w1 base ok x cs hm ⟨v, rfl, ho, h⟩; exact ⟨v, rfl, own_move ho (fun k hk => hm k (h k hk)), h⟩
  M_lower := by rintro w base base' ok x cs hb ⟨v, rfl, ho, h⟩; exact ⟨v, rfl, own_less ho hb, h⟩
structure Ch where
  ac : Bool
  v : Vh
def Ch.cells (x : Ch) : List Value := [.bool x.ac, .int .i64 x.v.b, .int .i64 x.v.s, .int .i64 x.v.kd, .int .i64 x.v.c, .int .i64 x.v.q, .string x.v.data, .slice x.v.A x.v.mem.length x.v.cap, .int .i64 x.v.dst]
abbrev CRow (w : World) (A : Option Addr) (n : Nat) (hs : List Ch) : Prop := ReadsRow (fun (x : Ch) cs => cs = x.cells) 9 w A n hs
def CIn (w : World) (hs : List Ch) : Prop := ∀ x ∈ hs, ReadsInt w .i64 x.v.A x.v.mem.length x.v.mem
theorem CRow.below {w w1 : World} {A : Option Addr} {n : Nat} {hs : List Ch} (h : CRow w A n hs) (hB : Below w.heap.size w w1) : CRow w1 A n hs := ReadsRow.imp_ h hB (fun _ _ h => h)
theorem ch_of {w : World} {A : Option Addr} {n : Nat} {xs : List Co} (h : coK.C w A n xs) : ∃ hs : List Ch, CRow w A n hs ∧ CIn w hs := by
  have hn := h.1
  have key : ∀ j, j < n → ∃ y : Ch, ReadsInt w .i64 y.v.A y.v.mem.length y.v.mem ∧ ∀ ad, A = some ad → ∀ i u, y.cells[i]? = some u → w.cell? (ad.add (j * 9 + i)) = some u := by
    intro j hj
    obtain ⟨ad, hA, hc⟩ := h.2.2 (by omega)
    have hx : xs[j]? = some xs[j] := List.getElem?_eq_getElem (by omega)
    obtain ⟨cs, _, ⟨B, c, rfl, hle, hR⟩, hcell⟩ := hc j _ hx
    refine ⟨⟨xs[j].ac, ⟨xs[j].v.s, xs[j].v.b, xs[j].v.kd, xs[j].v.c, xs[j].v.q, xs[j].v.data, B, c, xs[j].v.mem, xs[j].v.dst⟩⟩, hR, fun ad' e i u hu => ?_⟩
    rw [hA] at e
    injection e with e
    subst e
    exact hcell i u hu
  obtain ⟨hs, h1, h2⟩ := vlist_of n _ key
  refine ⟨hs, ⟨h1, h.2.1, fun hp => ?_⟩, fun y hy => ?_⟩
  · obtain ⟨ad, hA, _⟩ := h.2.2 hp
    exact ⟨ad, hA, fun j y hy => ⟨y.cells, rfl, rfl, (h2 j y hy).2 ad hA⟩⟩
  · obtain ⟨j, hj⟩ := List.mem_iff_getElem?.1 hy
    exact (h2 j y hj).1
/-- A call's nine cells at an address. -/
def CAt (w : World) (a : Addr) (x : Ch) : Prop :=
  w.cell? a = some (.bool x.ac) ∧ w.cell? ⟨a.block, a.off + 1, none⟩ = some (.int .i64 x.v.b) ∧ w.cell? ⟨a.block, a.off + 2, none⟩ = some (.int .i64 x.v.s) ∧ w.cell? ⟨a.block, a.off + 3, none⟩ = some (.int .i64 x.v.kd) ∧ w.cell? ⟨a.block, a.off + 4, none⟩ = some (.int .i64 x.v.c) ∧ w.cell? ⟨a.block, a.off + 5, none⟩ = some (.int .i64 x.v.q) ∧ w.cell? ⟨a.block, a.off + 6, none⟩ = some (.string x.v.data) ∧ w.cell? ⟨a.block, a.off + 7, none⟩ = some (.slice x.v.A x.v.mem.length x.v.cap) ∧ w.cell? ⟨a.block, a.off + 8, none⟩ = some (.int .i64 x.v.dst)
theorem ch_at {w : World} {A : Option Addr} {n : Nat} {hs : List Ch} (h : CRow w A n hs) {i : Nat} {x : Ch} (hx : hs[i]? = some x) : ∃ ad, A = some ad ∧ CAt w (ad.add (i * 9)) x := by
  obtain ⟨hl, _⟩ := List.getElem?_eq_some_iff.1 hx
  obtain ⟨ad, hA, hc⟩ := h.2.2 (by have := h.1; omega)
  obtain ⟨cs, _, rfl, h3⟩ := hc i x hx
  have h4 : ∀ j u, x.cells[j]? = some u → w.cell? ((ad.add (i * 9)).add j) = some u := fun j u hu => by
    rw [vadd_add]
    exact h3 j u hu
  refine ⟨ad, hA, by simpa [Addr.add] using h4 0 _ rfl, ?_, ?_, ?_, ?_, ?_, ?_, ?_, ?_⟩
  · simpa [Addr.add] using h4 1 _ rfl
  · simpa [Addr.add] using h4 2 _ rfl
  · simpa [Addr.add] using h4 3 _ rfl
  · simpa [Addr.add] using h4 4 _ rfl
  · simpa [Addr.add] using h4 5 _ rfl
  · simpa [Addr.add] using h4 6 _ rfl
  · simpa [Addr.add] using h4 7 _ rfl
  · simpa [Addr.add] using h4 8 _ rfl
theorem nine {α : Type} {l : List α} (h : l.length = 9) : ∃ a0 a1 a2 a3 a4 a5 a6 a7 a8, l = [a0, a1, a2, a3, a4, a5, a6, a7, a8] := by
  match l, h with
  | [a0, a1, a2, a3, a4, a5, a6, a7, a8], _ => exact ⟨a0, a1, a2, a3, a4, a5, a6, a7, a8, rfl⟩
theorem opensCo : Opens Tryd.prog 31 coK := by
  refine ⟨by kernel_rfl, fun {H enc w base spare held fuel cs x} h => ?_⟩
  obtain ⟨xs, n, _, _, hl, hlen, hf⟩ := DataW.trod_struct Tryd.underlying31 h
  have h8 : cs.length = 9 := hl.trans (by kernel_rfl)
  have hx3 : xs.length = 4 := hlen
  have k3 : Tryd.prog.cellsOf 3 = 1 := by kernel_rfl
  have k9 : Tryd.prog.cellsOf 9 = 1 := by kernel_rfl
  have kI : Tryd.prog.cellsOf 27 = 1 := by kernel_rfl
  have kE : Tryd.prog.cellsOf 29 = 6 := by kernel_rfl
  have at_ : ∀ i, i < 4 → ∃ y, xs[i]? = some y := fun i hi => ⟨_, List.getElem?_eq_getElem (by omega)⟩
  obtain ⟨bb, b0, b1, a0, a1, a2, a3, a4, a5, rfl⟩ := nine h8
  have k4 : Tryd.prog.cellsOf 4 = 1 := by kernel_rfl
  have dd : DataW.trod enc Tryd.prog w base spare held n 4 (List.take (Tryd.prog.cellsOf 4) [bb, b0, b1, a0, a1, a2, a3, a4, a5]) = xs[0]? := hf 0 _ rfl
  have d0 : DataW.trod enc Tryd.prog w base spare held n 3 (List.take (Tryd.prog.cellsOf 3) [b0, b1, a0, a1, a2, a3, a4, a5]) = xs[1]? := hf 1 _ rfl
  have d1 : DataW.trod enc Tryd.prog w base spare held n 3 (List.take (Tryd.prog.cellsOf 3) [b1, a0, a1, a2, a3, a4, a5]) = xs[2]? := hf 2 _ rfl
  have d2 : DataW.trod enc Tryd.prog w base spare held n 29 (List.take (Tryd.prog.cellsOf 29) [a0, a1, a2, a3, a4, a5]) = xs[3]? := hf 3 _ rfl
  rw [k3] at d0 d1
  rw [k4] at dd
  obtain ⟨wb, eb⟩ := at_ 0 (by decide)
  obtain ⟨sb, pb, _⟩ := DataW.trod_bool Tryd.underlying4 (dd.trans eb)
  rw [kE] at d2
  obtain ⟨w0, e0⟩ := at_ 1 (by decide)
  obtain ⟨w1, e1⟩ := at_ 2 (by decide)
  obtain ⟨w2, e2⟩ := at_ 3 (by decide)
  obtain ⟨s0, p0, _⟩ := DataW.trod_int Tryd.underlying3 (d0.trans e0)
  obtain ⟨s1, p1, _⟩ := DataW.trod_int Tryd.underlying3 (d1.trans e1)
  have d3 : DataW.trod enc Tryd.prog w base spare held n 29 [a0, a1, a2, a3, a4, a5] = some w2 := d2.trans e2
  obtain ⟨ys, m, _, _, hl', hlen', hf'⟩ := DataW.trod_struct Tryd.underlying29 d3
  have hy6 : ys.length = 6 := hlen'
  have aty : ∀ i, i < 6 → ∃ y, ys[i]? = some y := fun i hi => ⟨_, List.getElem?_eq_getElem (by omega)⟩
  have c0 : DataW.trod enc Tryd.prog w base spare held m 3 (List.take (Tryd.prog.cellsOf 3) [a0, a1, a2, a3, a4, a5]) = ys[0]? := hf' 0 _ rfl
  have c1 : DataW.trod enc Tryd.prog w base spare held m 3 (List.take (Tryd.prog.cellsOf 3) [a1, a2, a3, a4, a5]) = ys[1]? := hf' 1 _ rfl
  have c2 : DataW.trod enc Tryd.prog w base spare held m 3 (List.take (Tryd.prog.cellsOf 3) [a2, a3, a4, a5]) = ys[2]? := hf' 2 _ rfl
  have c3 : DataW.trod enc Tryd.prog w base spare held m 9 (List.take (Tryd.prog.cellsOf 9) [a3, a4, a5]) = ys[3]? := hf' 3 _ rfl
  have c4 : DataW.trod enc Tryd.prog w base spare held m 27 (List.take (Tryd.prog.cellsOf 27) [a4, a5]) = ys[4]? := hf' 4 _ rfl
  have c5 : DataW.trod enc Tryd.prog w base spare held m 3 (List.take (Tryd.prog.cellsOf 3) [a5]) = ys[5]? := hf' 5 _ rfl
  rw [k3] at c0 c1 c2 c5
  rw [k9] at c3
  rw [kI] at c4
  obtain ⟨y0, f0⟩ := aty 0 (by decide)
  obtain ⟨y1, f1⟩ := aty 1 (by decide)
  obtain ⟨y2, f2⟩ := aty 2 (by decide)
  obtain ⟨y3, f3⟩ := aty 3 (by decide)
  obtain ⟨y4, f4⟩ := aty 4 (by decide)
  obtain ⟨y5, f5⟩ := aty 5 (by decide)
  obtain ⟨v0, g0, _⟩ := DataW.trod_int Tryd.underlying3 (c0.trans f0)
  obtain ⟨v1, g1, _⟩ := DataW.trod_int Tryd.underlying3 (c1.trans f1)
  obtain ⟨v2, g2, _⟩ := DataW.trod_int Tryd.underlying3 (c2.trans f2)
  obtain ⟨v3, g3⟩ := (Opens.string Tryd.underlying9 k9).op (c3.trans f3)
  obtain ⟨v5, g5, _⟩ := DataW.trod_int Tryd.underlying3 (c5.trans f5)
  obtain ⟨v4, g4⟩ := (Opens.slice Tryd.underlying27 kI (Opens.int Tryd.underlying3 k3)).op (c4.trans f4)
  obtain rfl : bb = _ := List.singleton_inj.1 pb
  obtain rfl : b0 = _ := List.singleton_inj.1 p0
  obtain rfl : b1 = _ := List.singleton_inj.1 p1
  obtain rfl : a0 = _ := List.singleton_inj.1 g0
  obtain rfl : a1 = _ := List.singleton_inj.1 g1
  obtain rfl : a2 = _ := List.singleton_inj.1 g2
  obtain rfl : a5 = _ := List.singleton_inj.1 g5
  have g3' : a3 = _ := List.singleton_inj.1 g3
  obtain ⟨A, c, g4', hle, hC⟩ := g4
  have g4'' : a4 = _ := List.singleton_inj.1 g4'
  subst g3' g4''
  exact ⟨⟨sb, ⟨s1, s0, v0, v1, v2, v3, v4, v5⟩⟩, A, c, rfl, hle, reads_of_C hC⟩
theorem AcT.of_below {base b : Nat} {p : Int} {f : Int → Option Vh} {w w' : World} {F : Nat → Prop} (h : AcG w base F b p f) (hB : Below w.heap.size w w') : AcT base b p f w F w' := ⟨F, h.below hB, fun k hk => .inl hk, Keep.of_below hB F⟩
/-- What Accept answers. -/
theorem accept_all (x : Vh) (b : Nat) (p : Int) (f : Int → Option Vh) (base : Nat) (F : Nat → Prop) (w : World) (h : AcG w base F b p f) (hb : base ≤ w.heap.size) (hg : Laid w) (hr : ReadsInt w .i64 x.A x.mem.length x.mem) (hn : x.mem.length ≤ 1000000) (hoff : 0 < x.mem.length → ∀ a, x.A = some a → ¬ F a.block) :
    Calls Tryd.prog 12 #[.pointer (some ⟨b, 0, none⟩), .int .i64 x.b, .int .i64 x.s, .agg #[.int .i64 x.kd, .int .i64 x.c, .int .i64 x.q, .string x.data, .slice x.A x.mem.length x.cap, .int .i64 x.dst]] w fun r w' => r = .returned (.int .i64 (accE p x.b x.s)) ∧ ((accE p x.b x.s = 0 ∧ 1 ≤ x.s ∧ x.s ≤ 64 ∧ 1 ≤ x.b ∧ p ≤ x.b ∧ ∃ A1 c1, AcT base b x.b (updI f x.s { x with A := A1, cap := c1 }) w F w') ∨ (accE p x.b x.s ≠ 0 ∧ AcT base b p f w F w')) := by
  unfold accE prpE
  by_cases h1 : x.s < 1 ∨ 64 < x.s
  · rw [if_pos h1]
    refine (accept_slot b x.b x.s (.slice x.A x.mem.length x.cap) w h1).mono ?_
    rintro r w' ⟨rfl, hB⟩
    exact ⟨rfl, .inr ⟨by decide, AcT.of_below h hB⟩⟩
  · rw [if_neg h1]
    by_cases h2 : x.b < 1
    · rw [if_pos h2]
      refine (accept_arg b x.b x.s x.kd x.c x.q x.dst x.data (.slice x.A x.mem.length x.cap) w hg h2 (by omega) (by omega)).mono ?_
      rintro r w' ⟨rfl, hB⟩
      exact ⟨rfl, .inr ⟨by decide, AcT.of_below h hB⟩⟩
    · rw [if_neg h2]
      by_cases h3 : x.b < p
      · rw [if_pos h3]
        refine (accept_stale b x.b p x.s .nilIface x.kd x.c x.q x.dst x.data (.slice x.A x.mem.length x.cap) w h.cell (by omega) h3 (by omega) (by omega)).mono ?_
        rintro r w' ⟨rfl, hB⟩
        exact ⟨rfl, .inr ⟨by decide, AcT.of_below h hB⟩⟩
      · rw [if_neg h3]
        refine (accept_g x b p f base F w h hb (by omega) (by omega) (by omega) (by omega) hr hn hoff).mono ?_
        rintro r w' ⟨rfl, A1, c1, hT⟩
        exact ⟨rfl, .inl ⟨rfl, by omega, by omega, by omega, by omega, A1, c1, hT⟩⟩
/-- What Prepare answers. -/
theorem prepare_all (b : Nat) (p n fr : Int) (f : Int → Option Vh) (base : Nat) (F : Nat → Prop) (w : World) (h : AcG w base F b p f) (hb : base ≤ w.heap.size) (hg : Laid w) (hsl : ∀ y z, f y = some z → 1 ≤ y ∧ y ≤ 64) :
    Calls Tryd.prog 13 #[.pointer (some ⟨b, 0, none⟩), .int .i64 n, .int .i64 fr] w fun r w' => ∃ v hv, r = .returned (.tuple #[v, .int .i64 (prpE p n)]) ∧ TellsAt w' w.heap.size v hv ∧ ((prpE p n = 0 ∧ 1 ≤ n ∧ p ≤ n ∧ Told (fromF f fr) (hv.map Vh.vo) ∧ AcT base b n f w F w') ∨ (prpE p n ≠ 0 ∧ hv = [] ∧ AcT base b p f w F w')) := by
  have hnil : ∀ w', TellsAt w' w.heap.size (.slice none 0 0) [] := fun w' => ⟨fun x hx => (by cases hx), by simp, .inl ⟨rfl, rfl⟩⟩
  unfold prpE
  by_cases h2 : n < 1
  · rw [if_pos h2]
    refine (prepare_arg b n fr w hg h2).mono ?_
    rintro r w' ⟨rfl, hB⟩
    exact ⟨_, [], rfl, hnil _, .inr ⟨by decide, rfl, AcT.of_below h hB⟩⟩
  · rw [if_neg h2]
    by_cases h3 : n < p
    · rw [if_pos h3]
      refine (prepare_old b p n fr h.cell (by omega) h3).mono ?_
      rintro r w' ⟨rfl, hB⟩
      exact ⟨_, [], rfl, hnil _, .inr ⟨by decide, rfl, AcT.of_below h hB⟩⟩
    · rw [if_neg h3]
      refine (prepare_g (n := n) (fr := fr) h hb hsl (by omega) (by omega)).mono ?_
      rintro r w' ⟨v, hv, rfl, hT, hD, hA⟩
      exact ⟨v, hv, rfl, hT, .inl ⟨rfl, by omega, by omega, hD, hA⟩⟩
end Go.Proofs.YtgkhkcoojfjofaaDoor
