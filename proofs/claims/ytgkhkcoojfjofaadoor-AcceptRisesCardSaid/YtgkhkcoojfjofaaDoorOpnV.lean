/- From a row of votes as data to the kind. -/
import Derived.Test.YtgkhkcoojfjofaaDoorPicL
import Derived.Test.YtgkhkcoojfjofaaDoorOpen
set_option linter.unusedVariables false
set_option linter.unusedSimpArgs false
namespace Go.Proofs.YtgkhkcoojfjofaaDoor
open Go.ChangeShapes Go.WideShapes Go.ChangeAt
open Go.RowKit Go.Proofs.YtgkhkcoojfjofaaDoorW.PrintWords Go.Proofs.Mine

theorem eight {α : Type} {l : List α} (h : l.length = 8) : ∃ a0 a1 a2 a3 a4 a5 a6 a7, l = [a0, a1, a2, a3, a4, a5, a6, a7] := by
  match l, h with
  | [a0, a1, a2, a3, a4, a5, a6, a7], _ => exact ⟨a0, a1, a2, a3, a4, a5, a6, a7, rfl⟩
theorem reads_of_C {w : World} {A : Option Addr} {l : List Int} (h : (Kd.int .i64).C w A l.length l) : ReadsInt w .i64 A l.length l := by
  refine ⟨rfl, h.2.1, fun hp => ?_⟩
  obtain ⟨ad, ha, hR⟩ := h.2.2 hp
  refine ⟨ad, ha, fun i hi => ?_⟩
  obtain ⟨c, hc, hk, hcell⟩ := hR i l[i] (List.getElem?_eq_getElem hi)
  have hk' : c = [.int .i64 l[i]] := hk
  subst hk'
  have h0 := hcell 0 _ rfl
  have e : l.getD i 0 = l[i] := by simp [List.getD_eq_getElem?_getD, hi]
  have e1 : i * (Kd.int .i64).sz + 0 = i := by
    show i * 1 + 0 = i
    omega
  rw [e1] at h0
  rw [e]; exact h0
theorem opensVo : Opens Tryd.prog 41 voK := by
  refine ⟨by kernel_rfl, fun {H enc w base spare held fuel cs x} h => ?_⟩
  obtain ⟨xs, n, _, _, hl, hlen, hf⟩ := DataW.trod_struct Tryd.underlying41 h
  have h8 : cs.length = 8 := hl.trans (by kernel_rfl)
  have hx3 : xs.length = 3 := hlen
  have k3 : Tryd.prog.cellsOf 3 = 1 := by kernel_rfl
  have k9 : Tryd.prog.cellsOf 9 = 1 := by kernel_rfl
  have kI : Tryd.prog.cellsOf 27 = 1 := by kernel_rfl
  have kE : Tryd.prog.cellsOf 29 = 6 := by kernel_rfl
  have at_ : ∀ i, i < 3 → ∃ y, xs[i]? = some y := fun i hi => ⟨_, List.getElem?_eq_getElem (by omega)⟩
  obtain ⟨b0, b1, a0, a1, a2, a3, a4, a5, rfl⟩ := eight h8
  have d0 : DataW.trod enc Tryd.prog w base spare held n 3 (List.take (Tryd.prog.cellsOf 3) [b0, b1, a0, a1, a2, a3, a4, a5]) = xs[0]? := hf 0 _ rfl
  have d1 : DataW.trod enc Tryd.prog w base spare held n 3 (List.take (Tryd.prog.cellsOf 3) [b1, a0, a1, a2, a3, a4, a5]) = xs[1]? := hf 1 _ rfl
  have d2 : DataW.trod enc Tryd.prog w base spare held n 29 (List.take (Tryd.prog.cellsOf 29) [a0, a1, a2, a3, a4, a5]) = xs[2]? := hf 2 _ rfl
  rw [k3] at d0 d1
  rw [kE] at d2
  obtain ⟨w0, e0⟩ := at_ 0 (by decide)
  obtain ⟨w1, e1⟩ := at_ 1 (by decide)
  obtain ⟨w2, e2⟩ := at_ 2 (by decide)
  obtain ⟨s0, p0, _⟩ := DataW.trod_int Tryd.underlying3 (d0.trans e0)
  obtain ⟨s1, p1, _⟩ := DataW.trod_int Tryd.underlying3 (d1.trans e1)
  have d3 : DataW.trod enc Tryd.prog w base spare held n 29 [a0, a1, a2, a3, a4, a5] = some w2 := d2.trans e2
  obtain ⟨ys, m, _, _, hl', hlen', hf'⟩ := DataW.trod_struct Tryd.underlying29 d3
  have hy6 : ys.length = 6 := hlen'
  have aty : ∀ i, i < 6 → ∃ y, ys[i]? = some y := fun i hi => ⟨_, List.getElem?_eq_getElem (by omega)⟩
  have c0 : DataW.trod enc Tryd.prog w base spare held m 3 (List.take (Tryd.prog.cellsOf 3) [a0, a1, a2, a3, a4, a5]) = ys[0]? := hf' 0 _ rfl
  have c1 : DataW.trod enc Tryd.prog w base spare held m 3 (List.take (Tryd.prog.cellsOf 3) [a1, a2, a3, a4, a5]) = ys[1]? := hf' 1 _ rfl
  have c2 : DataW.trod enc Tryd.prog w base spare held m 3 (List.take (Tryd.prog.cellsOf 3) [a2, a3, a4, a5]) = ys[2]? := hf' 2 _ rfl
  have c3 : DataW.trod enc Tryd.prog w base spare held m 9 (List.take (Tryd.prog.cellsOf 9) [a3, a4, a5]) = ys[3]? := hf' 3 _ rfl
  have c4 : DataW.trod enc Tryd.prog w base spare held m 27 (List.take (Tryd.prog.cellsOf 27) [a4, a5]) = ys[4]? := hf' 4 _ rfl
  have c5 : DataW.trod enc Tryd.prog w base spare held m 3 (List.take (Tryd.prog.cellsOf 3) [a5]) = ys[5]? := hf' 5 _ rfl
  rw [k3] at c0 c1 c2 c5
  rw [k9] at c3
  rw [kI] at c4
  obtain ⟨y0, f0⟩ := aty 0 (by decide)
  obtain ⟨y1, f1⟩ := aty 1 (by decide)
  obtain ⟨y2, f2⟩ := aty 2 (by decide)
  obtain ⟨y3, f3⟩ := aty 3 (by decide)
  obtain ⟨y4, f4⟩ := aty 4 (by decide)
  obtain ⟨y5, f5⟩ := aty 5 (by decide)
  obtain ⟨v0, g0, _⟩ := DataW.trod_int Tryd.underlying3 (c0.trans f0)
  obtain ⟨v1, g1, _⟩ := DataW.trod_int Tryd.underlying3 (c1.trans f1)
  obtain ⟨v2, g2, _⟩ := DataW.trod_int Tryd.underlying3 (c2.trans f2)
  obtain ⟨v3, g3⟩ := (Opens.string Tryd.underlying9 k9).op (c3.trans f3)
  obtain ⟨v5, g5, _⟩ := DataW.trod_int Tryd.underlying3 (c5.trans f5)
  obtain ⟨v4, g4⟩ := (Opens.slice Tryd.underlying27 kI (Opens.int Tryd.underlying3 k3)).op (c4.trans f4)
  obtain rfl : b0 = _ := List.singleton_inj.1 p0
  obtain rfl : b1 = _ := List.singleton_inj.1 p1
  obtain rfl : a0 = _ := List.singleton_inj.1 g0
  obtain rfl : a1 = _ := List.singleton_inj.1 g1
  obtain rfl : a2 = _ := List.singleton_inj.1 g2
  obtain rfl : a5 = _ := List.singleton_inj.1 g5
  have g3' : a3 = _ := List.singleton_inj.1 g3
  obtain ⟨A, c, g4', hle, hC⟩ := g4
  have g4'' : a4 = _ := List.singleton_inj.1 g4'
  subst g3' g4''
  exact ⟨⟨s0, s1, v0, v1, v2, v3, v4, v5⟩, A, c, rfl, hle, reads_of_C hC⟩
theorem picks_row (A : Option Addr) (c : Nat) (l : List Vo) (slot : Int) (w : World) (_ : Laid w) (hr : voK.C w A l.length l) (_ : l.length ≤ c) (_ : (Lit.int .i64 slot).wf = true) :
    Calls Tryd.prog 6 #[.slice A l.length c, .int .i64 slot] w fun e w' => e = .returned (.bool true) ∧ Below w.heap.size w w' := by
  obtain ⟨hs, h1, h2⟩ := vh_of hr
  have hl : hs.length = l.length := h1.1
  have h3 := picks_any A c hs slot w (by rw [hl]; exact h1) h2
  rw [hl] at h3
  exact h3
end Go.Proofs.YtgkhkcoojfjofaaDoor
