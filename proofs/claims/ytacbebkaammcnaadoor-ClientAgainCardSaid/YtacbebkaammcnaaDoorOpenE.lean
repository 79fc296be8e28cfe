/- From a row of entries as data to the kind. -/
import Derived.Test.YtacbebkaammcnaaDoorAgainL
import Derived.Test.YtacbebkaammcnaaDoorOpen
set_option linter.unusedVariables false
set_option linter.unusedSimpArgs false
namespace Go.Proofs.YtacbebkaammcnaaDoor
open Go.RowKit Go.Proofs.YtacbebkaammcnaaDoorW.PrintWords Go.Proofs.Mine
open Go.ChangeShapes Go.WideShapes Go.ChangeAt
theorem six {α : Type} {l : List α} (h : l.length = 6) : ∃ a0 a1 a2 a3 a4 a5, l = [a0, a1, a2, a3, a4, a5] := by
  match l, h with
  | [a0, a1, a2, a3, a4, a5], _ => exact ⟨a0, a1, a2, a3, a4, a5, rfl⟩
theorem reads_of_C {w : World} {A : Option Addr} {l : List Int} (h : (Kd.int .i64).C w A l.length l) : ReadsInt w .i64 A l.length l := by
  refine ⟨rfl, h.2.1, fun hp => ?_⟩
  obtain ⟨ad, ha, hR⟩ := h.2.2 hp
  refine ⟨ad, ha, fun i hi => ?_⟩
  obtain ⟨c, hc, hk, hcell⟩ := hR i l[i] (List.getElem?_eq_getElem hi)
  have hk' : c = [.int .i64 l[i]] := hk
  subst hk'
  have h0 := hcell 0 _ rfl
  have e : l.getD i 0 = l[i] := by simp [List.getD_eq_getElem?_getD, hi]
  have e1 : i * (Kd.int .i64).sz + 0 = i := by
    show i * 1 + 0 = i
    omega
  rw [e1] at h0
  rw [e]; exact h0
theorem opensEnt : Opens Tryd.prog 31 entK := by
  refine ⟨by kernel_rfl, fun {H enc w base spare held fuel cs x} h => ?_⟩
  obtain ⟨xs, n, _, _, hl, hlen, hf⟩ := DataW.trod_struct Tryd.underlying31 h
  have h6 : cs.length = 6 := hl.trans (by kernel_rfl)
  have hx6 : xs.length = 6 := hlen
  have k3 : Tryd.prog.cellsOf 3 = 1 := by kernel_rfl
  have k9 : Tryd.prog.cellsOf 9 = 1 := by kernel_rfl
  have k22 : Tryd.prog.cellsOf 22 = 1 := by kernel_rfl
  have at_ : ∀ i, i < 6 → ∃ y, xs[i]? = some y := fun i hi => ⟨_, List.getElem?_eq_getElem (by omega)⟩
  obtain ⟨a0, a1, a2, a3, a4, a5, rfl⟩ := six h6
  have c0 : DataW.trod enc Tryd.prog w base spare held n 3 (List.take (Tryd.prog.cellsOf 3) [a0, a1, a2, a3, a4, a5]) = xs[0]? := hf 0 _ rfl
  have c1 : DataW.trod enc Tryd.prog w base spare held n 3 (List.take (Tryd.prog.cellsOf 3) [a1, a2, a3, a4, a5]) = xs[1]? := hf 1 _ rfl
  have c2 : DataW.trod enc Tryd.prog w base spare held n 3 (List.take (Tryd.prog.cellsOf 3) [a2, a3, a4, a5]) = xs[2]? := hf 2 _ rfl
  have c3 : DataW.trod enc Tryd.prog w base spare held n 9 (List.take (Tryd.prog.cellsOf 9) [a3, a4, a5]) = xs[3]? := hf 3 _ rfl
  have c4 : DataW.trod enc Tryd.prog w base spare held n 22 (List.take (Tryd.prog.cellsOf 22) [a4, a5]) = xs[4]? := hf 4 _ rfl
  have c5 : DataW.trod enc Tryd.prog w base spare held n 3 (List.take (Tryd.prog.cellsOf 3) [a5]) = xs[5]? := hf 5 _ rfl
  rw [k3] at c0 c1 c2 c5
  rw [k9] at c3
  rw [k22] at c4
  obtain ⟨y0, e0⟩ := at_ 0 (by decide)
  obtain ⟨y1, e1⟩ := at_ 1 (by decide)
  obtain ⟨y2, e2⟩ := at_ 2 (by decide)
  obtain ⟨y3, e3⟩ := at_ 3 (by decide)
  obtain ⟨y4, e4⟩ := at_ 4 (by decide)
  obtain ⟨y5, e5⟩ := at_ 5 (by decide)
  obtain ⟨v0, g0, _⟩ := DataW.trod_int Tryd.underlying3 (c0.trans e0)
  obtain ⟨v1, g1, _⟩ := DataW.trod_int Tryd.underlying3 (c1.trans e1)
  obtain ⟨v2, g2, _⟩ := DataW.trod_int Tryd.underlying3 (c2.trans e2)
  obtain ⟨v3, g3⟩ := (Opens.string Tryd.underlying9 k9).op (c3.trans e3)
  obtain ⟨v5, g5, _⟩ := DataW.trod_int Tryd.underlying3 (c5.trans e5)
  obtain ⟨v4, g4⟩ := (Opens.slice Tryd.underlying22 k22 (Opens.int Tryd.underlying3 k3)).op (c4.trans e4)
  obtain rfl : a0 = _ := List.singleton_inj.1 g0
  obtain rfl : a1 = _ := List.singleton_inj.1 g1
  obtain rfl : a2 = _ := List.singleton_inj.1 g2
  obtain rfl : a5 = _ := List.singleton_inj.1 g5
  have g3' : a3 = _ := List.singleton_inj.1 g3
  obtain ⟨A, c, g4', hle, hC⟩ := g4
  have g4'' : a4 = _ := List.singleton_inj.1 g4'
  subst g3' g4''
  exact ⟨⟨v0, v1, v2, v3, v4, v5⟩, A, c, rfl, hle, reads_of_C hC⟩
theorem clientAgain_row (A : Option Addr) (cap : Nat) (l : List Ent) (w : World) (hg : Laid w) (hr : entK.C w A l.length l) (_ : l.length ≤ cap) :
    Calls Tryd.prog 5 #[.slice A l.length cap] w fun e w' => e = .returned (.bool true) ∧ Below w.heap.size w w' :=
  clientAgain_any A cap l w hg hr hr.2.1
end Go.Proofs.YtacbebkaammcnaaDoor
