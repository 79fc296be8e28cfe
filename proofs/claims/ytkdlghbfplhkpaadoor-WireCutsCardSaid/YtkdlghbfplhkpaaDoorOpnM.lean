/- Openers: an entry, a configuration, a message. -/
import Derived.Test.YtkdlghbfplhkpaaDoorGodA
import Derived.Test.YtkdlghbfplhkpaaDoorOpen
import Derived.Deep.RegionHeld3
set_option linter.unusedVariables false
set_option linter.unusedSimpArgs false
namespace Go.Proofs.YtkdlghbfplhkpaaDoor
open Go.ChangeShapes Go.WideShapes Go.ChangeAt Go.RowKit Go.Proofs.YtkdlghbfplhkpaaDoorW.PrintWords Go.Proofs.Mine

theorem six {α : Type} {l : List α} (h : l.length = 6) : ∃ a0 a1 a2 a3 a4 a5, l = [a0, a1, a2, a3, a4, a5] := by
  match l, h with
  | [a0, a1, a2, a3, a4, a5], _ => exact ⟨a0, a1, a2, a3, a4, a5, rfl⟩
theorem thirteen {α : Type} {l : List α} (h : l.length = 13) : ∃ a0 a1 a2 a3 a4 a5 a6 a7 a8 a9 a10 a11 a12, l = [a0, a1, a2, a3, a4, a5, a6, a7, a8, a9, a10, a11, a12] := by
  match l, h with
  | [a0, a1, a2, a3, a4, a5, a6, a7, a8, a9, a10, a11, a12], _ => exact ⟨a0, a1, a2, a3, a4, a5, a6, a7, a8, a9, a10, a11, a12, rfl⟩
theorem okWide_struct {P : Program} {w : World} {r : Reach} {base : Nat} {t : TypeId} {v : Value} {fs : Array Field} (ht : P.underlying t = some (.struct fs)) (h : Value.okWide P w r base t v) : ∃ cs, v = .agg cs ∧ cs.size = P.cellsOf t := by
  unfold Value.okWide at h
  simp only [ht] at h
  obtain ⟨cs, h1, h2, _⟩ := h
  exact ⟨cs, h1, h2⟩
theorem reads_of_C {w : World} {A : Option Addr} {l : List Int} (h : (Kd.int .i64).C w A l.length l) : ReadsInt w .i64 A l.length l := by
  refine ⟨rfl, h.2.1, fun hp => ?_⟩
  obtain ⟨ad, ha, hR⟩ := h.2.2 hp
  refine ⟨ad, ha, fun i hi => ?_⟩
  obtain ⟨c, hc, hk, hcell⟩ := hR i l[i] (List.getElem?_eq_getElem hi)
  have hk' : c = [.int .i64 l[i]] := hk
  subst hk'
  have h0 := hcell 0 _ rfl
  have e : l.getD i 0 = l[i] := by simp [List.getD_eq_getElem?_getD, hi]
  have e1 : i * (Kd.int .i64).sz + 0 = i := by
    show i * 1 + 0 = i
    omega
  rw [e1] at h0
  rw [e]; exact h0
section
variable {H : Type} {enc : TypeId × Value → H} {w : World} {base : Nat} {spare : Nat → Bool} {held : Bool}
theorem k3 : Tryd.prog.cellsOf 3 = 1 := by kernel_rfl
theorem k4 : Tryd.prog.cellsOf 4 = 1 := by kernel_rfl
theorem k9 : Tryd.prog.cellsOf 9 = 1 := by kernel_rfl
theorem k25 : Tryd.prog.cellsOf 25 = 1 := by kernel_rfl
theorem k27 : Tryd.prog.cellsOf 27 = 6 := by kernel_rfl
theorem k28 : Tryd.prog.cellsOf 28 = 1 := by kernel_rfl
theorem k30 : Tryd.prog.cellsOf 30 = 2 := by kernel_rfl
theorem openInts {fuel : Nat} {u : Value} {x : DataW H × List MemPlace} (h : DataW.trod enc Tryd.prog w base spare held fuel 25 [u] = some x) : ∃ A l c, u = .slice A l.length c ∧ l.length ≤ c ∧ ReadsInt w .i64 A l.length l := by
  obtain ⟨l, A, c, g1, g2, g3⟩ := (Opens.slice Tryd.underlying25 k25 (Opens.int Tryd.underlying3 k3)).op h
  exact ⟨A, l, c, List.singleton_inj.1 g1, g2, reads_of_C g3⟩
theorem openEnt {fuel : Nat} {cs : List Value} {x : DataW H × List MemPlace} (h : DataW.trod enc Tryd.prog w base spare held fuel 27 cs = some x) : ∃ (y : Ent) (A : Option Addr) (c : Nat), cs = y.cells (.slice A y.mem.length c) ∧ y.mem.length ≤ c ∧ ReadsInt w .i64 A y.mem.length y.mem := by
  obtain ⟨ys, m, _, _, hl, hlen, hf⟩ := DataW.trod_struct Tryd.underlying27 h
  have hy6 : ys.length = 6 := hlen
  obtain ⟨a0, a1, a2, a3, a4, a5, rfl⟩ := six (hl.trans k27)
  have aty : ∀ i, i < 6 → ∃ y, ys[i]? = some y := fun i hi => ⟨_, List.getElem?_eq_getElem (by omega)⟩
  have c0 : DataW.trod enc Tryd.prog w base spare held m 3 (List.take (Tryd.prog.cellsOf 3) [a0, a1, a2, a3, a4, a5]) = ys[0]? := hf 0 _ rfl
  have c1 : DataW.trod enc Tryd.prog w base spare held m 3 (List.take (Tryd.prog.cellsOf 3) [a1, a2, a3, a4, a5]) = ys[1]? := hf 1 _ rfl
  have c2 : DataW.trod enc Tryd.prog w base spare held m 3 (List.take (Tryd.prog.cellsOf 3) [a2, a3, a4, a5]) = ys[2]? := hf 2 _ rfl
  have c3 : DataW.trod enc Tryd.prog w base spare held m 9 (List.take (Tryd.prog.cellsOf 9) [a3, a4, a5]) = ys[3]? := hf 3 _ rfl
  have c4 : DataW.trod enc Tryd.prog w base spare held m 25 (List.take (Tryd.prog.cellsOf 25) [a4, a5]) = ys[4]? := hf 4 _ rfl
  have c5 : DataW.trod enc Tryd.prog w base spare held m 3 (List.take (Tryd.prog.cellsOf 3) [a5]) = ys[5]? := hf 5 _ rfl
  rw [k3] at c0 c1 c2 c5
  rw [k9] at c3
  rw [k25] at c4
  obtain ⟨y0, f0⟩ := aty 0 (by decide)
  obtain ⟨y1, f1⟩ := aty 1 (by decide)
  obtain ⟨y2, f2⟩ := aty 2 (by decide)
  obtain ⟨y3, f3⟩ := aty 3 (by decide)
  obtain ⟨y4, f4⟩ := aty 4 (by decide)
  obtain ⟨y5, f5⟩ := aty 5 (by decide)
  obtain ⟨v0, g0, _⟩ := DataW.trod_int Tryd.underlying3 (c0.trans f0)
  obtain ⟨v1, g1, _⟩ := DataW.trod_int Tryd.underlying3 (c1.trans f1)
  obtain ⟨v2, g2, _⟩ := DataW.trod_int Tryd.underlying3 (c2.trans f2)
  obtain ⟨v3, g3⟩ := (Opens.string Tryd.underlying9 k9).op (c3.trans f3)
  obtain ⟨v5, g5, _⟩ := DataW.trod_int Tryd.underlying3 (c5.trans f5)
  obtain ⟨A, l, c, g4, hle, hC⟩ := openInts (c4.trans f4)
  obtain rfl : a0 = _ := List.singleton_inj.1 g0
  obtain rfl : a1 = _ := List.singleton_inj.1 g1
  obtain rfl : a2 = _ := List.singleton_inj.1 g2
  obtain rfl : a5 = _ := List.singleton_inj.1 g5
  have g3' : a3 = _ := List.singleton_inj.1 g3
  subst g3' g4
  exact ⟨⟨v0, v1, v2, v3, l, v5⟩, A, c, rfl, hle, hC⟩
theorem opensEnt : Opens Tryd.prog 27 entK := ⟨k27, fun h => by
  obtain ⟨y, A, c, h1, h2, h3⟩ := openEnt h
  exact ⟨y, A, c, h1, h2, h3⟩⟩
theorem openMsg {fuel : Nat} {cs : List Value} {x : DataW H × List MemPlace} (h : DataW.trod enc Tryd.prog w base spare held fuel 32 cs = some x) :
    ∃ (m : Msg) (At Ae Ao An : Option Addr) (ct ce co cn : Nat), Value.agg cs.toArray = msgV m At Ae Ao An ct ce co cn ∧ MsgR w m At Ae Ao An ∧ m.terms.length ≤ ct ∧ m.ents.length ≤ ce ∧ m.old.length ≤ co ∧ m.new.length ≤ cn := by
  obtain ⟨ys, m, _, _, hl, hlen, hf⟩ := DataW.trod_struct Tryd.underlying32 h
  have hy : ys.length = 12 := hlen
  obtain ⟨a0, a1, a2, a3, a4, a5, a6, a7, a8, a9, a10, a11, a12, rfl⟩ := thirteen (hl.trans (by kernel_rfl))
  have aty : ∀ i, i < 12 → ∃ y, ys[i]? = some y := fun i hi => ⟨_, List.getElem?_eq_getElem (by omega)⟩
  have c0 : DataW.trod enc Tryd.prog w base spare held m 3 (List.take (Tryd.prog.cellsOf 3) [a0, a1, a2, a3, a4, a5, a6, a7, a8, a9, a10, a11, a12]) = ys[0]? := hf 0 _ rfl
  rw [k3] at c0
  obtain ⟨y0, f0⟩ := aty 0 (by decide)
  have c1 : DataW.trod enc Tryd.prog w base spare held m 3 (List.take (Tryd.prog.cellsOf 3) [a1, a2, a3, a4, a5, a6, a7, a8, a9, a10, a11, a12]) = ys[1]? := hf 1 _ rfl
  rw [k3] at c1
  obtain ⟨y1, f1⟩ := aty 1 (by decide)
  have c2 : DataW.trod enc Tryd.prog w base spare held m 3 (List.take (Tryd.prog.cellsOf 3) [a2, a3, a4, a5, a6, a7, a8, a9, a10, a11, a12]) = ys[2]? := hf 2 _ rfl
  rw [k3] at c2
  obtain ⟨y2, f2⟩ := aty 2 (by decide)
  have c3 : DataW.trod enc Tryd.prog w base spare held m 3 (List.take (Tryd.prog.cellsOf 3) [a3, a4, a5, a6, a7, a8, a9, a10, a11, a12]) = ys[3]? := hf 3 _ rfl
  rw [k3] at c3
  obtain ⟨y3, f3⟩ := aty 3 (by decide)
  have c4 : DataW.trod enc Tryd.prog w base spare held m 3 (List.take (Tryd.prog.cellsOf 3) [a4, a5, a6, a7, a8, a9, a10, a11, a12]) = ys[4]? := hf 4 _ rfl
  rw [k3] at c4
  obtain ⟨y4, f4⟩ := aty 4 (by decide)
  have c5 : DataW.trod enc Tryd.prog w base spare held m 3 (List.take (Tryd.prog.cellsOf 3) [a5, a6, a7, a8, a9, a10, a11, a12]) = ys[5]? := hf 5 _ rfl
  rw [k3] at c5
  obtain ⟨y5, f5⟩ := aty 5 (by decide)
  have c6 : DataW.trod enc Tryd.prog w base spare held m 3 (List.take (Tryd.prog.cellsOf 3) [a6, a7, a8, a9, a10, a11, a12]) = ys[6]? := hf 6 _ rfl
  rw [k3] at c6
  obtain ⟨y6, f6⟩ := aty 6 (by decide)
  have c7 : DataW.trod enc Tryd.prog w base spare held m 3 (List.take (Tryd.prog.cellsOf 3) [a7, a8, a9, a10, a11, a12]) = ys[7]? := hf 7 _ rfl
  rw [k3] at c7
  obtain ⟨y7, f7⟩ := aty 7 (by decide)
  have c8 : DataW.trod enc Tryd.prog w base spare held m 4 (List.take (Tryd.prog.cellsOf 4) [a8, a9, a10, a11, a12]) = ys[8]? := hf 8 _ rfl
  rw [k4] at c8
  obtain ⟨y8, f8⟩ := aty 8 (by decide)
  have c9 : DataW.trod enc Tryd.prog w base spare held m 25 (List.take (Tryd.prog.cellsOf 25) [a9, a10, a11, a12]) = ys[9]? := hf 9 _ rfl
  rw [k25] at c9
  obtain ⟨y9, f9⟩ := aty 9 (by decide)
  have c10 : DataW.trod enc Tryd.prog w base spare held m 28 (List.take (Tryd.prog.cellsOf 28) [a10, a11, a12]) = ys[10]? := hf 10 _ rfl
  rw [k28] at c10
  obtain ⟨y10, f10⟩ := aty 10 (by decide)
  have c11 : DataW.trod enc Tryd.prog w base spare held m 30 (List.take (Tryd.prog.cellsOf 30) [a11, a12]) = ys[11]? := hf 11 _ rfl
  rw [k30] at c11
  obtain ⟨y11, f11⟩ := aty 11 (by decide)
  obtain ⟨v0, g0, _⟩ := DataW.trod_int Tryd.underlying3 (c0.trans f0)
  obtain rfl : a0 = _ := List.singleton_inj.1 g0
  obtain ⟨v1, g1, _⟩ := DataW.trod_int Tryd.underlying3 (c1.trans f1)
  obtain rfl : a1 = _ := List.singleton_inj.1 g1
  obtain ⟨v2, g2, _⟩ := DataW.trod_int Tryd.underlying3 (c2.trans f2)
  obtain rfl : a2 = _ := List.singleton_inj.1 g2
  obtain ⟨v3, g3, _⟩ := DataW.trod_int Tryd.underlying3 (c3.trans f3)
  obtain rfl : a3 = _ := List.singleton_inj.1 g3
  obtain ⟨v4, g4, _⟩ := DataW.trod_int Tryd.underlying3 (c4.trans f4)
  obtain rfl : a4 = _ := List.singleton_inj.1 g4
  obtain ⟨v5, g5, _⟩ := DataW.trod_int Tryd.underlying3 (c5.trans f5)
  obtain rfl : a5 = _ := List.singleton_inj.1 g5
  obtain ⟨v6, g6, _⟩ := DataW.trod_int Tryd.underlying3 (c6.trans f6)
  obtain rfl : a6 = _ := List.singleton_inj.1 g6
  obtain ⟨v7, g7, _⟩ := DataW.trod_int Tryd.underlying3 (c7.trans f7)
  obtain rfl : a7 = _ := List.singleton_inj.1 g7
  obtain ⟨v8, g8, _⟩ := DataW.trod_bool Tryd.underlying4 (c8.trans f8)
  obtain rfl : a8 = _ := List.singleton_inj.1 g8
  obtain ⟨At, lt, ct, g9, ht1, ht2⟩ := openInts (c9.trans f9)
  obtain ⟨le, Ae, ce, g10, he1, he2⟩ := (Opens.slice Tryd.underlying28 k28 opensEnt).op (c10.trans f10)
  have g10' : a10 = _ := List.singleton_inj.1 g10
  have d11 : DataW.trod enc Tryd.prog w base spare held m 30 [a11, a12] = some y11 := c11.trans f11
  obtain ⟨zs, m2, _, _, _, hlen2, hf2⟩ := DataW.trod_struct Tryd.underlying30 d11
  have hz : zs.length = 2 := hlen2
  have e0 : DataW.trod enc Tryd.prog w base spare held m2 25 (List.take (Tryd.prog.cellsOf 25) [a11, a12]) = zs[0]? := hf2 0 _ rfl
  have e1 : DataW.trod enc Tryd.prog w base spare held m2 25 (List.take (Tryd.prog.cellsOf 25) [a12]) = zs[1]? := hf2 1 _ rfl
  rw [k25] at e0 e1
  obtain ⟨z0, p0⟩ : ∃ y, zs[0]? = some y := ⟨_, List.getElem?_eq_getElem (by omega)⟩
  obtain ⟨z1, p1⟩ : ∃ y, zs[1]? = some y := ⟨_, List.getElem?_eq_getElem (by omega)⟩
  obtain ⟨Ao, lo, co, q0, ho1, ho2⟩ := openInts (e0.trans p0)
  obtain ⟨An, ln, cn, q1, hn1, hn2⟩ := openInts (e1.trans p1)
  subst g9 g10' q0 q1
  exact ⟨⟨v0, v1, v2, v3, v4, v5, v6, v7, v8, lt, le, lo, ln⟩, At, Ae, Ao, An, ct, ce, co, cn, rfl, ⟨ht2, he2, ho2, hn2⟩, ht1, he1, ho1, hn1⟩
end
end Go.Proofs.YtkdlghbfplhkpaaDoor
