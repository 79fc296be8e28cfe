/- Rows of rows of bytes, each element told by where it lies. -/
import Derived.Test.YtfnnjgbldojigaaDoorWalP
set_option linter.unusedVariables false
set_option linter.unusedSimpArgs false
namespace Go.Proofs.YtfnnjgbldojigaaDoor
open Go.RowKit Go.Proofs.YtfnnjgbldojigaaDoorW.PrintWords Go.Proofs.Mine Go.Proofs.Mine.Crc

structure Hd where
  A : Option Addr
  c : Nat
  l : List UInt8
def Hd.v (h : Hd) : Value := .slice h.A h.l.length h.c
def hd0 : Hd := ⟨none, 0, []⟩
theorem hd_one (h : Hd) : h.v.oneCell' = true := rfl
abbrev HRow (w : World) (A : Option Addr) (n : Nat) (hs : List Hd) : Prop := ReadsOf Hd.v hd0 w A n hs
abbrev HOwn (w : World) (base : Nat) (v : Value) (hs : List Hd) : Prop := w.ownsRow base 32 1 v hs.length (encs Hd.v hs)
/-- Each of them can be read. -/
def HdsIn (w : World) (hs : List Hd) : Prop := ∀ h ∈ hs, Bytes w h.A h.l ∧ h.l.length ≤ h.c
theorem list_of {α : Type} (n : Nat) (P : Nat → α → Prop) (h : ∀ j, j < n → ∃ y, P j y) : ∃ ys : List α, ys.length = n ∧ ∀ j y, ys[j]? = some y → P j y := by
  induction n with
  | zero => exact ⟨[], rfl, fun j y hy => by simp at hy⟩
  | succ n ih =>
    obtain ⟨ys, h1, h2⟩ := ih (fun j hj => h j (by omega))
    obtain ⟨y, hy⟩ := h n (by omega)
    refine ⟨ys ++ [y], by simp [h1], fun j z hz => ?_⟩
    rcases Nat.lt_or_ge j ys.length with hj | hj
    · rw [List.getElem?_append_left hj] at hz
      exact h2 j z hz
    · rw [List.getElem?_append_right hj] at hz
      have hj2 : j = ys.length := by
        have := (List.getElem?_eq_some_iff.1 hz).1
        simp at this; omega
      subst hj2
      simp at hz
      subst hz
      rw [h1]; exact hy
theorem bytes_of_C {w : World} {A : Option Addr} {n : Nat} {l : List UInt8} (h : bytesK.C w A n l) : ReadsOf b8 0 w A n l := Kd.reads_of_C (enc := b8) (d := (0 : UInt8)) (h1 := fun _ => rfl) h
theorem hds_of_rows {w : World} {A : Option Addr} {n : Nat} {xs : List (List UInt8)} (h : rowsK.C w A n xs) : ∃ hs : List Hd, hs.map (·.l) = xs ∧ HRow w A n hs ∧ HdsIn w hs := by
  have hn := h.1
  have key : ∀ j, j < n → ∃ y : Hd, xs[j]? = some y.l ∧ Bytes w y.A y.l ∧ y.l.length ≤ y.c ∧ ∀ ad, A = some ad → w.cell? (ad.add j) = some y.v := by
    intro j hj
    obtain ⟨ad, hA, hc⟩ := h.2.2 (by omega)
    have hx : xs[j]? = some xs[j] := List.getElem?_eq_getElem (by omega)
    obtain ⟨cs, _, ⟨B, c, rfl, hle, hC⟩, hcell⟩ := hc j _ hx
    refine ⟨⟨B, c, xs[j]⟩, hx, bytes_of_C hC, hle, fun ad' e => ?_⟩
    rw [hA] at e
    injection e with e
    subst e
    have := hcell 0 _ rfl
    rwa [show j * (Kd.slice 5 bytesK).sz + 0 = j from by show j * 1 + 0 = j; omega] at this
  obtain ⟨hs, h1, h2⟩ := list_of n _ key
  refine ⟨hs, ?_, ⟨h1, h.2.1, fun hp => ?_⟩, fun y hy => ?_⟩
  · apply List.ext_getElem?
    intro j
    rcases Nat.lt_or_ge j n with hj | hj
    · have hy : hs[j]? = some hs[j] := List.getElem?_eq_getElem (by omega)
      rw [List.getElem?_map, hy, (h2 j _ hy).1]; rfl
    · rw [List.getElem?_eq_none (by simp; omega), List.getElem?_eq_none (by omega)]
  · obtain ⟨ad, hA, _⟩ := h.2.2 hp
    refine ⟨ad, hA, fun j hj => ?_⟩
    have hy : hs[j]? = some hs[j] := List.getElem?_eq_getElem (by omega)
    have := (h2 j _ hy).2.2.2 ad hA
    rw [this]; simp [List.getD_eq_getElem?_getD, hy]
  · obtain ⟨j, hj⟩ := List.mem_iff_getElem?.1 hy
    exact ⟨(h2 j y hj).2.1, (h2 j y hj).2.2.1⟩
theorem HdsIn.below {w w1 : World} {hs : List Hd} (h : HdsIn w hs) (hB : Below w.heap.size w w1) : HdsIn w1 hs := fun y hy => ⟨(h y hy).1.below hB, (h y hy).2⟩
theorem HdsIn.app {w : World} {hs ks : List Hd} (h : HdsIn w hs) (k : HdsIn w ks) : HdsIn w (hs ++ ks) := fun y hy => (List.mem_append.1 hy).elim (h y) (k y)
theorem HdsIn.one {w : World} {y : Hd} (h : Bytes w y.A y.l) (k : y.l.length ≤ y.c) : HdsIn w [y] := fun z hz => by rw [List.mem_singleton.1 hz]; exact ⟨h, k⟩
theorem HdsIn.sub {w : World} {hs ks : List Hd} (h : HdsIn w hs) (k : ∀ y, y ∈ ks → y ∈ hs) : HdsIn w ks := fun y hy => h y (k y hy)
theorem HdsIn.nil (w : World) : HdsIn w [] := fun y hy => by cases hy
/-- One of a row, as a walk meets it. -/
theorem hd_at {w : World} {A : Option Addr} {n : Nat} {hs : List Hd} (h : HRow w A n hs) {j : Nat} {y : Hd} (hy : hs[j]? = some y) : ∃ ad, A = some ad ∧ w.cell? (ad.add j) = some (.slice y.A y.l.length y.c) := by
  have hj := (List.getElem?_eq_some_iff.1 hy).1
  obtain ⟨ad, hA, hc⟩ := h.2.2 (by have := h.1; omega)
  refine ⟨ad, hA, ?_⟩
  have := hc j (by have := h.1; omega)
  rw [this]
  simp [List.getD_eq_getElem?_getD, hy, Hd.v]
end Go.Proofs.YtfnnjgbldojigaaDoor
