/- What the readings of arguments give a walk: bytes, whole numbers, rows of bytes. No program in sight. -/
import Derived.Test.YtkdlghbfplhkpaaWWords
import Derived.ChangeShapes
import Derived.WideShapes
import Derived.ChangeSlices
import Derived.Deep.Slices
import Derived.OpenShut
import Derived.ProofKit
set_option linter.unusedVariables false
set_option linter.unusedSimpArgs false
namespace Go.Proofs.Mine
open Go.RowKit Go.ChangeShapes Go.WideShapes Go.Proofs.YtkdlghbfplhkpaaW.PrintWords

theorem byte_of {a : Int} (w : (Lit.int .u8 a).wf = true) : ∃ x : UInt8, a = (x.toNat : Int) := by
  obtain ⟨h0, h1⟩ := bounds_u8 w
  exact ⟨UInt8.ofNat a.toNat, by rw [UInt8.toNat_ofNat']; omega⟩
theorem ints_of_trod {H : Type} {enc : TypeId × Value → H} {P : Program} {W : World} {base : Nat} {spare : Nat → Bool} {held : Bool} {t e : TypeId} {k : IntKind} {a : Option Addr} {len cap : Nat} {d : DataW H} {ps : List MemPlace}
    (hu : P.underlying t = some (.slice e)) (he : P.underlying e = some (.int k)) (hc : P.cellsOf e = 1)
    (h : DataW.Trod enc P W base spare held t (.slice a len cap) d ps) : ∃ l : List Int, len = l.length ∧ ReadsInt W k a l.length l ∧ l.length ≤ cap ∧ ∀ x ∈ l, (Lit.int k x).wf = true := by
  obtain ⟨fuel, hf⟩ := h
  rcases open_ints hu he hc hf with ⟨hcs, _⟩ | ⟨x, l, c, zs, hcs, _, hl, hm, hz, _, hcell, hwz⟩
  · simp [Value.cells] at hcs
    obtain ⟨rfl, rfl, rfl⟩ := hcs
    exact ⟨[], rfl, ⟨rfl, by simp, fun h => by simp at h⟩, by simp, fun x hx => by simp at hx⟩
  · simp [Value.cells] at hcs
    obtain ⟨rfl, rfl, rfl⟩ := hcs
    have hl2 : len ≤ zs.length := by rw [hz]; split <;> omega
    have hlt : (zs.take len).length = len := by rw [List.length_take]; omega
    refine ⟨zs.take len, hlt.symm, ⟨rfl, by rw [hlt]; simp only [maxLen] at hm; omega, fun hp => ⟨x, rfl, fun i hi => ?_⟩⟩, by rw [hlt]; exact hl, fun n hn => hwz n (List.mem_of_mem_take hn)⟩
    rw [hlt] at hi
    have h6 : (zs.take len).getD i 0 = zs.getD i 0 := by simp [List.getD_eq_getElem?_getD, hi]
    have hi2 : i < zs.length := by omega
    rw [h6]
    exact hcell i (by omega)
theorem bytes_of_trod {H : Type} {enc : TypeId × Value → H} {P : Program} {W : World} {base : Nat} {spare : Nat → Bool} {held : Bool} {t e : TypeId} {a : Option Addr} {len cap : Nat} {d : DataW H} {ps : List MemPlace}
    (hu : P.underlying t = some (.slice e)) (he : P.underlying e = some (.int .u8)) (hc : P.cellsOf e = 1)
    (h : DataW.Trod enc P W base spare held t (.slice a len cap) d ps) : ∃ l : List UInt8, len = l.length ∧ ReadsOf (fun x : UInt8 => Value.int .u8 (x.toNat : Int)) 0 W a l.length l ∧ l.length ≤ cap := by
  obtain ⟨l, h1, h2, h3, h4⟩ := ints_of_trod hu he hc h
  refine ⟨l.map fun n => UInt8.ofNat n.toNat, by simpa using h1, ⟨rfl, by simpa using h2.2.1, fun hp => ?_⟩, by simpa using h3⟩
  obtain ⟨ad, ha, hcell⟩ := h2.2.2 (by simpa using hp)
  refine ⟨ad, ha, fun j hj => ?_⟩
  have hj' : j < l.length := by simpa using hj
  rw [hcell j hj']
  have hw := bounds_u8 (h4 l[j] (List.getElem_mem _))
  have e1 : l.getD j 0 = l[j] := by simp [List.getD_eq_getElem?_getD, hj']
  have e2 : (l.map fun n => UInt8.ofNat n.toNat).getD j 0 = UInt8.ofNat l[j].toNat := by simp [List.getD_eq_getElem?_getD, hj']
  rw [e1, e2]
  show some (Value.int .u8 l[j]) = some (Value.int .u8 ((UInt8.ofNat l[j].toNat).toNat : Int))
  rw [UInt8.toNat_ofNat']
  congr 2
  omega
end Go.Proofs.Mine
