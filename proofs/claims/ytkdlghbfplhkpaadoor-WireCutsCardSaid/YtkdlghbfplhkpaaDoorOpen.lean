/- What the readings of arguments give a walk: bytes, whole numbers, rows of bytes. No program in sight. -/
import Derived.Test.YtkdlghbfplhkpaaDoorWWords
import Derived.ChangeShapes
import Derived.WideShapes
import Derived.ChangeSlices
import Derived.Deep.Slices
import Derived.OpenShut
import Derived.ProofKit
set_option linter.unusedVariables false
set_option linter.unusedSimpArgs false
namespace Go.Proofs.Mine
open Go.RowKit Go.ChangeShapes Go.WideShapes Go.Proofs.YtkdlghbfplhkpaaDoorW.PrintWords

theorem byte_of {a : Int} (w : (Lit.int .u8 a).wf = true) : ∃ x : UInt8, a = (x.toNat : Int) := by
  obtain ⟨h0, h1⟩ := bounds_u8 w
  exact ⟨UInt8.ofNat a.toNat, by rw [UInt8.toNat_ofNat']; omega⟩
theorem ints_of_trod {H : Type} {enc : TypeId × Value → H} {P : Program} {W : World} {base : Nat} {spare : Nat → Bool} {held : Bool} {t e : TypeId} {k : IntKind} {a : Option Addr} {len cap : Nat} {d : DataW H} {ps : List MemPlace}
    (hu : P.underlying t = some (.slice e)) (he : P.underlying e = some (.int k)) (hc : P.cellsOf e = 1)
    (h : DataW.Trod enc P W base spare held t (.slice a len cap) d ps) : ∃ l : List Int, len = l.length ∧ ReadsInt W k a l.length l ∧ l.length ≤ cap ∧ ∀ x ∈ l, (Lit.int k x).wf = true := by
  obtain ⟨fuel, hf⟩ := h
  rcases open_ints hu he hc hf with ⟨hcs, _⟩ | ⟨x, l, c, zs, hcs, _, hl, hm, hz, _, hcell, hwz⟩
  · simp [Value.cells] at hcs
    obtain ⟨rfl, rfl, rfl⟩ := hcs
    exact ⟨[], rfl, ⟨rfl, by simp, fun h => by simp at h⟩, by simp, fun x hx => by simp at hx⟩
  · simp [Value.cells] at hcs
    obtain ⟨rfl, rfl, rfl⟩ := hcs
    have hl2 : len ≤ zs.length := by rw [hz]; split <;> omega
    have hlt : (zs.take len).length = len := by rw [List.length_take]; omega
    refine ⟨zs.take len, hlt.symm, ⟨rfl, by rw [hlt]; simp only [maxLen] at hm; omega, fun hp => ⟨x, rfl, fun i hi => ?_⟩⟩, by rw [hlt]; exact hl, fun n hn => hwz n (List.mem_of_mem_take hn)⟩
    rw [hlt] at hi
    have h6 : (zs.take len).getD i 0 = zs.getD i 0 := by simp [List.getD_eq_getElem?_getD, hi]
    have hi2 : i < zs.length := by omega
    rw [h6]
    exact hcell i (by omega)
theorem bytes_of_trod {H : Type} {enc : TypeId × Value → H} {P : Program} {W : World} {base : Nat} {spare : Nat → Bool} {held : Bool} {t e : TypeId} {a : Option Addr} {len cap : Nat} {d : DataW H} {ps : List MemPlace}
    (hu : P.underlying t = some (.slice e)) (he : P.underlying e = some (.int .u8)) (hc : P.cellsOf e = 1)
    (h : DataW.Trod enc P W base spare held t (.slice a len cap) d ps) : ∃ l : List UInt8, len = l.length ∧ ReadsOf (fun x : UInt8 => Value.int .u8 (x.toNat : Int)) 0 W a l.length l ∧ l.length ≤ cap := by
  obtain ⟨l, h1, h2, h3, h4⟩ := ints_of_trod hu he hc h
  refine ⟨l.map fun n => UInt8.ofNat n.toNat, by simpa using h1, ⟨rfl, by simpa using h2.2.1, fun hp => ?_⟩, by simpa using h3⟩
  obtain ⟨ad, ha, hcell⟩ := h2.2.2 (by simpa using hp)
  refine ⟨ad, ha, fun j hj => ?_⟩
  have hj' : j < l.length := by simpa using hj
  rw [hcell j hj']
  have hw := bounds_u8 (h4 l[j] (List.getElem_mem _))
  have e1 : l.getD j 0 = l[j] := by simp [List.getD_eq_getElem?_getD, hj']
  have e2 : (l.map fun n => UInt8.ofNat n.toNat).getD j 0 = UInt8.ofNat l[j].toNat := by simp [List.getD_eq_getElem?_getD, hj']
  rw [e1, e2]
  show some (Value.int .u8 l[j]) = some (Value.int .u8 ((UInt8.ofNat l[j].toNat).toNat : Int))
  rw [UInt8.toNat_ofNat']
  congr 2
  omega

/-! ### Any argument, opened by its kind -/
theorem add_add (a : Addr) (i j : Nat) : (a.add i).add j = a.add (i + j) := by
  unfold Addr.add
  by_cases h1 : i = 0 <;> by_cases h2 : j = 0 <;> simp [h1, h2, Nat.add_assoc]
theorem cells_each {w : World} {base : Nat} {a : Addr} {n : Nat} {cs : List Value} (h : w.cells? base a n = some cs) : cs.length = n ∧ ∀ j u, cs[j]? = some u → w.cell? (a.add j) = some u := by
  obtain ⟨h1, h2, h3⟩ := World.cells?_some h
  refine ⟨h2, fun j u hu => ?_⟩
  have hj := (List.getElem?_eq_some_iff.1 hu).1
  rw [h3 j (by omega)]; exact hu
/-- What reads as data of type t reads as the kind d says. -/
structure Opens {α : Type} (P : Program) (t : TypeId) (d : Kd α) : Prop where
  sz : P.cellsOf t = d.sz
  op : ∀ {H : Type} {enc : TypeId × Value → H} {w : World} {base : Nat} {spare : Nat → Bool} {held : Bool} {fuel : Nat} {cs : List Value} {x : DataW H × List MemPlace}, DataW.trod enc P w base spare held fuel t cs = some x → ∃ v, d.K w v cs
theorem Opens.int {P : Program} {t : TypeId} {k : IntKind} (hu : P.underlying t = some (.int k)) (hc : P.cellsOf t = 1) : Opens P t (Kd.int k) := by
  refine ⟨hc, fun h => ?_⟩
  obtain ⟨n, e, _⟩ := DataW.trod_int hu h
  exact ⟨n, e⟩
theorem Opens.bool {P : Program} {t : TypeId} (hu : P.underlying t = some .bool) (hc : P.cellsOf t = 1) : Opens P t Kd.bool := by
  refine ⟨hc, fun h => ?_⟩
  obtain ⟨n, e, _⟩ := DataW.trod_bool hu h
  exact ⟨n, e⟩
theorem Opens.string {P : Program} {t : TypeId} (hu : P.underlying t = some .string) (hc : P.cellsOf t = 1) : Opens P t Kd.string := by
  refine ⟨hc, fun h => ?_⟩
  obtain ⟨n, e, _⟩ := DataW.trod_string hu h
  exact ⟨n, e⟩
theorem Opens.byte {P : Program} {t : TypeId} (hu : P.underlying t = some (.int .u8)) (hc : P.cellsOf t = 1) : Opens P t (Kd.scalar (fun x : UInt8 => Value.int .u8 (x.toNat : Int)) (fun _ => rfl)) := by
  refine ⟨hc, fun h => ?_⟩
  obtain ⟨n, e, _, hw⟩ := DataW.trod_int hu h
  obtain ⟨x, rfl⟩ := byte_of hw
  exact ⟨x, e⟩
theorem exists_list {α : Type} (n : Nat) (R : Nat → α → Prop) (h : ∀ i, i < n → ∃ v, R i v) : ∃ l : List α, l.length = n ∧ ∀ i v, l[i]? = some v → R i v := by
  induction n with
  | zero => exact ⟨[], rfl, fun i v hv => by simp at hv⟩
  | succ n ih =>
    obtain ⟨l, hl, hR⟩ := ih (fun i hi => h i (by omega))
    obtain ⟨v, hv⟩ := h n (by omega)
    refine ⟨l ++ [v], by simp [hl], fun i u hu => ?_⟩
    rcases Nat.lt_or_ge i n with hi | hi
    · rw [List.getElem?_append_left (by omega)] at hu
      exact hR i u hu
    · have : i = n := by
        have := (List.getElem?_eq_some_iff.1 hu).1
        simp at this; omega
      subst this
      rw [← hl, List.getElem?_concat_length] at hu
      injection hu with hu
      subst hu; exact hv
theorem Opens.row {α : Type} {P : Program} {t e : TypeId} {d : Kd α} (hu : P.underlying t = some (.slice e)) (he : Opens P e d)
    {H : Type} {enc : TypeId × Value → H} {w : World} {base : Nat} {spare : Nat → Bool} {held : Bool} {a : Option Addr} {len cap : Nat} {x : DataW H} {ps : List MemPlace}
    (h : DataW.Trod enc P w base spare held t (.slice a len cap) x ps) : ∃ l : List α, len = l.length ∧ d.C w a l.length l ∧ l.length ≤ cap := by
  obtain ⟨fuel, hf⟩ := h
  rcases Deep.open_slice hu hf with ⟨hcs, _⟩ | ⟨ad, len', cap', m, n, D, Pl, hcs, _, hl, hm, hmm, _, hx⟩
  · simp [Value.cells] at hcs
    obtain ⟨rfl, rfl, rfl⟩ := hcs
    exact ⟨[], rfl, ⟨rfl, by simp, fun h => by simp at h⟩, by simp⟩
  · simp [Value.cells] at hcs
    obtain ⟨rfl, rfl, rfl⟩ := hcs
    have hlm : len ≤ m := by rw [hmm]; split <;> omega
    obtain ⟨l, hlen, hR⟩ := exists_list len (fun i v => ∃ c, c.length = d.sz ∧ d.K w v c ∧ ∀ j u, c[j]? = some u → w.cell? (ad.add (i * d.sz + j)) = some u) (fun i hi => by
      obtain ⟨cs', hc, ht⟩ := hx i (by omega)
      obtain ⟨v, hv⟩ := he.op ht
      rw [he.sz] at hc
      obtain ⟨hcl, hcc⟩ := cells_each hc
      exact ⟨v, cs', hcl, hv, fun j u hu => by rw [← add_add]; exact hcc j u hu⟩)
    subst hlen
    exact ⟨l, rfl, ⟨rfl, by simp only [maxLen] at hm; omega, fun _ => ⟨ad, rfl, hR⟩⟩, hl⟩
theorem Opens.slice {α : Type} {P : Program} {t e : TypeId} {d : Kd α} (hu : P.underlying t = some (.slice e)) (hc : P.cellsOf t = 1) (he : Opens P e d) : Opens P t (Kd.slice e d) := by
  refine ⟨hc, fun {H enc w base spare held fuel cs x} h => ?_⟩
  rcases Deep.open_slice hu h with ⟨rfl, rfl⟩ | ⟨ad, len, cap, m, n, D, Pl, rfl, _, hl, hm, hmm, rfl, hx⟩
  · exact ⟨[], none, 0, rfl, Nat.le_refl _, ⟨rfl, by simp, fun h => by simp at h⟩⟩
  · obtain ⟨l, h1, h2, h3⟩ := Opens.row (a := some ad) (len := len) (cap := cap) hu he ⟨_, h⟩
    exact ⟨l, some ad, cap, by rw [h1], h3, h2⟩
end Go.Proofs.Mine
