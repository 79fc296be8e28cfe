/- A call as the laws of nets read it. -/
import Derived.Test.YtepmnkelfaiapaaCutsW
import Derived.Test.YtepmnkelfaiapaaOpen
import Derived.ChangeArms
set_option linter.unusedVariables false
set_option linter.unusedSimpArgs false
namespace Go.Proofs.Ytepmnkelfaiapaa
open Go.RowKit Go.Proofs.YtepmnkelfaiapaaW.PrintWords Go.Proofs.Mine

/-- A kind that is read alone. -/
def Kd.reading {α : Type} (K : World → α → List Value → Prop) (sz : Nat) (hl : ∀ {w x cs}, K w x cs → cs.length = sz) (h1 : ∀ {w x cs}, K w x cs → ∀ u ∈ cs, u.oneCell' = true) (hb : ∀ {w w1 : World} {x cs}, Below w.heap.size w w1 → K w x cs → K w1 x cs) : Kd α where
  sz := sz
  E := []
  K := K
  M := fun _ _ _ _ _ => False
  K_len := hl
  K_one := h1
  K_below := hb
  K_of_M := fun h => h.elim
  M_mono := fun _ h => h.elim
  M_bound := fun h => h.elim
  M_move := fun _ h => h.elim
  M_lower := fun _ h => h.elim
structure Cl where
  kd : Int
  num : Int
  fr : Int
  dst : Int
  side : List Int
def Cl.K (w : World) (c : Cl) (cs : List Value) : Prop := ∃ A cap, cs = [.int .i64 c.kd, .int .i64 c.num, .int .i64 c.fr, .int .i64 c.dst, .slice A c.side.length cap] ∧ ReadsInt w .i64 A c.side.length c.side
def callK : Kd Cl := Kd.reading Cl.K 5 (by rintro w x cs ⟨A, cap, rfl, _⟩; rfl) (by rintro w x cs ⟨A, cap, rfl, _⟩ u hu; simp only [List.mem_cons, List.not_mem_nil, or_false] at hu; rcases hu with rfl | rfl | rfl | rfl | rfl <;> rfl) (by rintro w w1 x cs hb ⟨A, cap, rfl, h⟩; exact ⟨A, cap, rfl, h.below hb⟩)
theorem opens_call : Opens Try.prog 46 callK := by
  refine ⟨by kernel_rfl, fun {H enc w base spare held fuel cs x} h => ?_⟩
  obtain ⟨xs, n, rfl, rfl, hl, hlen, hf⟩ := DataW.trod_struct Try.underlying46 h
  have hi : Opens Try.prog 3 (Kd.int .i64) := Opens.int Try.underlying3 (by kernel_rfl)
  have hs : Opens Try.prog 22 (Kd.slice 3 (Kd.int .i64)) := Opens.slice Try.underlying22 (by kernel_rfl) hi
  have hl5 : cs.length = 5 := by rw [hl]; kernel_rfl
  have c3 : Try.prog.cellsOf 3 = 1 := by kernel_rfl
  have c22 : Try.prog.cellsOf 22 = 1 := by kernel_rfl
  have hx5 : xs.length = 5 := hlen
  obtain ⟨v0, e0⟩ := hi.op ((hf 0 _ rfl).trans (List.getElem?_eq_getElem (by omega)))
  obtain ⟨v1, e1⟩ := hi.op ((hf 1 _ rfl).trans (List.getElem?_eq_getElem (by omega)))
  obtain ⟨v2, e2⟩ := hi.op ((hf 2 _ rfl).trans (List.getElem?_eq_getElem (by omega)))
  obtain ⟨v3, e3⟩ := hi.op ((hf 3 _ rfl).trans (List.getElem?_eq_getElem (by omega)))
  obtain ⟨v4, A, c, e4, _, hC⟩ := hs.op ((hf 4 _ rfl).trans (List.getElem?_eq_getElem (by omega)))
  match cs, hl5 with
  | [u0, u1, u2, u3, u4], _ =>
    have f0 : ([u0, u1, u2, u3, u4].drop 0).take (Try.prog.cellsOf 3) = [.int .i64 v0] := e0
    rw [c3] at f0
    have e0' : [u0] = [.int .i64 v0] := f0
    have f1 : ([u0, u1, u2, u3, u4].drop 1).take (Try.prog.cellsOf 3) = [.int .i64 v1] := e1
    rw [c3] at f1
    have e1' : [u1] = [.int .i64 v1] := f1
    have f2 : ([u0, u1, u2, u3, u4].drop 2).take (Try.prog.cellsOf 3) = [.int .i64 v2] := e2
    rw [c3] at f2
    have e2' : [u2] = [.int .i64 v2] := f2
    have f3 : ([u0, u1, u2, u3, u4].drop 3).take (Try.prog.cellsOf 3) = [.int .i64 v3] := e3
    rw [c3] at f3
    have e3' : [u3] = [.int .i64 v3] := f3
    have f4 : ([u0, u1, u2, u3, u4].drop 4).take (Try.prog.cellsOf 22) = [.slice A v4.length c] := e4
    rw [c22] at f4
    have e4' : [u4] = [.slice A v4.length c] := f4
    injection e0' with e0'
    injection e1' with e1'
    injection e2' with e2'
    injection e3' with e3'
    injection e4' with e4'
    subst e0' e1' e2' e3' e4'
    exact ⟨⟨v0, v1, v2, v3, v4⟩, A, c, rfl, Kd.reads_of_C (d := 0) hC⟩
end Go.Proofs.Ytepmnkelfaiapaa
