/- Where, Kind, Is, Clone; number, within, known. -/
import Derived.Test.YtgkinjfinijnnaaDoorFaultW
set_option linter.unusedVariables false
set_option linter.unusedSimpArgs false
namespace Go.Proofs.YtgkinjfinijnnaaDoor
open Go.RowKit Go.Proofs.Mine Go.Proofs.YtgkinjfinijnnaaDoorW.PrintWords

theorem str_lit0 (w : World) : Kd.string.R 9 (w.alloc (.cells #[] 9)) w.heap.size (fun k => w.heap.size ≤ k) (.slice (some ⟨w.heap.size, 0, none⟩) 0 0) [] :=
  Kd.R_of_own ⟨rfl, .inr ⟨w.heap.size, 0, #[], rfl, Nat.le_refl _, heap_alloc_new w _, Nat.le_refl _, by decide, rfl, rfl⟩⟩ (fun k hk => by
    have : w.heap.size = k := by simpa [Value.ownBlock] using hk
    show w.heap.size ≤ k
    omega)
theorem c_some {w : World} {A : Option Addr} {n : Nat} {xs : List ByteArray} (h : Kd.string.C w A n xs) (h0 : 0 < n) : ∃ ad, A = some ad := by
  obtain ⟨ad, _, hA, _⟩ := Kd.C_get h ByteArray.empty 0 (by omega) (by omega)
  exact ⟨ad, hA⟩
end Go.Proofs.YtgkinjfinijnnaaDoor
