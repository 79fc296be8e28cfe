/- AcceptRises as the row wants it. -/
import Derived.Test.YtgkhkcoojfjofaaDoorRisL
set_option linter.unusedVariables false
set_option linter.unusedSimpArgs false
namespace Go.Proofs.YtgkhkcoojfjofaaDoor
open Go.RowKit Go.Proofs.YtgkhkcoojfjofaaDoorW.PrintWords Go.Proofs.Mine

theorem rises_row (A0 : Option Addr) (c0 : Nat) (l : List Co) (w : World) (hg : Laid w) (hr : coK.C w A0 l.length l) (_ : l.length ≤ c0) :
    Calls Tryd.prog 3 #[.slice A0 l.length c0] w fun e w' => e = .returned (.bool true) ∧ Below w.heap.size w w' := by
  obtain ⟨hs, h1, h2⟩ := ch_of hr
  have hl : l.length = hs.length := h1.1.symm
  rw [hl] at h1 ⊢
  exact rises_any A0 c0 hs w hg h1 h2
end Go.Proofs.YtgkhkcoojfjofaaDoor
