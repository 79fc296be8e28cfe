/- The walks of slices.IndexFunc, DeleteFunc over messages, the function being 'is it cut'. -/
import Derived.Test.YtepmnkelfaiapaaDelvW
set_option linter.unusedVariables false
set_option linter.unusedSimpArgs false
namespace Go.Proofs.Ytepmnkelfaiapaa
open Go.RowKit Go.Proofs.YtepmnkelfaiapaaW.PrintWords Go.Proofs.Mine

def isCut (s : NSt) (m : Pm) : Bool := cutS s.side m.f m.t
def cutIdx (s : NSt) (l : List Pm) : Int := match l.findIdx? (isCut s) with | none => -1 | some i => (i : Int)
set_option maxRecDepth 100000 in
set_option maxHeartbeats 1000000 in
theorem index_any (w : World) (base : Nat) (F : Nat → Prop) (b : Nat) (s : NSt) (g cap : Nat) (l : List Pm) (h : NetAt w base F b s) (A : Option Addr) (hA : 0 < l.length → A = some ⟨g, 0, none⟩ ∧ RowM w g cap l) (hl : l.length < 1000000) :
    Calls Try.prog 26 #[.slice A l.length cap, .func (.func 19) #[.pointer (some ⟨b, 0, none⟩)] #[]] w fun e w' => e = .returned (.int .i64 (cutIdx s l)) ∧ Below w.heap.size w w' := by
  have H := Lib.hid h
  have HA := Lib.hid hA
  clear h hA
  go_enter Try.func26, Try.ntmps26
  go_wp2
  go_loopw [8] (fun iv wr => ∃ k : Nat, k ≤ l.length ∧ iv = .int .i64 k ∧ (∀ j m, j < k → l[j]? = some m → isCut s m = false) ∧ Below w.heap.size w wr) (fun iv _ => l.length - (intOf iv).toNat)
  case atStart => exact ⟨0, by omega, rfl, fun j m hj => by omega, Below.refl _ _⟩
  case round =>
    obtain ⟨k, hk, rfl, hno, hB⟩ := hrel
    by_cases hlt : k < l.length
    · obtain ⟨rfl, hrow⟩ := HA.out (by omega)
      have hm : l[k]? = some l[k] := List.getElem?_eq_getElem hlt
      generalize l[k] = m at hm
      have hKr := Keep.of_below hB (fun _ => False)
      obtain ⟨q0, q1, q2, q3, q4, q5, q6, q7, q8, q9, q10, q11, q12⟩ := (hrow.keep hKr (fun h => h)).get hm
      have hcu := cut_any wr base F b s m (H.out.keep hKr (fun _ _ h => h))
      unfold mval at hcu
      have HC := Lib.hid hcu
      have HN := Lib.hid hno
      have HB := Lib.hid hB
      have HM := Lib.hid hm
      clear hcu hno hB hKr hrow hm
      cases hc : isCut s m
      · go_wp2_with (go_at_call 19; refine HC.out.mono ?_; rintro e w2 ⟨rfl, hB2⟩; rw [show cutS s.side m.f m.t = false from hc]; have HB2 := Lib.hid (HB.out.trans (hB2.mono HB.out.size)); clear hB2)
        refine ⟨⟨k + 1, by omega, by simp, fun j m' hj hm' => ?_, HB2.out⟩, by simp [intOf]; omega⟩
        by_cases hjk : j < k
        · exact HN.out j m' hjk hm'
        · obtain rfl : j = k := by omega
          rw [HM.out] at hm'
          injection hm' with hm'
          subst hm'
          exact hc
      · go_wp2_with (go_at_call 19; refine HC.out.mono ?_; rintro e w2 ⟨rfl, hB2⟩; rw [show cutS s.side m.f m.t = true from hc]; have HB2 := Lib.hid (HB.out.trans (hB2.mono HB.out.size)); clear hB2)
        have hf : cutIdx s l = (k : Int) := by
          suffices hq : l.findIdx? (isCut s) = some k by unfold cutIdx; rw [hq]
          rw [List.findIdx?_eq_some_iff_getElem]
          have hmk := HM.out
          rw [List.getElem?_eq_getElem hlt] at hmk
          injection hmk with hmk
          refine ⟨hlt, by rw [hmk]; exact hc, fun j hj => ?_⟩
          rw [HN.out j _ hj (List.getElem?_eq_getElem (by omega))]
          simp
        go_ret
        rw [hf]
        exact ⟨rfl, HB2.out⟩
    · obtain rfl : k = l.length := by omega
      have hf : cutIdx s l = -1 := by
        suffices hq : l.findIdx? (isCut s) = none by unfold cutIdx; rw [hq]
        rw [List.findIdx?_eq_none_iff]
        intro m hm
        obtain ⟨j, hj, rfl⟩ := List.getElem_of_mem hm
        exact hno j _ hj (List.getElem?_eq_getElem hj)
      have HB := Lib.hid hB
      clear hB hno
      go_wp2
      go_ret
      rw [hf]
      exact ⟨rfl, HB.out⟩
end Go.Proofs.Ytepmnkelfaiapaa
