/- The walk of LinkStamps. -/
import Derived.Test.YtgkinjfinijnnaaDoorLawL
import Derived.Deep.DeepCutAuto
set_option linter.unusedVariables false
set_option linter.unusedSimpArgs false
namespace Go.Proofs.YtgkinjfinijnnaaDoor
open Go.RowKit Go.Proofs.YtgkinjfinijnnaaDoorW.PrintWords Go.Proofs.Mine

/-- The cells of an array of numbers. -/
def arrC (l : List Int) : Array Value := (nums .i64 l).toArray
theorem arrC_set (l : List Int) (n : Nat) (v : Int) : (arrC l).setIfInBounds n (.int .i64 v) = arrC (l.set n v) := by
  unfold arrC nums
  rw [List.map_set, List.setIfInBounds_toArray]
theorem arrC_get (l : List Int) (n : Nat) (h : n < l.length) : (arrC l)[n]? = some (.int .i64 (l.getD n 0)) := by
  simp [arrC, nums, h]
theorem zero35 (w : World) : (zeroValue 35).run Tryd.prog w = .ok (.agg (arrC (List.replicate 6 0))) w := by kernel_rfl
/-- The law's own array of what was stamped to whom. -/
structure StampsR (s : LSt) (life : Int) (k : Nat) (has : List Int) : Prop where
  len : has.length = 6
  at_ : ∀ j : Nat, j < 6 → has.getD j 0 = (s.peers j).sent
  lim : ∀ j : Nat, j < 6 → 0 ≤ has.getD j 0 ∧ has.getD j 0 ≤ k
  life_ : s.life = life
  ref : s.refused = 0
theorem stampsR0 (life : Int) : StampsR (link0 2 life) life 0 (List.replicate 6 0) := by
  have h : ∀ j : Nat, j < 6 → (List.replicate 6 (0 : Int)).getD j 0 = 0 := fun j hj => by
    rw [List.getD_eq_getElem?_getD, List.getElem?_replicate, if_pos (by omega)]; rfl
  exact ⟨by simp, fun j hj => h j hj, fun j hj => by rw [h j hj]; omega, rfl, rfl⟩
theorem StampsR.stamp {s : LSt} {life : Int} {k m : Nat} {has : List Int} (h : StampsR s life k has) (hm : m < 6) : StampsR (stampL s m) life (k + 1) (has.set m (has.getD m 0 + 1)) := by
  have hg : ∀ j : Nat, (has.set m (has.getD m 0 + 1)).getD j 0 = if j = m then has.getD m 0 + 1 else has.getD j 0 := fun j => by
    by_cases e : j = m
    · subst e
      have : j < has.length := by rw [h.len]; exact hm
      simp [List.getD_eq_getElem?_getD, this]
    · rw [if_neg e]
      simp [List.getD_eq_getElem?_getD, List.getElem?_set, Ne.symm e]
  refine ⟨by rw [List.length_set]; exact h.len, fun j hj => ?_, fun j hj => ?_, h.life_, h.ref⟩
  · rw [hg]
    show _ = (updP s.peers m (stampP (s.peers m)) j).sent
    by_cases e : j = m
    · subst e
      rw [updP_at, if_pos rfl, h.at_ j hj]; rfl
    · rw [updP_other _ _ (by omega), if_neg e]; exact h.at_ j hj
  · rw [hg]
    have h1 := h.lim j hj
    have h2 := h.lim m hm
    split <;> omega
set_option maxRecDepth 100000 in
set_option maxHeartbeats 4000000 in
theorem linkStamps_any (life : Int) (A : Option Addr) (cap : Nat) (ps : List Int) (w : World) (hg : Laid w) (hr : ReadsInt w .i64 A ps.length ps) (hc : ps.length ≤ cap) :
    Calls Tryd.prog 5 #[.int .i64 life, .slice A ps.length cap] w fun e w' => e = .returned (.bool true) ∧ Below w.heap.size w w' := by
  have HR := Lib.hid hr
  have HG := Lib.hid hg
  have hmx := hr.2.1
  have ha0 := Int.emod_nonneg life (show (1000 : Int) ≠ 0 by decide)
  have ha1 := Int.emod_lt_of_pos life (show (0 : Int) < 1000 by decide)
  obtain ⟨a, ha⟩ : ∃ a, life % 1000 = a := ⟨_, rfl⟩
  rw [ha] at ha0 ha1
  have HA0 := Lib.hid ha
  have hz35 := zero35
  clear hr hg ha
  go_enter Tryd.func5, Tryd.ntmps5
  go_wp2_with (first
    | (go_at_call 7; refine (known_any _ HG.out).mono ?_; rintro e w1 ⟨rfl, hB⟩; have HB1 := Lib.hid hB; clear hB)
    | (go_at_call 8; refine (within_any _ _ _ (by decide) (by decide)).mono ?_; rintro e W' ⟨rfl, rfl⟩; rw [HA0.out])
    | (go_at_call 9; refine (new_link 2 (1 + a) _).mono ?_; rintro e w2 ⟨rfl, hw2⟩; have T2 := Lib.hid (link_new 2 (1 + a) HB1.out); rw [← hw2] at T2; have hz2 : w1.heap.size + 1 < w2.heap.size := (by rw [hw2]; simp); clear hw2))
  generalize hb : w1.heap.size + 1 = b at *
  generalize hW : w2.alloc _ = W
  have hh0 : W.heap[w2.heap.size]? = some (.cells (arrC (List.replicate 6 0)) 35 (0, 0)) := by rw [← hW]; exact heap_alloc_new w2 _
  obtain ⟨F0, T3, HNF⟩ : ∃ F, RowKit.Hid (LinkIn w b (link0 2 (1 + a)) W F) ∧ RowKit.Hid (¬ F w2.heap.size) := ⟨_, by rw [← hW]; exact T2.out.alloc _, fun h => by have h : w2.heap.size = w1.heap.size ∨ w2.heap.size = b := h; omega⟩
  generalize hn : w2.heap.size = n at *
  have hnw : w.heap.size ≤ n := by have := HB1.out.size; omega
  have HH0 := Lib.hid hh0
  clear hh0 hW T2
  go_loopw [7] (fun iv wr => ∃ (k : Nat) (has : List Int) (s : LSt) (F : Nat → Prop), k ≤ ps.length ∧ k ≤ 60 ∧ iv = .int .i64 k ∧ StampsR s (1 + a) k has ∧ LinkIn w b s wr F ∧ ¬ F n ∧ wr.heap[n]? = some (.cells (arrC has) 35 (0, 0))) (fun iv _ => 60 - (intOf iv).toNat)
  case atStart => exact ⟨0, List.replicate 6 0, _, F0, by omega, by omega, rfl, stampsR0 _, T3.out, HNF.out, HH0.out⟩
  case round =>
    obtain ⟨k, has, s, F, hk, hk60, rfl, hA, hT, hNF, hH⟩ := hrel
    have HA := Lib.hid hA
    have HT := Lib.hid hT
    have HNF1 := Lib.hid hNF
    have HH := Lib.hid hH
    clear hA hT hNF hH
    by_cases hin : k < ps.length ∧ k < 60
    · obtain ⟨hin1, hin2⟩ := hin
      obtain ⟨ad, rfl, hcell⟩ := HR.out.at_ k (by omega) (by omega)
      have hcell0 := pw_cell_below HT.out.2 hcell
      rw [Int.toNat_natCast] at hcell0
      generalize rd ps k = x at *
      clear hcell
      obtain ⟨m, hm⟩ : ∃ m : Nat, x % 6 = (m : Int) := ⟨(x % 6).toNat, by omega⟩
      have hm6 : m < 6 := by omega
      have HM := Lib.hid hm
      clear hm
      have hat := HA.out.at_ m hm6
      have hlim := HA.out.lim m hm6
      have hmi : (m : Int) < 6 := by omega
      have hm0 : (0 : Int) ≤ (m : Int) := by omega
      have hin2' : (k : Int) < 60 := by omega
      have hA2 := HA.out.stamp hm6
      have hf5 := blk_frozen HH.out m
      have hc5 : wr.cell? ⟨n, m, none⟩ = some (.int .i64 (has.getD m 0)) := (blk_cell HH.out m).trans (arrC_get has m (by rw [HA.out.len]; exact hm6))
      have hset := blk_set HH.out m (.int .i64 (has.getD m 0 + 1))
      rw [arrC_set] at hset
      have hT6 := HT.out.keep (G := fun k => k = n) ((Keep.refl _ wr).setCell ⟨n, m, none⟩ (.int .i64 (has.getD m 0 + 1)) (.inl rfl)) (fun k hk => by subst hk; exact ⟨hnw, HNF1.out⟩)
      have hlen2 : (has.set m (has.getD m 0 + 1)).length = 6 := hA2.len
      have hat2 := hA2.at_ m hm6
      have hg2 : (has.set m (has.getD m 0 + 1)).getD m 0 = has.getD m 0 + 1 := by
        have : m < has.length := by rw [HA.out.len]; exact hm6
        simp [List.getD_eq_getElem?_getD, this]
      generalize hv : has.getD m 0 = v at *
      generalize hhas2 : has.set m (v + 1) = has2 at *
      have hst := stamp_in (m : Int) hT6 (by rw [← hat]; exact hlim.1) (by rw [← hat]; omega)
      rw [← hat, show (LSt.life s) = 1 + a from HA.out.life_] at hst
      have HST := Lib.hid hst
      have HSET := Lib.hid hset
      have HA2 := Lib.hid hA2
      have HG2 := Lib.hid hg2
      clear hst hset hA2 hg2 hat hat2 hT6
      go_wp2_with (first
        | (go_at_call 8; refine (within_any _ _ _ (by decide) (by decide)).mono ?_; rintro e W' ⟨rfl, rfl⟩; rw [HM.out])
        | (go_at_call 11; refine HST.out.mono ?_; rintro e w5 ⟨rfl, F5, hT5, hF5, hK5⟩
           have hH5 := hK5.blk HSET.out HNF1.out
           have hc6 : w5.cell? ⟨n, m, none⟩ = some (.int .i64 (v + 1)) := (blk_cell hH5 m).trans ((arrC_get has2 m (by rw [hlen2]; exact hm6)).trans (by rw [HG2.out]))
           have HNF5 : RowKit.Hid (¬ F5 n) := (fun hF => by
             rcases hF5 n hF with h | h
             · exact HNF1.out h
             · have := blk_lt HSET.out; omega)
           have HH5 := Lib.hid hH5
           have HT5 := Lib.hid hT5
           clear hT5 hF5 hK5 hH5))
      exact ⟨⟨k + 1, has2, _, F5, by omega, by omega, by simp, HA2.out, HT5.out, HNF5.out, HH5.out⟩, by simp [intOf]; omega⟩
    · have HL := Lib.hid hmx
      have hrf := refused_any wr w.heap.size F b s HT.out.1
      rw [HA.out.ref] at hrf
      have HRF := Lib.hid hrf
      clear hrf
      by_cases he : k < ps.length
      all_goals
        go_wp2_with (go_at_call 13; refine HRF.out.mono ?_; rintro e w5 ⟨rfl, rfl⟩)
        go_ret
        exact ⟨rfl, HT.out.2⟩
theorem linkStamps_row (a0 : Int) (A : Option Addr) (cap : Nat) (ps : List Int) (w : World) (hg : Laid w) (_ : (Lit.int .i64 a0).wf = true) (hr : ReadsInt w .i64 A ps.length ps) (hc : ps.length ≤ cap) (_ : ps.length * 8 ≤ 140737488351232) (_ : ∀ x ∈ ps, (Lit.int .i64 x).wf = true) :
    Calls Tryd.prog 5 #[.int .i64 a0, .slice A ps.length cap] w fun e w' => e = .returned (.bool true) ∧ Below w.heap.size w w' := linkStamps_any a0 A cap ps w hg hr hc
end Go.Proofs.YtgkinjfinijnnaaDoor
