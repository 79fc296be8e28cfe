/- The row that wire reads from: rows of numbers, configurations, entries. -/
import Derived.Test.YtkdlghbfplhkpaaDoorRdX
set_option linter.unusedVariables false
set_option linter.unusedSimpArgs false
namespace Go.Proofs.YtkdlghbfplhkpaaDoor
open Go.RowKit Go.Proofs.YtkdlghbfplhkpaaDoorW.PrintWords Go.Proofs.Mine

def RdInts (w : World) (base : Nat) (F : Nat → Prop) (b : Nat) (s : St) (l : List Int) (r : Ending) (w' : World) : Prop :=
  ∃ v F', r = .returned v ∧ w'.ownsRow w.heap.size 3 1 v l.length (nums .i64 l) ∧ RdAt w' base F' b s ∧ (∀ k, F' k → F k ∨ w.heap.size ≤ k) ∧ Keep (fun k => k = b) w w' ∧ ∀ k, v.ownBlock = some k → ¬ F' k
theorem not_later {w : World} {F F' : Nat → Prop} {v : Value} (hF : ∀ k, F' k → F k ∨ w.heap.size ≤ k) (h : ∀ k, v.ownBlock = some k → ¬ F k) (hl : ∀ k, v.ownBlock = some k → k < w.heap.size) : ∀ k, v.ownBlock = some k → ¬ F' k := fun k hk hf => by
  rcases hF k hf with e | e
  · exact h k hk e
  · have := hl k hk; omega
set_option maxRecDepth 100000 in
set_option maxHeartbeats 4000000 in
theorem numbers_any (most : Int) (w : World) (base b : Nat) (F : Nat → Prop) (s : St) (h : RdAt w base F b s) :
    Calls Tryd.prog 40 #[.pointer (some ⟨b, 0, none⟩), .int .i64 most] w (RdInts w base F b (numbersS s most) (numbersV s most)) := by
  have HH := Lib.hid h
  have hv := oneV_byte h.2.2.1
  obtain ⟨n, hn, hn255⟩ : ∃ n : Nat, countV s most = (n : Int) ∧ n ≤ 255 := by
    unfold countV
    split
    · exact ⟨0, rfl, by omega⟩
    · exact ⟨(oneV s).toNat, by omega, by omega⟩
  unfold numbersS numbersV
  rw [hn, Int.toNat_natCast]
  have HN := Lib.hid hn
  clear hn hv h
  generalize hs0 : countS s most = s0 at *
  have HS0 := Lib.hid hs0
  clear hs0
  go_enter Tryd.func40, Tryd.ntmps40
  go_wp2_with (go_at_call 41; refine (count_any most w base b F s HH.out).mono ?_; rintro r w1 ⟨rfl, F1, h1, hF1, hK1⟩; rw [HN.out]; rw [HS0.out] at h1; have H1 := Lib.hid h1; have HF1 := Lib.hid hF1; have HK1 := Lib.hid hK1; clear h1 hF1 hK1)
  go_loopw [5, 6] (fun u nv wr => ∃ (m : Nat) (s' : St) (done : List Int) (G : Nat → Prop), nv = .int .i64 (m : Int) ∧ done.length + m ≤ 255 ∧ RowKit.Hid (numsL n s0 = (done ++ (numsL m s').1, (numsL m s').2)) ∧ RowKit.Hid (RdAt wr base G b s') ∧ RowKit.Hid (∀ k, G k → F k ∨ w.heap.size ≤ k) ∧ RowKit.Hid (Keep (fun k => k = b) w wr) ∧ RowKit.Hid (wr.ownsRow w.heap.size 3 1 u done.length (nums .i64 done)) ∧ RowKit.Hid (∀ k, u.ownBlock = some k → ¬ G k)) (fun _ nv _ => (intOf nv).toNat)
  case atStart => exact ⟨n, s0, [], F1, rfl, by simpa using hn255, Lib.hid (by simp), H1, HF1, HK1, Lib.hid (own_nil _ _ _ _), Lib.hid (fun k hk => by simp [Value.ownBlock] at hk)⟩
  case round =>
    obtain ⟨m, s', dn, G, rfl, hle, HE, HR, HGF, HK, HO, HOG⟩ := hrel
    obtain ⟨ev, hc1, hev⟩ := rd_err HR.out
    obtain ⟨Au, cu, rfl⟩ := own_slice HO.out
    cases m with
    | zero =>
      have hz : ((0 : Nat) : Int) = 0 := rfl
      rw [hz]
      have hfin := HE.out
      simp only [numsL, List.append_nil] at hfin
      have HFIN := Lib.hid hfin
      clear hfin hev hz
      go_wp2
      go_ret
      rw [HFIN.out]
      exact ⟨_, G, rfl, HO.out, HR.out, HGF.out, HK.out, HOG.out⟩
    | succ m =>
      have hm0 : (0 : Int) < (m : Int) + 1 := by omega
      have hmc : ((m + 1 : Nat) : Int) = (m : Int) + 1 := by push_cast; rfl
      rw [hmc]
      by_cases h0 : s'.2 = 0
      · obtain rfl : ev = .nilIface := hev.elim (fun h => h.2) (fun h => absurd h0 h.1)
        have hst : numsL n s0 = ((dn ++ [numV s']) ++ (numsL m (numS s')).1, (numsL m (numS s')).2) := by
          rw [HE.out, numsL, if_pos h0]; simp
        have HST := Lib.hid hst
        clear hst h0 hev hmc
        generalize hnv : numV s' = x at *
        have HNV := Lib.hid hnv
        clear hnv
        go_wp2_with (first
          | (go_at_call 36; refine (number_any wr base b G s' HR.out).mono ?_; rintro r w2 ⟨rfl, G2, h2, hG2, hK2⟩
             rw [HNV.out]
             have H2 := Lib.hid h2
             have HG2 := Lib.hid hG2
             have HK2 := Lib.hid hK2
             have ho2 := hK2.own HO.out (fun k hk e => HOG.out k hk (by subst e; exact HR.out.1))
             have HO2 := Lib.hid ho2
             have HS2 := Lib.hid hK2.size
             clear h2 hG2 hK2 ho2)
          | (at_builtin; refine print_append_num (w0 := w2) (W := w2) w.heap.size rfl _ _ 25 3 .i64 8 rfl Tryd.underlying25 info3 (by decide) (.slice Au dn.length cu) dn x rfl rfl HO2.out (Below.refl _ _) (Nat.le_trans HK.out.size HS2.out) (by omega) ?g6))
        case g6 =>
          intro v3 w3 hown hB3 hg3 hat3
          have hown' : w3.ownsRow w.heap.size 3 1 v3 (dn ++ [x]).length (nums .i64 (dn ++ [x])) := by simpa using hown
          have hoG2 := not_later HG2.out HOG.out (own_lt HO.out)
          have hk3 : Keep (fun k => (Value.slice Au dn.length cu).ownBlock = some k) w2 w3 := Keep.of_grown hg3 (fun k hk => hk)
          have hr3 := H2.out.keep hk3 (fun j hj e => hoG2 j e hj)
          have hkk : Keep (fun k => k = b) w w3 := by
            have h1 := HK.out.trans HK2.out (fun k e => .inl e)
            refine ⟨hk3.os.trans h1.os, hk3.tape.trans h1.tape, hk3.output.trans h1.output, Nat.le_trans h1.size hk3.size, fun k hk hn => ?_⟩
            rw [hk3.block k (Nat.lt_of_lt_of_le hk h1.size) (fun e => by have := own_base HO.out k e; omega)]
            exact h1.block k hk hn
          have hoG3 : ∀ k, v3.ownBlock = some k → ¬ G2 k := fun k hk hf => by
            rcases hat3 with e | ⟨bb, e, hle2⟩
            · exact hoG2 k (e ▸ hk) hf
            · rw [e] at hk; injection hk with hk; have := (H2.out.2.1 k hf).2; omega
          have hGF2 : ∀ k, G2 k → F k ∨ w.heap.size ≤ k := fun k hk => by
            rcases HG2.out k hk with e | e
            · exact HGF.out k e
            · exact .inr (by have := HK.out.size; omega)
          have L1 := Lib.hid hown'
          have L2 := Lib.hid hr3
          have L3 := Lib.hid hkk
          have L4 := Lib.hid hoG3
          have L5 := Lib.hid hGF2
          clear hown hown' hB3 hg3 hat3 hoG2 hk3 hr3 hkk hoG3 hGF2
          go_wp2
          exact ⟨⟨m, numS s', dn ++ [x], G2, by simp, by rw [List.length_append]; simp only [List.length_cons, List.length_nil]; omega, HST, L2, L5, L3, L1, L4⟩, by simp [intOf]⟩
      · obtain ⟨b2, rfl⟩ : ∃ b2, ev = .iface 108 (.pointer (some ⟨b2, 0, none⟩)) := hev.elim (fun h => absurd h.1 h0) (fun ⟨_, b2, h, _⟩ => ⟨b2, h⟩)
        have hfin := HE.out
        rw [numsL, if_neg h0, List.append_nil] at hfin
        have HFIN := Lib.hid hfin
        clear hfin hev h0 hmc
        go_wp2
        go_ret
        rw [HFIN.out]
        exact ⟨_, G, rfl, HO.out, HR.out, HGF.out, HK.out, HOG.out⟩
end Go.Proofs.YtkdlghbfplhkpaaDoor
