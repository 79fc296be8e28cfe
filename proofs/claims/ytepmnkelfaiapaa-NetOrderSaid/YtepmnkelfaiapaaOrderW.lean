/- The walk of NetOrder. -/
import Derived.Test.YtepmnkelfaiapaaLawN
set_option linter.unusedVariables false
set_option linter.unusedSimpArgs false
namespace Go.Proofs.Ytepmnkelfaiapaa
open Go.RowKit Go.Proofs.YtepmnkelfaiapaaW.PrintWords Go.Proofs.Mine

/-- The first k messages. -/
def msN (k : Nat) : List Pm := (List.range k).map fun (j : Nat) => (⟨0, 0, 1, (j : Int) + 1⟩ : Pm)
theorem msN_succ (k : Nat) : msN (k + 1) = msN k ++ [⟨0, 0, 1, (k : Int) + 1⟩] := by simp [msN, List.range_succ]
theorem msN_length (k : Nat) : (msN k).length = k := by simp [msN]
theorem sendL_free (l ms : List Pm) (n : Int) : sendL ⟨l, none, n⟩ ms = ⟨l ++ ms, none, n⟩ := by
  induction ms generalizing l with
  | nil => simp [sendL]
  | cons m ms ih =>
    have : sendL ⟨l, none, n⟩ (m :: ms) = sendL ⟨l ++ [m], none, n⟩ ms := by
      show sendL (send1 ⟨l, none, n⟩ m) ms = _
      congr 1
    rw [this, ih, List.append_assoc, List.singleton_append]
/-- A row of the call's own beside the net has been appended to. -/
theorem NetIn.beside {w0 wr w4 : World} {b : Nat} {s : NSt} {F : Nat → Prop} {v : Value} {l : List Pm} (h : NetIn w0 b s wr F) (hR : msgK.R 32 wr w0.heap.size (fun j => ¬ F j) v l) (hg : wr.grownBy w4 v.ownBlock) : NetIn w0 b s w4 F :=
  h.keep (G := fun k => v.ownBlock = some k) (Keep.of_grown hg (fun _ h => h)) (fun k hk => ⟨((Kd.R_bound hR).1 k hk).2.1, hR.1 k hk⟩)
theorem deliver_first {w : World} {base b : Nat} {F : Nat → Prop} {s : NSt} {m : Pm} {r : List Pm} (h : NetAt w base F b s) (hl : s.l = m :: r) (hl2 : s.l.length < 1000000) :
    Calls Try.prog 12 #[.pointer (some ⟨b, 0, none⟩), .int .i64 0] w fun e w' => e = .returned (.tuple #[.agg #[.int .i64 m.f, .int .i64 m.t, .int .i64 0, .int .i64 m.k, .int .i64 0, .int .i64 m.i, .int .i64 0, .int .i64 0, .bool false, .slice none 0 0, .slice none 0 0, .slice none 0 0, .slice none 0 0], .int .i64 0]) ∧ Net' w base F b { s with l := r } w' := by
  have h0 : gotI s 0 = 0 := by simp [gotI]
  have h1 : gotV s 0 = .tuple #[.agg #[.int .i64 m.f, .int .i64 m.t, .int .i64 0, .int .i64 m.k, .int .i64 0, .int .i64 m.i, .int .i64 0, .int .i64 0, .bool false, .slice none 0 0, .slice none 0 0, .slice none 0 0, .slice none 0 0], .int .i64 0] := by unfold gotV got; rw [h0, hl]; rfl
  have h2 : dels s 0 = { s with l := r } := by unfold dels; rw [h0, hl]; rfl
  have := deliver_any w base F b s 0 h hl2
  rw [h1, h2] at this
  exact this
theorem deliver_none {w : World} {base b : Nat} {F : Nat → Prop} {s : NSt} (k : Int) (h : NetAt w base F b s) (hl : s.l = []) :
    Calls Try.prog 12 #[.pointer (some ⟨b, 0, none⟩), .int .i64 k] w fun e w' => e = .returned (.tuple #[.agg #[.int .i64 0, .int .i64 0, .int .i64 0, .int .i64 0, .int .i64 0, .int .i64 0, .int .i64 0, .int .i64 0, .bool false, .slice none 0 0, .slice none 0 0, .slice none 0 0, .slice none 0 0], .int .i64 2]) ∧ Net' w base F b s w' := by
  have h1 : got s k = none := by unfold got; rw [hl]; rfl
  have h2 : gotV s k = .tuple #[.agg #[.int .i64 0, .int .i64 0, .int .i64 0, .int .i64 0, .int .i64 0, .int .i64 0, .int .i64 0, .int .i64 0, .bool false, .slice none 0 0, .slice none 0 0, .slice none 0 0, .slice none 0 0], .int .i64 2] := by unfold gotV; rw [h1]; rfl
  have := deliver_any w base F b s k h (by rw [hl]; decide)
  rw [h2, got_none_dels h1] at this
  exact this
theorem code_none {s : NSt} (k : Int) (hl : s.l = []) : codeOf s k = 2 ∧ drops s k = s ∧ dbls s k = s := by
  have h1 : got s k = none := by unfold got; rw [hl]; rfl
  refine ⟨by unfold codeOf; rw [h1]; rfl, by unfold drops; rw [h1]; rfl, by unfold dbls; rw [h1]⟩
/-- A row of the call's own is sent by a net without a cut. -/
theorem send_free {w0 w : World} {b n c : Nat} {F : Nat → Prop} {A : Option Addr} {sent l : List Pm} (h : NetIn w0 b ⟨sent, none, 0⟩ w F) (hR : msgK.R 32 w w0.heap.size (fun j => ¬ F j) (.slice A l.length c) l) (hn : l.length = n) (hb : sent.length + l.length ≤ 1000) :
    Calls Try.prog 10 #[.pointer (some ⟨b, 0, none⟩), .slice A n c] w fun e w' => e = .returned (.tuple #[]) ∧ ∃ F', NetIn w0 b ⟨sent ++ l, none, 0⟩ w' F' := by
  obtain ⟨A1, c1, he, hle, hC⟩ := Kd.R_reads hR
  injection he with e1 e2 e3
  subst e1 e3 hn
  refine (send_any w w0.heap.size F b ⟨sent, none, 0⟩ A c l h.1 hC (fun ad h1 => hR.1 ad.block (by rw [h1]; rfl)) (by show sent.length + l.length ≤ 100000; omega) (by show (0 : Int) ≤ 0; omega) (by show (0 : Int) + (l.length : Int) ≤ 1000000; omega)).mono ?_
  rintro e w' ⟨rfl, hN⟩
  rw [sendL_free] at hN
  obtain ⟨F', h1, _, _⟩ := h.step hN
  exact ⟨rfl, F', h1⟩
set_option maxRecDepth 100000 in
set_option maxHeartbeats 2000000 in
theorem order_any (n : Int) (A : Option Addr) (cap : Nat) (lp : List Int) (w : World) (hn : (Lit.int .i64 n).wf = true) (hr : ReadsInt w .i64 A lp.length lp) (hc : lp.length ≤ cap) (hy : lp.length * 8 ≤ 140737488351232) (hw : ∀ x ∈ lp, (Lit.int .i64 x).wf = true) :
    Calls Try.prog 3 #[.int .i64 n, .slice A lp.length cap] w fun e w' => e = .returned (.bool true) ∧ Below w.heap.size w w' := by
  have HR := Lib.hid hr
  clear hr
  obtain ⟨N, hN⟩ : ∃ N : Nat, n % 40 = (N : Int) := ⟨(n % 40).toNat, by have := Int.emod_nonneg n (show (40 : Int) ≠ 0 by omega); omega⟩
  have hN40 : N < 40 := by have := Int.emod_lt_of_pos n (show (0 : Int) < 40 by omega); omega
  generalize hlp : lp.length = LP at *
  go_enter Try.func3, Try.ntmps3
  go_wp2_with (first
    | (go_at_call 7; refine (known_any _).mono ?_; rintro e w1 ⟨rfl, hB⟩; have HB1 := Lib.hid hB; clear hB)
    | (go_at_call 8; refine (within_any _ 40 _ (by omega) (by omega)).mono ?_; rintro e w2 ⟨rfl, rfl⟩; rw [hN])
    | (go_at_call 9; refine (new_any _).mono ?_; rintro e w3 ⟨rfl, hw3⟩
       have N3 := Lib.hid (NetIn.new HB1.out); rw [← hw3] at N3; have hz3 := HB1.out.size; have hz4 : w1.heap.size < w3.heap.size := (by rw [hw3]; simp); clear hw3))
  generalize hb : w1.heap.size = b at *
  go_loopw [6, 7, 8] (fun lv av iv wr => ∃ (k a : Nat) (sent l : List Pm) (F : Nat → Prop), k ≤ N ∧ iv = .int .i64 ((k : Int) + 1) ∧ av = .int .i64 a ∧ a ≤ k ∧ sent ++ l = msN k ∧ (k = N → l = []) ∧ NetIn w b ⟨sent, none, 0⟩ wr F ∧ msgK.R 32 wr w.heap.size (fun j => ¬ F j) lv l) (fun lv av iv _ => N + 1 - (intOf iv).toNat)
  case atStart => exact ⟨0, 0, [], [], _, by omega, rfl, rfl, by omega, rfl, fun _ => rfl, N3.out, Kd.R_nil _ _ _ _ _⟩
  case round =>
    obtain ⟨k, a, sent, l, F, hk, rfl, rfl, hak, hsl, hlast, hNet, hR⟩ := hrel
    by_cases hlt : k < N
    · obtain ⟨A0, c0, rfl⟩ := Kd.R_slice hR
      have hll : sent.length + l.length = k := by rw [← List.length_append, hsl, msN_length]
      have HNet := Lib.hid hNet
      have HRl := Lib.hid hR
      have HSL := Lib.hid hsl
      have hws : w.heap.size ≤ wr.heap.size := hNet.2.size
      clear hNet hR hsl hlast
      have hfr : ∀ j, wr.heap.size ≤ j → ¬ F j := fun j hj hF => by have := (HNet.out.1.2.1 j hF).2; omega
      have hx : ∃ y : Nat, y < 6 ∧ (a < LP → ∃ ad, A = some ad ∧ w.cell? (ad.add a) = some (.int .i64 (rd lp a)) ∧ rd lp a % 6 = (y : Int)) := by
        refine ⟨(rd lp a % 6).toNat, by omega, fun ha => ?_⟩
        obtain ⟨ad, h1, h2⟩ := HR.out.at_ a (by omega) (by omega)
        exact ⟨ad, h1, by simpa using h2, by omega⟩
      obtain ⟨y, hy6, hx⟩ := hx
      have hkN : (k + 1 = N ∧ (((k : Int) + 1 == (N : Int)) = true)) ∨ (¬ k + 1 = N ∧ (((k : Int) + 1 == (N : Int)) = false)) := by
        by_cases h : k + 1 = N
        · exact .inl ⟨h, by simp; omega⟩
        · exact .inr ⟨h, by simp; omega⟩
      by_cases hap : a < LP
      · obtain ⟨ad, rfl, hcell, hmod⟩ := hx hap
        rcases hkN with ⟨hkN, hkb⟩ | ⟨hkN, hkb⟩
        all_goals
          go_wp2_with (first
            | (at_builtin; refine Kd.R_append msgK (w0 := wr) w.heap.size rfl _ _ 27 32 _ 168 rfl Try.underlying27 Try.info32 rfl (by decide) (by decide) (.slice A0 l.length c0) l ⟨0, 0, 1, (k : Int) + 1⟩ (⟨0, 0, 1, (k : Int) + 1⟩ : Pm).cells (fun j => ¬ F j) (fun _ => False) rfl rfl rfl (fun _ h => h.elim) hfr HRl.out (Below.refl _ _) hws (by omega) ?_
               intro v1 w4 hR4 hB4 hg4 hat4
               obtain ⟨A1, c1, rfl⟩ := Kd.R_slice hR4
               have hN4 := HNet.out.beside HRl.out hg4
               have hl4 : (l ++ [(⟨0, 0, 1, (k : Int) + 1⟩ : Pm)]).length = l.length + 1 := List.length_append
               have hcell4 := pw_cell_below hN4.2 hcell
               have HS := Lib.hid (send_free hN4 hR4 hl4 (by omega))
               rw [hl4] at hR4
               have HN4 := Lib.hid hN4
               have HR4 := Lib.hid hR4
               clear hR4 hB4 hg4 hat4 hN4 hl4)
            | (go_at_call 8; refine (within_any _ 6 _ (by omega) (by omega)).mono ?_; rintro e w5 ⟨rfl, rfl⟩; rw [hmod])
            | (go_at_call 10; refine HS.out.mono ?_; rintro e w6 ⟨rfl, F6, hN6⟩
               have HN6 := Lib.hid hN6
               clear hN6))
          all_goals first
            | (refine ⟨⟨k + 1, a + 1, _, [], F6, by omega, by simp, by simp, by omega, ?_, fun _ => rfl, HN6.out, Kd.R_nil _ _ _ _ _⟩, by simp [intOf]; omega⟩
               rw [List.append_nil, ← List.append_assoc, HSL.out, msN_succ])
            | (refine ⟨⟨k + 1, a, sent, _, F, by omega, by simp, rfl, by omega, ?_, fun h => absurd h hkN, HN4.out, HR4.out⟩, by simp [intOf]; omega⟩
               rw [← List.append_assoc, HSL.out, msN_succ])
      · clear hx
        rcases hkN with ⟨hkN, hkb⟩ | ⟨hkN, hkb⟩
        all_goals
          go_wp2_with (first
            | (at_builtin; refine Kd.R_append msgK (w0 := wr) w.heap.size rfl _ _ 27 32 _ 168 rfl Try.underlying27 Try.info32 rfl (by decide) (by decide) (.slice A0 l.length c0) l ⟨0, 0, 1, (k : Int) + 1⟩ (⟨0, 0, 1, (k : Int) + 1⟩ : Pm).cells (fun j => ¬ F j) (fun _ => False) rfl rfl rfl (fun _ h => h.elim) hfr HRl.out (Below.refl _ _) hws (by omega) ?_
               intro v1 w4 hR4 hB4 hg4 hat4
               obtain ⟨A1, c1, rfl⟩ := Kd.R_slice hR4
               have hN4 := HNet.out.beside HRl.out hg4
               have hl4 : (l ++ [(⟨0, 0, 1, (k : Int) + 1⟩ : Pm)]).length = l.length + 1 := List.length_append
               have HS := Lib.hid (send_free hN4 hR4 hl4 (by omega))
               rw [hl4] at hR4
               have HN4 := Lib.hid hN4
               have HR4 := Lib.hid hR4
               clear hR4 hB4 hg4 hat4 hN4 hl4)
            | (go_at_call 10; refine HS.out.mono ?_; rintro e w6 ⟨rfl, F6, hN6⟩
               have HN6 := Lib.hid hN6
               clear hN6))
          all_goals first
            | (refine ⟨⟨k + 1, a + 1, _, [], F6, by omega, by simp, by simp, by omega, ?_, fun _ => rfl, HN6.out, Kd.R_nil _ _ _ _ _⟩, by simp [intOf]; omega⟩
               rw [List.append_nil, ← List.append_assoc, HSL.out, msN_succ])
            | (refine ⟨⟨k + 1, a, sent, _, F, by omega, by simp, rfl, by omega, ?_, fun h => absurd h hkN, HN4.out, HR4.out⟩, by simp [intOf]; omega⟩
               rw [← List.append_assoc, HSL.out, msN_succ])
    · obtain rfl : k = N := by omega
      obtain rfl := hlast rfl
      rw [List.append_nil] at hsl
      subst hsl
      obtain ⟨A0, c0, rfl⟩ := Kd.R_slice hR
      have HNet := Lib.hid hNet
      have hkk := msN_length k
      clear hNet hR hlast hlt
      simp only [List.length_nil]
      go_wp2_with (go_at_call 11; refine (len_any _ w.heap.size F b _ HNet.out.1).mono ?_; rintro e w5 ⟨rfl, rfl⟩; simp only [hkk])
      go_loopw [9] (fun iv wr => ∃ (j : Nat) (F : Nat → Prop), j ≤ k ∧ iv = .int .i64 ((j : Int) + 1) ∧ NetIn w b ⟨(msN k).drop j, none, 0⟩ wr F) (fun iv _ => k + 1 - (intOf iv).toNat)
      case atStart => exact ⟨0, F, by omega, rfl, HNet.out⟩
      case round =>
        obtain ⟨j, F2, hj, rfl, hN2⟩ := hrel
        have HN2 := Lib.hid hN2
        clear hN2
        by_cases hjk : j < k
        · have hd : (msN k).drop j = ⟨0, 0, 1, (j : Int) + 1⟩ :: (msN k).drop (j + 1) := by
            rw [List.drop_eq_getElem_cons (by rw [hkk]; exact hjk)]
            simp [msN]
          have hln : ((msN k).drop j).length < 1000000 := by rw [List.length_drop, hkk]; omega
          have hdl := deliver_first (w := wr) (b := b) (base := w.heap.size) HN2.out.1 hd hln
          have HD := Lib.hid hdl
          clear hdl hd hln
          go_wp2_with (go_at_call 12; refine HD.out.mono ?_; rintro e w6 ⟨rfl, hN6⟩; obtain ⟨F6, hN6, _, _⟩ := HN2.out.step hN6; have HN6 := Lib.hid hN6; clear hN6)
          refine ⟨⟨j + 1, F6, by omega, by simp, HN6.out.alloc _⟩, by simp [intOf]; omega⟩
        · obtain rfl : j = k := by omega
          rw [List.drop_of_length_le (by rw [hkk]; omega)] at HN2
          have hce := code_none (s := (⟨[], none, 0⟩ : NSt)) 1 rfl
          have hdn := Lib.hid (deliver_none (w := wr) (b := b) (base := w.heap.size) 0 HN2.out.1 rfl)
          obtain ⟨hc1, hc2, hc3⟩ := hce
          go_wp2_with (first
            | (go_at_call 12; refine hdn.out.mono ?_; rintro e w6 ⟨rfl, hN6⟩; obtain ⟨F6, hN6, _, _⟩ := HN2.out.step hN6; have HN6 := Lib.hid (hN6.alloc (.cells #[.int .i64 0, .int .i64 0, .int .i64 0, .int .i64 0, .int .i64 0, .int .i64 0, .int .i64 0, .int .i64 0, .bool false, .slice none 0 0, .slice none 0 0, .slice none 0 0, .slice none 0 0] 32)); clear hN6)
            | (go_at_call 13; refine (lost_any _ w.heap.size F6 b _ HN6.out.1).mono ?_; rintro e w7 ⟨rfl, rfl⟩)
            | (go_at_call 14; refine (drop_any _ w.heap.size F6 b _ 1 HN6.out.1 (by decide) (by decide) (by decide)).mono ?_; rintro e w8 ⟨rfl, hN8⟩; rw [hc2] at hN8; obtain ⟨F8, hN8, _, _⟩ := HN6.out.step hN8; have HN8 := Lib.hid hN8; clear hN8; rw [hc1])
            | (go_at_call 15; refine (double_any _ w.heap.size F8 b _ 1 HN8.out.1 (by decide)).mono ?_; rintro e w9 ⟨rfl, hN9⟩; obtain ⟨F9, hN9, _, _⟩ := HN8.out.step hN9; have HN9 := Lib.hid hN9; clear hN9; rw [hc1]))
          go_ret
          exact ⟨rfl, HN9.out.2⟩
end Go.Proofs.Ytepmnkelfaiapaa
