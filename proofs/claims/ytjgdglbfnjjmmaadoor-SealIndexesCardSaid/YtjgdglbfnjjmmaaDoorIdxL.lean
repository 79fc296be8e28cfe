/- The walk of SealIndexes. -/
import Derived.Test.YtjgdglbfnjjmmaaDoorIdxP
set_option linter.unusedVariables false
set_option linter.unusedSimpArgs false
namespace Go.Proofs.YtjgdglbfnjjmmaaDoor
open Go.RowKit Go.Proofs.YtjgdglbfnjjmmaaDoorW.PrintWords Go.Proofs.Mine

theorem wpAnyH_mono {P : Program} {md : Region.Mode} {ops : Array Oper} {Q : Exit → Act → World → Prop} {S S' : World → Prop} (h : ∀ w, S' w → S w) : ∀ {fuel : Nat} {listed : Array Bool} {a : Act} {w : World}, wpAnyH P md ops Q S' fuel listed a w → wpAnyH P md ops Q S fuel listed a w
  | 0, _, _, _, k => k
  | fuel + 1, _, _, _, k => ⟨k.1, fun i hi => wpOp_mono (fun a' w' h' => ⟨h w' h'.1, wpAnyH_mono h h'.2⟩) (k.2 i hi)⟩
/-- Plain, spelled as a walk meets it. -/
theorem plain_l (w : World) (bits : Int) : Calls Tryd.prog 8 #[.int .i64 bits] w fun e w' => ∃ ad c L, e = .returned (.agg #[.slice none 0 0, .slice (some ad) L.length c]) ∧ (Kd.int .i64).C w' (some ad) L.length L ∧ listE L = 0 ∧ 0 < L.length ∧ L.length ≤ 7 ∧ Below w.heap.size w w' := by
  refine (plain_any w bits).mono ?_
  rintro e w' ⟨v, rfl, hR, hB⟩
  obtain ⟨A, c, rfl, _, hC⟩ := Kd.R_reads hR
  obtain ⟨ad, _, hAd, _⟩ := Kd.C_get hC 0 0 (by omega) (by have := (plainL_fine bits).2.1; omega)
  subst hAd
  exact ⟨ad, c, _, rfl, hC, (plainL_fine bits).1, (plainL_fine bits).2.1, (plainL_fine bits).2.2, hB⟩
structure SIn (w : World) (base b k : Nat) (F : Nat → Prop) (xs : List Ge) (wr : World) : Prop where
  len : xs.length = k + 1
  ok : GOk xs
  at_ : GensAt wr base F b xs
  below : Below w.heap.size w wr
theorem SIn.last {w : World} {base b k : Nat} {F : Nat → Prop} {xs : List Ge} {wr : World} (h : SIn w base b k F xs wr) : ∃ x, xs.getLast? = some x ∧ x.g.n = (k : Int) + 1 ∧ 0 ≤ x.g.b ∧ x.g.b ≤ 4 * (k : Int) := by
  obtain ⟨x, hx⟩ : ∃ x, xs.getLast? = some x := by
    have := h.len
    cases hq : xs.getLast? with
    | none => rw [List.getLast?_eq_none_iff] at hq; subst hq; simp at this
    | some x => exact ⟨x, rfl⟩
  have hl := gok_last h.ok hx
  have := h.len
  exact ⟨x, hx, by omega, hl.2.1, by omega⟩
theorem kindB_k {r : Int} (h0 : 0 ≤ r) (h1 : r ≤ 1) : kindB (1 + r) = true := by
  obtain rfl | rfl : r = 0 ∨ r = 1 := by omega
  · rfl
  · rfl
set_option maxRecDepth 100000 in
set_option maxHeartbeats 4000000 in
theorem idx_any (A0 : Option Addr) (cap0 : Nat) (ps : List Int) (bits : Int) (w : World) (hg0 : Laid w) (hr0 : ReadsInt w .i64 A0 ps.length ps) :
    Calls Tryd.prog 3 #[.slice A0 ps.length cap0, .int .i64 bits] w fun e w' => e = .returned (.bool true) ∧ Below w.heap.size w w' := by
  have HG := Lib.hid hg0
  have R0 := Lib.hid hr0
  have hm0 := hr0.2.1
  have hf2 := fld2
  have hf0 := fld0
  clear hg0 hr0
  go_enter Tryd.func3, Tryd.ntmps3
  go_wp2_with (first
    | (go_at_call 6; refine (known_any w).mono ?_; rintro e w1 ⟨rfl, hB⟩; have HB1 := Lib.hid hB; clear hB)
    | (go_at_call 8; refine (plain_l w1 bits).mono ?_; rintro e w2 ⟨ad, c, L, rfl, hC, hE, hL0, hL7, hB⟩; have HC := Lib.hid hC; have HB2 := Lib.hid (HB1.out.trans (hB.mono HB1.out.size)); clear hB hC)
    | (go_at_call 7; refine (new_any w2 1 1 0 L ad c (by decide) rfl (by decide) hE HC.out hL0 hL7).mono ?_; rintro e w3 ⟨b, A', c', rfl, hG, hB⟩
       have HS0 := Lib.hid (show SIn w w2.heap.size b 0 _ _ w3 from ⟨rfl, gok_one _ rfl rfl, hG, HB2.out.trans (hB.mono HB2.out.size)⟩)
       have hwb : w.heap.size ≤ w2.heap.size := HB2.out.size
       generalize w2.heap.size = base at *
       clear hG hB))
  go_loopw [7] (fun iv wr => ∃ (k : Nat) (F : Nat → Prop) (xs : List Ge), k ≤ 20 ∧ k ≤ ps.length ∧ iv = .int .i64 (k : Int) ∧ SIn w base b k F xs wr) (fun iv _ => 20 - (intOf iv).toNat)
  case atStart => exact ⟨0, _, _, by omega, by omega, rfl, HS0.out⟩
  case round =>
    obtain ⟨k, F, xs, hk20, hkl, rfl, hs⟩ := hrel
    obtain ⟨x, hx, hxn, hxb0, hxb1⟩ := hs.last
    have HS := Lib.hid hs
    have HX := Lib.hid hx
    clear hs hx HS0 HC
    by_cases hlt : k < ps.length ∧ k < 20
    · obtain ⟨adp, rfl, hcp⟩ := R0.out.at_ k (by omega) (by omega)
      rw [Int.toNat_natCast] at hcp
      have q1 : wr.drew.cell? (adp.add k) = some (.int .i64 (rd ps k)) := pw_cell_below HS.out.below.drew hcp
      generalize rd ps k = q at *
      have Q0 := Lib.hid hcp
      clear hcp
      have hlt1 : (k : Int) < (ps.length : Int) := by omega
      have hlt2 : (k : Int) < 20 := by omega
      have hk0 : (0 : Int) ≤ (k : Int) := by omega
      obtain ⟨xb, hxb⟩ : ∃ z, z = x.g.b := ⟨_, rfl⟩
      obtain ⟨r, hr⟩ : ∃ z, z = (k : Int).tmod 2 := ⟨_, rfl⟩
      have hr0 : 0 ≤ r := by rw [hr]; exact Int.tmod_nonneg _ (by omega)
      have hr1 : r ≤ 1 := by rw [hr, Int.tmod_eq_emod_of_nonneg (by omega)]; omega
      have hkB := kindB_k hr0 hr1
      have hr2 := hr.symm
      rw [← hxb] at hxb0 hxb1
      have hxb2 : xb ≤ 80 := by omega
      obtain ⟨d, hd⟩ : ∃ z, z = q % 4 := ⟨_, rfl⟩
      have hd0 : 0 ≤ d := by omega
      have hd1 : d ≤ 3 := by omega
      have HXB := Lib.hid hxb
      have HD := Lib.hid hd
      have hni : ¬ xb + 1 + d ≤ xb := by omega
      have HN := Lib.hid (And.intro hni (And.intro hkB hxn))
      clear hxb hd hr hni hkB hxn
      go_wp2_with fail
      refine wp_region_noPanic ?_
      refine wp_region_held_drew (S := (fun w' => w'.cell? (adp.add k) = some (.int .i64 q))) (by kernel_rfl) ?ras0 (fun hHeld0 => ?rar0)
      case ras0 => (try dsimp only); exact q1
      refine wpAnyH_take (i := 0) (v := ?rav1) (by simp only [List.getElem?_toArray, List.getElem?_cons_zero, List.getElem?_cons_succ]; rfl) (by kernel_rfl) (by kernel_rfl) (by kernel_rfl) (fun _ _ _ h => h) (Or.inl ⟨by rfl, ?rah1⟩) hHeld0 ?raq1
      case rah1 => (intro w hSw; (try dsimp only at hSw); go_simp <;> with_reducible rfl)
      try simp only [Act.put, List.setIfInBounds_toArray, List.set_cons_zero, List.set_cons_succ]
      refine wpAnyH_take (i := 1) (v := ?rav2) (by simp only [List.getElem?_toArray, List.getElem?_cons_zero, List.getElem?_cons_succ]; rfl) (by kernel_rfl) (by kernel_rfl) (by kernel_rfl) (fun _ _ _ h => h) (Or.inl ⟨by rfl, ?rah2⟩) hHeld0 ?raq2
      case rah2 => (intro w hSw; (try dsimp only at hSw); go_simp <;> with_reducible rfl)
      try simp only [Act.put, List.setIfInBounds_toArray, List.set_cons_zero, List.set_cons_succ]
      refine wpAnyH_take (i := 5) (v := ?rav3) (by simp only [List.getElem?_toArray, List.getElem?_cons_zero, List.getElem?_cons_succ]; rfl) (by kernel_rfl) (by kernel_rfl) (by kernel_rfl) (fun _ _ _ h => h) (Or.inl ⟨by rfl, ?rah3⟩) hHeld0 ?raq3
      case rah3 => (intro w hSw; (try dsimp only at hSw); go_simp <;> with_reducible rfl)
      try simp only [Act.put, List.setIfInBounds_toArray, List.set_cons_zero, List.set_cons_succ]
      refine wpAnyH_take (i := 6) (v := ?rav4) (by simp only [List.getElem?_toArray, List.getElem?_cons_zero, List.getElem?_cons_succ]; rfl) (by kernel_rfl) (by kernel_rfl) (by kernel_rfl) (fun _ _ _ h => h) (Or.inl ⟨by rfl, ?rah4⟩) hHeld0 ?raq4
      case rah4 => (intro w hSw; (try dsimp only at hSw); go_simp <;> with_reducible rfl)
      try simp only [Act.put, List.setIfInBounds_toArray, List.set_cons_zero, List.set_cons_succ]
      refine wpAnyH_take (i := 7) (v := ?rav5) (by simp only [List.getElem?_toArray, List.getElem?_cons_zero, List.getElem?_cons_succ]; rfl) (by kernel_rfl) (by kernel_rfl) (by kernel_rfl) (fun _ _ _ h => h) (Or.inl ⟨by rfl, ?rah5⟩) hHeld0 ?raq5
      case rah5 => (intro w hSw; (try dsimp only at hSw); go_simp <;> with_reducible rfl)
      try simp only [Act.put, List.setIfInBounds_toArray, List.set_cons_zero, List.set_cons_succ]
      refine wpAnyH_take (i := 8) (v := ?rav6) (by simp only [List.getElem?_toArray, List.getElem?_cons_zero, List.getElem?_cons_succ]; rfl) (by kernel_rfl) (by kernel_rfl) (by kernel_rfl) (fun _ _ _ h => h) (Or.inl ⟨by rfl, ?rah6⟩) hHeld0 ?raq6
      case rah6 => (intro w hSw; (try dsimp only at hSw); go_simp <;> with_reducible rfl)
      try simp only [Act.put, List.setIfInBounds_toArray, List.set_cons_zero, List.set_cons_succ]
      refine wpAnyH_take (i := 11) (v := ?rav7) (by simp only [List.getElem?_toArray, List.getElem?_cons_zero, List.getElem?_cons_succ]; rfl) (by kernel_rfl) (by kernel_rfl) (by kernel_rfl) (fun _ _ _ h => h) (Or.inl ⟨by rfl, ?rah7⟩) hHeld0 ?raq7
      case rah7 => (intro w hSw; (try dsimp only at hSw); go_simp <;> with_reducible rfl)
      try simp only [Act.put, List.setIfInBounds_toArray, List.set_cons_zero, List.set_cons_succ]
      refine wpAnyH_take (i := 12) (v := ?rav8) (by simp only [List.getElem?_toArray, List.getElem?_cons_zero, List.getElem?_cons_succ]; rfl) (by kernel_rfl) (by kernel_rfl) (by kernel_rfl) (fun _ _ _ h => h) (Or.inl ⟨by rfl, ?rah8⟩) hHeld0 ?raq8
      case rah8 => (intro w hSw; (try dsimp only at hSw); go_simp <;> with_reducible rfl)
      try simp only [Act.put, List.setIfInBounds_toArray, List.set_cons_zero, List.set_cons_succ]
      refine wpAnyH_take (i := 13) (v := ?rav9) (by simp only [List.getElem?_toArray, List.getElem?_cons_zero, List.getElem?_cons_succ]; rfl) (by kernel_rfl) (by kernel_rfl) (by kernel_rfl) (fun _ _ _ h => h) (Or.inl ⟨by rfl, ?rah9⟩) hHeld0 ?raq9
      case rah9 => (intro w hSw; (try dsimp only at hSw); go_simp <;> with_reducible rfl)
      try simp only [Act.put, List.setIfInBounds_toArray, List.set_cons_zero, List.set_cons_succ]
      refine wpAnyH_take (i := 14) (v := ?rav10) (by simp only [List.getElem?_toArray, List.getElem?_cons_zero, List.getElem?_cons_succ]; rfl) (by kernel_rfl) (by kernel_rfl) (by kernel_rfl) (fun _ _ _ h => h) (Or.inl ⟨by rfl, ?rah10⟩) hHeld0 ?raq10
      case rah10 => (intro w hSw; (try dsimp only at hSw); go_simp <;> with_reducible rfl)
      try simp only [Act.put, List.setIfInBounds_toArray, List.set_cons_zero, List.set_cons_succ]
      refine wpAnyH_take (i := 15) (v := ?rav11) (by simp only [List.getElem?_toArray, List.getElem?_cons_zero, List.getElem?_cons_succ]; rfl) (by kernel_rfl) (by kernel_rfl) (by kernel_rfl) (fun _ _ _ h => h) (Or.inl ⟨by rfl, ?rah11⟩) hHeld0 ?raq11
      case rah11 => (intro w hSw; (try dsimp only at hSw); go_simp <;> with_reducible rfl)
      try simp only [Act.put, List.setIfInBounds_toArray, List.set_cons_zero, List.set_cons_succ]
      refine wpAnyH_take (i := 16) (v := ?rav12) (by simp only [List.getElem?_toArray, List.getElem?_cons_zero, List.getElem?_cons_succ]; rfl) (by kernel_rfl) (by kernel_rfl) (by kernel_rfl) (fun _ _ _ h => h) (Or.inl ⟨by rfl, ?rah12⟩) hHeld0 ?raq12
      case rah12 => (intro w hSw; (try dsimp only at hSw); go_simp <;> with_reducible rfl)
      try simp only [Act.put, List.setIfInBounds_toArray, List.set_cons_zero, List.set_cons_succ]
      refine wpAnyH_take (i := 17) (v := ?rav13) (by simp only [List.getElem?_toArray, List.getElem?_cons_zero, List.getElem?_cons_succ]; rfl) (by kernel_rfl) (by kernel_rfl) (by kernel_rfl) (fun _ _ _ h => h) (Or.inl ⟨by rfl, ?rah13⟩) hHeld0 ?raq13
      case rah13 => (intro w hSw; (try dsimp only at hSw); go_simp <;> with_reducible rfl)
      try simp only [Act.put, List.setIfInBounds_toArray, List.set_cons_zero, List.set_cons_succ]
      refine wpAnyH_ready (rs := [2]) (by kernel_rfl) (by simp) ?_
      refine AllReadyH.cons (by simp only [List.getElem?_toArray, List.getElem?_cons_zero, List.getElem?_cons_succ]; rfl) (fun K hK => ?_) AllReadyH.nil
      go_simp
      go_at_call 10
      refine (now_lit wr.drew base F b xs x HS.out.at_ HX.out).mono ?_
      rintro e w4 ⟨A4, c4, rfl, _, hB4⟩
      rw [← HXB.out]
      have q4 : w4.cell? (adp.add k) = some (.int .i64 q) := pw_cell_below hB4 q1
      have HB4 := Lib.hid hB4
      clear hB4
      refine hK.out _ _ ?ras14 (fun hHeld1 => ?raq14)
      case ras14 => (try dsimp only); exact q4
      clear hK K
      try simp only [Act.put, List.setIfInBounds_toArray, List.set_cons_zero, List.set_cons_succ]
      refine wpAnyH_take (i := 3) (v := ?rav15) (by simp only [List.getElem?_toArray, List.getElem?_cons_zero, List.getElem?_cons_succ]; rfl) (by kernel_rfl) (by kernel_rfl) (by kernel_rfl) (fun _ _ _ h => h) (Or.inl ⟨by rfl, ?rah15⟩) hHeld1 ?raq15
      case rah15 => (intro w hSw; (try dsimp only at hSw); go_simp <;> with_reducible rfl)
      try simp only [Act.put, List.setIfInBounds_toArray, List.set_cons_zero, List.set_cons_succ]
      refine wpAnyH_take (i := 4) (v := ?rav16) (by simp only [List.getElem?_toArray, List.getElem?_cons_zero, List.getElem?_cons_succ]; rfl) (by kernel_rfl) (by kernel_rfl) (by kernel_rfl) (fun _ _ _ h => h) (Or.inl ⟨by rfl, ?rah16⟩) hHeld1 ?raq16
      case rah16 => (intro w hSw; (try dsimp only at hSw); go_simp <;> with_reducible rfl)
      try simp only [Act.put, List.setIfInBounds_toArray, List.set_cons_zero, List.set_cons_succ]
      refine wpAnyH_ready (rs := [9]) (by kernel_rfl) (by simp) ?_
      refine AllReadyH.cons (by simp only [List.getElem?_toArray, List.getElem?_cons_zero, List.getElem?_cons_succ]; rfl) (fun K hK => ?_) AllReadyH.nil
      go_simp
      go_at_call 11
      refine (within_any q 4 w4 (by decide) (by decide)).mono ?_
      rintro e w5 ⟨rfl, rfl⟩
      rw [← HD.out]
      refine hK.out _ _ ?ras17 (fun hHeld2 => ?raq17)
      case ras17 => (try dsimp only); exact q4
      clear hK K
      try simp only [Act.put, List.setIfInBounds_toArray, List.set_cons_zero, List.set_cons_succ]
      refine wpAnyH_take (i := 10) (v := ?rav18) (by simp only [List.getElem?_toArray, List.getElem?_cons_zero, List.getElem?_cons_succ]; rfl) (by kernel_rfl) (by kernel_rfl) (by kernel_rfl) (fun _ _ _ h => h) (Or.inl ⟨by rfl, ?rah18⟩) hHeld2 ?raq18
      case rah18 => (intro w hSw; (try dsimp only at hSw); go_simp <;> with_reducible rfl)
      try simp only [Act.put, List.setIfInBounds_toArray, List.set_cons_zero, List.set_cons_succ]
      refine wpAnyH_ready (rs := [18]) (by kernel_rfl) (by simp) ?_
      refine AllReadyH.cons (by simp only [List.getElem?_toArray, List.getElem?_cons_zero, List.getElem?_cons_succ]; rfl) (fun K hK => ?_) AllReadyH.nil
      go_simp
      go_at_call 8
      refine (plain_l w4 q).mono ?_
      rintro e w5 ⟨ad5, c5, L5, rfl, hC5, hE5, hL50, hL57, hB5⟩
      have q5 : w5.cell? (adp.add k) = some (.int .i64 q) := pw_cell_below hB5 q4
      have HB5 := Lib.hid (HB4.out.trans (hB5.mono HB4.out.size))
      have HC5 := Lib.hid hC5
      have HE5 := Lib.hid hE5
      clear hB5 hC5 hE5
      refine hK.out _ _ ?ras19 (fun hHeld3 => ?raq19)
      case ras19 => (try dsimp only); exact q5
      clear hK K
      try simp only [Act.put, List.setIfInBounds_toArray, List.set_cons_zero, List.set_cons_succ]
      refine wpAnyH_ready (rs := [19]) (by kernel_rfl) (by simp) ?_
      refine AllReadyH.cons (by simp only [List.getElem?_toArray, List.getElem?_cons_zero, List.getElem?_cons_succ]; rfl) (fun K hK => ?_) AllReadyH.nil
      go_simp
      go_at_call 9
      have hat5 : GensAt w5 base F b xs := GensAt.below (w := wr.drew) HS.out.at_ HB5.out
      have hw1 : IntKind.i64.wrap (IntKind.i64.wrap (xb + 1) + d) = xb + 1 + d := by rw [IntWalk.i64_in (xb + 1) (by omega)]; exact IntWalk.i64_in _ (by omega)
      have hw2 : IntKind.i64.wrap (1 + r) = 1 + r := IntWalk.i64_in _ (by omega)
      rw [hw1, hw2]
      clear hw1 hw2
      (refine (seal_ok w5 base F b xs x hat5 HX.out (xb + 1 + d) (1 + r) ad5 L5 c5 HC5.out (by rw [← HXB.out]; omega) HN.out.2.1 HE5.out (by have := HS.out.len; omega) (by have := HN.out.2.2; omega) (by have := HN.out.2.2; omega) hL50 hL57).mono ?_)
      rintro e w6 ⟨rfl, F3, A6, c6, hG6, hF6, hK6⟩
      have hbe : Below w.heap.size w w6 := (HS.out.below.drew.trans (HB5.out.mono HS.out.below.size)).trans (hK6.to_below (Nat.le_trans HS.out.below.size HB5.out.size) (fun j hj => Nat.le_trans hwb (hat5.2.1 j hj).1))
      have hs3 : ∃ xs2, SIn w base b (k + 1) F3 xs2 w6 := ⟨_, ⟨by rw [List.length_append, HS.out.len]; rfl, gok_snoc HS.out.ok HX.out rfl (by show x.g.b < xb + 1 + d; rw [← HXB.out]; omega) (by show xb + 1 + d ≤ x.g.b + 4; rw [← HXB.out]; omega), hG6, hbe⟩⟩
      obtain ⟨xs2, hs3⟩ := hs3
      have HS3 := Lib.hid hs3
      have q6 : w6.cell? (adp.add k) = some (.int .i64 q) := pw_cell_below hbe Q0.out
      clear hG6 hF6 hK6 hbe hat5 hs3
      refine hK.out _ _ ?ras20 (fun hHeld4 => ?raq20)
      case ras20 => (try dsimp only); exact q6
      clear hK K
      try simp only [Act.put, List.setIfInBounds_toArray, List.set_cons_zero, List.set_cons_succ]
      refine wpAnyH_take (i := 20) (v := ?rav21) (by simp only [List.getElem?_toArray, List.getElem?_cons_zero, List.getElem?_cons_succ]; rfl) (by kernel_rfl) (by kernel_rfl) (by kernel_rfl) (fun _ _ _ h => h) (Or.inl ⟨by rfl, ?rah21⟩) hHeld4 ?raq21
      case rah21 => (intro w hSw; (try dsimp only at hSw); go_simp <;> with_reducible rfl)
      try simp only [Act.put, List.setIfInBounds_toArray, List.set_cons_zero, List.set_cons_succ]
      refine wpAnyH_done (by kernel_rfl) ?_ _
      refine NoPanic.normal ?_
      go_wp2_with fail
      exact ⟨⟨k + 1, F3, xs2, by omega, by omega, by simp, HS3.out⟩, by simp [intOf]; omega⟩
    · have ht : ¬ (k < ps.length) ∨ (k < ps.length ∧ (20 : Int) ≤ (k : Int)) := by
        by_cases h1 : k < ps.length
        · exact .inr ⟨h1, by omega⟩
        · exact .inl h1
      rcases ht with ht | ⟨ht0, ht⟩
      · have HXN := Lib.hid hxn
        obtain ⟨B, hB⟩ : ∃ z, z = x.g.b := ⟨_, rfl⟩
        rw [← hB] at hxb0 hxb1
        have HXB := Lib.hid hB
        obtain ⟨m, hm⟩ : ∃ m, m = k + 1 := ⟨_, rfl⟩
        have hlm : xs.length = m := by rw [HS.out.len, hm]
        have hmi : (m : Int) = (k : Int) + 1 := by omega
        have hm21 : m ≤ 21 := by omega
        have HMM := Lib.hid (And.intro hlm (And.intro hmi hm))
        clear hB hxn hm hlm hmi
        go_wp2_with (go_at_call 12
                     refine (all_any wr base F b xs HS.out.at_ (by have := HS.out.len; omega) (by have := HS.out.len; omega)).mono ?_
                     rintro e wA ⟨v, zs, rfl, hA⟩
                     have hzl := map_len hA.same
                     have hlm := HMM.out.1
                     have hm1 : 0 < m := by have := HMM.out.2.2; omega
                     obtain ⟨g, cap, rfl, _, _, hlc, hcm⟩ := ge_row hA.row (by rw [hzl, hlm]; exact hm1)
                     rw [hzl, hlm]
                     have HA := Lib.hid hA
                     have HZL := Lib.hid hzl
                     have HGA := Lib.hid (HS.out.at_.below hA.below)
                     have HBA := Lib.hid (HS.out.below.trans (hA.below.mono HS.out.below.size))
                     clear hA hzl hlm)
        go_loopw [9, 10] (fun kv _ wq => ∃ (n : Nat), 1 ≤ n ∧ n ≤ 100 ∧ (n : Int) ≤ B + 4 ∧ kv = .int .i64 (n : Int) ∧ Below wA.heap.size wA wq) (fun kv _ _ => 200 - (intOf kv).toNat)
        case atStart => exact ⟨1, by omega, by omega, by omega, rfl, Below.refl _ _⟩
        case round =>
          obtain ⟨n, hn1, hn100, hnB, rfl, hbq⟩ := hrel
          have HBQ := Lib.hid hbq
          clear hbq
          by_cases hle : (n : Int) ≤ B + 3
          · obtain ⟨j, y, hy1, hy2, hy3, hy4⟩ := gok_at HS.out.ok (by have := HS.out.len; omega) (show (1 : Int) ≤ (n : Int) by omega)
            have hyj := (HS.out.ok j y hy2).1
            have hyb := (HS.out.ok j y hy2).2.1
            have hjl : j < m := by have := (List.getElem?_eq_some_iff.1 hy2).1; have := HMM.out.1; omega
            obtain ⟨z, hz, hzg⟩ := gok_map HA.out.same hy2
            have hzl : j < zs.length := (List.getElem?_eq_some_iff.1 hz).1
            have hzz : zs[j] = z := (List.getElem?_eq_some_iff.1 hz).2
            have hgz := ge_get HA.out.row j hzl
            have hrz := HA.out.rows z (List.mem_of_getElem? hz)
            rw [hzz] at hgz
            have hnx : j + 1 < m → ∃ z2, zs[j + 1]? = some z2 ∧ (n : Int) ≤ z2.g.b ∧ wA.cell? ⟨g, (j + 1) * 5 + 2, none⟩ = some (.int .i64 z2.g.b) := by
              intro hj
              obtain ⟨y2, hy2'⟩ : ∃ y2, xs[j + 1]? = some y2 := ⟨_, List.getElem?_eq_getElem (by have := HMM.out.1; omega)⟩
              obtain ⟨z2, hz2, hg2⟩ := gok_map HA.out.same hy2'
              have h2 := ge_get HA.out.row (j + 1) (List.getElem?_eq_some_iff.1 hz2).1
              rw [(List.getElem?_eq_some_iff.1 hz2).2] at h2
              exact ⟨z2, hz2, by rw [hg2]; exact hy4 y2 hy2', h2.2.2.1⟩
            obtain ⟨⟨yn, en, bb, l⟩, yA, yc⟩ := y
            obtain ⟨zg, zA, zc⟩ := z
            obtain rfl : zg = _ := hzg
            obtain rfl : yn = (j : Int) + 1 := hyj
            obtain ⟨g0, g1, g2, g3, g4⟩ := hgz
            obtain ⟨zad, hza, hzC⟩ := mem_row hrz.1 hrz.2.1
            obtain rfl : zA = some zad := hza
            have HY1 := Lib.hid hy1
            have HNX := Lib.hid hnx
            have HZR := Lib.hid (ri_of_C hzC)
            have hl7 : l.length ≤ 7 := hrz.2.2
            have hbn : bb < (n : Int) := hy3
            have hb0 : 0 ≤ bb := hyb
            have gs0 : wA.cell? ⟨g, j * 5, none⟩ = some (.int .i64 ((j : Int) + 1)) := g0
            have gs1 : wA.cell? ⟨g, j * 5 + 1, none⟩ = some (.int .i64 en) := g1
            have gs2 : wA.cell? ⟨g, j * 5 + 2, none⟩ = some (.int .i64 bb) := g2
            have gs3 : wA.cell? ⟨g, j * 5 + 3, none⟩ = some (.slice none 0 0) := g3
            have gs4 : wA.cell? ⟨g, j * 5 + 4, none⟩ = some (.slice (some zad) l.length zc) := g4
            have HGS := Lib.hid (And.intro gs0 (And.intro gs1 (And.intro gs2 (And.intro gs3 gs4))))
            clear g0 g1 g2 g3 g4 gs0 gs1 gs2 gs3 gs4 hy1 hy2 hy4 hz hzz hrz hnx hzC hyb hy3 hzl
            go_wp2_with (first
              | (go_at_call 10; refine (now_lit wr base F b xs x (HGA.out.below HBQ.out) HX.out).mono ?_; rintro e w4 ⟨A4, c4, rfl, _, hB4⟩; rw [← HXB.out]; have HB4 := Lib.hid (HBQ.out.trans (hB4.mono HBQ.out.size)); clear hB4)
              | (go_at_call 13; refine (at_any w4 base F b xs (n : Int) _ (HGA.out.below HB4.out) (by have := HS.out.len; omega) (by have := HS.out.len; omega) HY1.out).mono ?_; rintro e w5 ⟨A5, c5, rfl, hR5, hB5⟩
                 have HR5 := Lib.hid (Kd.R_reads' hR5).2.2
                 have HB5 := Lib.hid (HB4.out.trans (hB5.mono HB4.out.size)); clear hR5 hB5))
            have HBO := Lib.hid (HB5.out.alloc HB5.out.size (.cells #[.int .i64 ((j : Int) + 1), .int .i64 en, .int .i64 bb, .slice none 0 0, .slice A5 l.length c5] 32)).drew
            have hbox := heap_alloc_new w5 (.cells #[.int .i64 ((j : Int) + 1), .int .i64 en, .int .i64 bb, .slice none 0 0, .slice A5 l.length c5] 32)
            have HRA := Lib.hid (ReadsInt.below (ri_of_C HR5.out) ((Below.refl _ _).alloc (Nat.le_refl _) (.cells #[.int .i64 ((j : Int) + 1), .int .i64 en, .int .i64 bb, .slice none 0 0, .slice A5 l.length c5] 32)).drew)
            generalize w5.alloc _ = W at *
            have f0 : W.drew.cell? ⟨w5.heap.size, 0, none⟩ = some (.int .i64 ((j : Int) + 1)) := blk_cell hbox 0
            have f1 : W.drew.cell? ⟨w5.heap.size, 1, none⟩ = some (.int .i64 en) := blk_cell hbox 1
            have f2 : W.drew.cell? ⟨w5.heap.size, 2, none⟩ = some (.int .i64 bb) := blk_cell hbox 2
            have f3 : W.drew.cell? ⟨w5.heap.size, 3, none⟩ = some (.slice none 0 0) := blk_cell hbox 3
            have f4 : W.drew.cell? ⟨w5.heap.size, 4, none⟩ = some (.slice A5 l.length c5) := blk_cell hbox 4
            obtain ⟨gs0, gs1, gs2, gs3, gs4⟩ := HGS.out
            have e0 := pw_cell_below HBO.out gs0
            have e1 := pw_cell_below HBO.out gs1
            have e2 := pw_cell_below HBO.out gs2
            have e3 := pw_cell_below HBO.out gs3
            have e4 := pw_cell_below HBO.out gs4
            generalize w5.heap.size = pa at *
            have hj0 : (0 : Int) ≤ (j : Int) := by omega
            have hj01 : (0 : Int) ≤ (j : Int) + 1 := by omega
            have hj1 : ¬ ((j : Int) + 1 < 1) := by omega
            have hj2 : ¬ ((m : Int) < (j : Int) + 1) := by omega
            have hj1d : decide ((j : Int) + 1 < 1) = false := decide_eq_false hj1
            have hj2d : decide ((m : Int) < (j : Int) + 1) = false := decide_eq_false hj2
            have hj3d : decide (m < j + 1) = false := decide_eq_false (by omega)
            have hj3 : ¬ (m < j + 1) := by omega
            have hjm : (j : Int) < (m : Int) := by omega
            have hbn2 : ¬ ((n : Int) ≤ bb) := by omega
            have hw1 : IntKind.i64.wrap ((j : Int) + 1 - 1) = (j : Int) := (IntWalk.i64_in _ (by omega)).trans (by omega)
            have hw2 : IntKind.i64.wrap (j : Int) = (j : Int) := IntWalk.i64_in _ (by omega)
            clear gs0 gs1 gs2 gs3 gs4 hbox
            by_cases hjx : j + 1 < m
            · obtain ⟨z2, hz2, hnb, hgn⟩ := HNX.out hjx
              have e5 := pw_cell_below HBO.out hgn
              generalize z2.g.b = nb at *
              have hlx : (j : Int) + 1 < (m : Int) := by omega
              have hnb2 : ¬ (nb < (n : Int)) := by omega
              clear hz2 hgn
              refine wp_region_noPanic ?_
              refine wp_region_held_drew (S := (fun w' => w'.cell? ⟨pa, 0, none⟩ = some (.int .i64 ((j : Int) + 1)) ∧ w'.cell? ⟨pa, 1, none⟩ = some (.int .i64 en) ∧ w'.cell? ⟨pa, 2, none⟩ = some (.int .i64 bb) ∧ w'.cell? ⟨pa, 3, none⟩ = some (.slice none 0 0) ∧ w'.cell? ⟨pa, 4, none⟩ = some (.slice A5 l.length c5) ∧ w'.cell? ⟨g, j * 5, none⟩ = some (.int .i64 ((j : Int) + 1)) ∧ w'.cell? ⟨g, j * 5 + 1, none⟩ = some (.int .i64 en) ∧ w'.cell? ⟨g, j * 5 + 2, none⟩ = some (.int .i64 bb) ∧ w'.cell? ⟨g, j * 5 + 3, none⟩ = some (.slice none 0 0) ∧ w'.cell? ⟨g, j * 5 + 4, none⟩ = some (.slice (some zad) l.length zc) ∧ w'.cell? ⟨g, (j + 1) * 5 + 2, none⟩ = some (.int .i64 nb))) (by kernel_rfl) ?xaqas0 (fun hHeld0 => ?xaqar0)
              case xaqas0 => (try dsimp only); exact ⟨f0, f1, f2, f3, f4, e0, e1, e2, e3, e4, e5⟩
              refine wpAnyH_take (i := 0) (v := ?xaqav1) (by simp only [List.getElem?_toArray, List.getElem?_cons_zero, List.getElem?_cons_succ]; rfl) (by kernel_rfl) (by kernel_rfl) (by kernel_rfl) (fun _ _ _ h => h) (Or.inl ⟨by rfl, ?xaqah1⟩) hHeld0 ?xaqaq1
              case xaqah1 => (intro w hSw; (try dsimp only at hSw); go_simp <;> with_reducible rfl)
              try simp only [Act.put, List.setIfInBounds_toArray, List.set_cons_zero, List.set_cons_succ]
              refine wpAnyH_take (i := 1) (v := ?xaqav2) (by simp only [List.getElem?_toArray, List.getElem?_cons_zero, List.getElem?_cons_succ]; rfl) (by kernel_rfl) (by kernel_rfl) (by kernel_rfl) (fun _ _ _ h => h) (Or.inl ⟨by rfl, ?xaqah2⟩) hHeld0 ?xaqaq2
              case xaqah2 => (intro w hSw; (try dsimp only at hSw); go_simp <;> with_reducible rfl)
              try simp only [Act.put, List.setIfInBounds_toArray, List.set_cons_zero, List.set_cons_succ]
              refine wpAnyH_take (i := 2) (v := ?xaqav3) (by simp only [List.getElem?_toArray, List.getElem?_cons_zero, List.getElem?_cons_succ]; rfl) (by kernel_rfl) (by kernel_rfl) (by kernel_rfl) (fun _ _ _ h => h) (Or.inl ⟨by rfl, ?xaqah3⟩) hHeld0 ?xaqaq3
              case xaqah3 => (intro w hSw; (try dsimp only at hSw); go_simp <;> with_reducible rfl)
              try simp only [Act.put, List.setIfInBounds_toArray, List.set_cons_zero, List.set_cons_succ]
              refine wpAnyH_take (i := 3) (v := ?xaqav4) (by simp only [List.getElem?_toArray, List.getElem?_cons_zero, List.getElem?_cons_succ]; rfl) (by kernel_rfl) (by kernel_rfl) (by kernel_rfl) (fun _ _ _ h => h) (Or.inl ⟨by rfl, ?xaqah4⟩) hHeld0 ?xaqaq4
              case xaqah4 => (intro w hSw; (try dsimp only at hSw); go_simp <;> with_reducible rfl)
              try simp only [Act.put, List.setIfInBounds_toArray, List.set_cons_zero, List.set_cons_succ]
              refine wpAnyH_take (i := 4) (v := ?xaqav5) (by simp only [List.getElem?_toArray, List.getElem?_cons_zero, List.getElem?_cons_succ]; rfl) (by kernel_rfl) (by kernel_rfl) (by kernel_rfl) (fun _ _ _ h => h) (Or.inl ⟨by rfl, ?xaqah5⟩) hHeld0 ?xaqaq5
              case xaqah5 => (intro w hSw; (try dsimp only at hSw); go_simp <;> with_reducible rfl)
              try simp only [Act.put, List.setIfInBounds_toArray, List.set_cons_zero, List.set_cons_succ]
              refine wpAnyH_take (i := 5) (v := ?xaqav6) (by simp only [List.getElem?_toArray, List.getElem?_cons_zero, List.getElem?_cons_succ]; rfl) (by kernel_rfl) (by kernel_rfl) (by kernel_rfl) (fun _ _ _ h => h) (Or.inl ⟨by rfl, ?xaqah6⟩) hHeld0 ?xaqaq6
              case xaqah6 => (intro w hSw; (try dsimp only at hSw); go_simp <;> with_reducible rfl)
              try simp only [Act.put, List.setIfInBounds_toArray, List.set_cons_zero, List.set_cons_succ]
              refine wpAnyH_take (i := 6) (v := ?xaqav7) (by simp only [List.getElem?_toArray, List.getElem?_cons_zero, List.getElem?_cons_succ]; rfl) (by kernel_rfl) (by kernel_rfl) (by kernel_rfl) (fun _ _ _ h => h) (Or.inl ⟨by rfl, ?xaqah7⟩) hHeld0 ?xaqaq7
              case xaqah7 => (intro w hSw; (try dsimp only at hSw); go_simp <;> with_reducible rfl)
              try simp only [Act.put, List.setIfInBounds_toArray, List.set_cons_zero, List.set_cons_succ]
              refine wpAnyH_take (i := 7) (v := ?xaqav8) (by simp only [List.getElem?_toArray, List.getElem?_cons_zero, List.getElem?_cons_succ]; rfl) (by kernel_rfl) (by kernel_rfl) (by kernel_rfl) (fun _ _ _ h => h) (Or.inl ⟨by rfl, ?xaqah8⟩) hHeld0 ?xaqaq8
              case xaqah8 => (intro w hSw; (try dsimp only at hSw); go_simp <;> with_reducible rfl)
              try simp only [Act.put, List.setIfInBounds_toArray, List.set_cons_zero, List.set_cons_succ]
              refine wpAnyH_take (i := 8) (v := ?xaqav9) (by simp only [List.getElem?_toArray, List.getElem?_cons_zero, List.getElem?_cons_succ]; rfl) (by kernel_rfl) (by kernel_rfl) (by kernel_rfl) (fun _ _ _ h => h) (Or.inl ⟨by rfl, ?xaqah9⟩) hHeld0 ?xaqaq9
              case xaqah9 => (intro w hSw; (try dsimp only at hSw); go_simp <;> with_reducible rfl)
              try simp only [Act.put, List.setIfInBounds_toArray, List.set_cons_zero, List.set_cons_succ]
              refine wpAnyH_take (i := 9) (v := ?xaqav10) (by simp only [List.getElem?_toArray, List.getElem?_cons_zero, List.getElem?_cons_succ]; rfl) (by kernel_rfl) (by kernel_rfl) (by kernel_rfl) (fun _ _ _ h => h) (Or.inl ⟨by rfl, ?xaqah10⟩) hHeld0 ?xaqaq10
              case xaqah10 => (intro w hSw; (try dsimp only at hSw); go_simp <;> with_reducible rfl)
              try simp only [Act.put, List.setIfInBounds_toArray, List.set_cons_zero, List.set_cons_succ]
              refine wpAnyH_take (i := 10) (v := ?xaqav11) (by simp only [List.getElem?_toArray, List.getElem?_cons_zero, List.getElem?_cons_succ]; rfl) (by kernel_rfl) (by kernel_rfl) (by kernel_rfl) (fun _ _ _ h => h) (Or.inl ⟨by rfl, ?xaqah11⟩) hHeld0 ?xaqaq11
              case xaqah11 => (intro w hSw; (try dsimp only at hSw); go_simp <;> with_reducible rfl)
              try simp only [Act.put, List.setIfInBounds_toArray, List.set_cons_zero, List.set_cons_succ]
              refine wpAnyH_take (i := 11) (v := ?xaqav12) (by simp only [List.getElem?_toArray, List.getElem?_cons_zero, List.getElem?_cons_succ]; rfl) (by kernel_rfl) (by kernel_rfl) (by kernel_rfl) (fun _ _ _ h => h) (Or.inl ⟨by rfl, ?xaqah12⟩) hHeld0 ?xaqaq12
              case xaqah12 => (intro w hSw; (try dsimp only at hSw); go_simp <;> with_reducible rfl)
              try simp only [Act.put, List.setIfInBounds_toArray, List.set_cons_zero, List.set_cons_succ]
              refine wpAnyH_take (i := 12) (v := ?xaqav13) (by simp only [List.getElem?_toArray, List.getElem?_cons_zero, List.getElem?_cons_succ]; rfl) (by kernel_rfl) (by kernel_rfl) (by kernel_rfl) (fun _ _ _ h => h) (Or.inl ⟨by rfl, ?xaqah13⟩) hHeld0 ?xaqaq13
              case xaqah13 => (intro w hSw; (try dsimp only at hSw); go_simp <;> with_reducible rfl)
              try simp only [Act.put, List.setIfInBounds_toArray, List.set_cons_zero, List.set_cons_succ]
              refine wpAnyH_take (i := 13) (v := ?xaqav14) (by simp only [List.getElem?_toArray, List.getElem?_cons_zero, List.getElem?_cons_succ]; rfl) (by kernel_rfl) (by kernel_rfl) (by kernel_rfl) (fun _ _ _ h => h) (Or.inl ⟨by rfl, ?xaqah14⟩) hHeld0 ?xaqaq14
              case xaqah14 => (intro w hSw; (try dsimp only at hSw); go_simp <;> with_reducible rfl)
              try simp only [Act.put, List.setIfInBounds_toArray, List.set_cons_zero, List.set_cons_succ]
              refine wpAnyH_take (i := 14) (v := ?xaqav15) (by simp only [List.getElem?_toArray, List.getElem?_cons_zero, List.getElem?_cons_succ]; rfl) (by kernel_rfl) (by kernel_rfl) (by kernel_rfl) (fun _ _ _ h => h) (Or.inl ⟨by rfl, ?xaqah15⟩) hHeld0 ?xaqaq15
              case xaqah15 => (intro w hSw; (try dsimp only at hSw); go_simp <;> with_reducible rfl)
              try simp only [Act.put, List.setIfInBounds_toArray, List.set_cons_zero, List.set_cons_succ]
              refine wpAnyH_take (i := 15) (v := ?xaqav16) (by simp only [List.getElem?_toArray, List.getElem?_cons_zero, List.getElem?_cons_succ]; rfl) (by kernel_rfl) (by kernel_rfl) (by kernel_rfl) (fun _ _ _ h => h) (Or.inl ⟨by rfl, ?xaqah16⟩) hHeld0 ?xaqaq16
              case xaqah16 => (intro w hSw; (try dsimp only at hSw); go_simp <;> with_reducible rfl)
              try simp only [Act.put, List.setIfInBounds_toArray, List.set_cons_zero, List.set_cons_succ]
              refine wpAnyH_take (i := 16) (v := ?xaqav17) (by simp only [List.getElem?_toArray, List.getElem?_cons_zero, List.getElem?_cons_succ]; rfl) (by kernel_rfl) (by kernel_rfl) (by kernel_rfl) (fun _ _ _ h => h) (Or.inl ⟨by rfl, ?xaqah17⟩) hHeld0 ?xaqaq17
              case xaqah17 => (intro w hSw; (try dsimp only at hSw); go_simp <;> with_reducible rfl)
              try simp only [Act.put, List.setIfInBounds_toArray, List.set_cons_zero, List.set_cons_succ]
              refine wpAnyH_take (i := 17) (v := ?xaqav18) (by simp only [List.getElem?_toArray, List.getElem?_cons_zero, List.getElem?_cons_succ]; rfl) (by kernel_rfl) (by kernel_rfl) (by kernel_rfl) (fun _ _ _ h => h) (Or.inl ⟨by rfl, ?xaqah18⟩) hHeld0 ?xaqaq18
              case xaqah18 => (intro w hSw; (try dsimp only at hSw); go_simp <;> with_reducible rfl)
              try simp only [Act.put, List.setIfInBounds_toArray, List.set_cons_zero, List.set_cons_succ]
              refine wpAnyH_take (i := 18) (v := ?xaqav19) (by simp only [List.getElem?_toArray, List.getElem?_cons_zero, List.getElem?_cons_succ]; rfl) (by kernel_rfl) (by kernel_rfl) (by kernel_rfl) (fun _ _ _ h => h) (Or.inl ⟨by rfl, ?xaqah19⟩) hHeld0 ?xaqaq19
              case xaqah19 => (intro w hSw; (try dsimp only at hSw); go_simp <;> with_reducible rfl)
              try simp only [Act.put, List.setIfInBounds_toArray, List.set_cons_zero, List.set_cons_succ]
              refine wpAnyH_take (i := 19) (v := ?xaqav20) (by simp only [List.getElem?_toArray, List.getElem?_cons_zero, List.getElem?_cons_succ]; rfl) (by kernel_rfl) (by kernel_rfl) (by kernel_rfl) (fun _ _ _ h => h) (Or.inl ⟨by rfl, ?xaqah20⟩) hHeld0 ?xaqaq20
              case xaqah20 => (intro w hSw; (try dsimp only at hSw); go_simp <;> with_reducible rfl)
              try simp only [Act.put, List.setIfInBounds_toArray, List.set_cons_zero, List.set_cons_succ]
              refine wpAnyH_take (i := 20) (v := ?xaqav21) (by simp only [List.getElem?_toArray, List.getElem?_cons_zero, List.getElem?_cons_succ]; rfl) (by kernel_rfl) (by kernel_rfl) (by kernel_rfl) (fun _ _ _ h => h) (Or.inl ⟨by rfl, ?xaqah21⟩) hHeld0 ?xaqaq21
              case xaqah21 => (intro w hSw; (try dsimp only at hSw); go_simp <;> with_reducible rfl)
              try simp only [Act.put, List.setIfInBounds_toArray, List.set_cons_zero, List.set_cons_succ]
              refine wpAnyH_take (i := 21) (v := ?xaqav22) (by simp only [List.getElem?_toArray, List.getElem?_cons_zero, List.getElem?_cons_succ]; rfl) (by kernel_rfl) (by kernel_rfl) (by kernel_rfl) (fun _ _ _ h => h) (Or.inl ⟨by rfl, ?xaqah22⟩) hHeld0 ?xaqaq22
              case xaqah22 => (intro w hSw; (try dsimp only at hSw); go_simp <;> with_reducible rfl)
              try simp only [Act.put, List.setIfInBounds_toArray, List.set_cons_zero, List.set_cons_succ]
              refine wpAnyH_take (i := 22) (v := ?xaqav23) (by simp only [List.getElem?_toArray, List.getElem?_cons_zero, List.getElem?_cons_succ]; rfl) (by kernel_rfl) (by kernel_rfl) (by kernel_rfl) (fun _ _ _ h => h) (Or.inl ⟨by rfl, ?xaqah23⟩) hHeld0 ?xaqaq23
              case xaqah23 => (intro w hSw; (try dsimp only at hSw); go_simp <;> with_reducible rfl)
              try simp only [Act.put, List.setIfInBounds_toArray, List.set_cons_zero, List.set_cons_succ]
              refine wpAnyH_take (i := 23) (v := ?xaqav24) (by simp only [List.getElem?_toArray, List.getElem?_cons_zero, List.getElem?_cons_succ]; rfl) (by kernel_rfl) (by kernel_rfl) (by kernel_rfl) (fun _ _ _ h => h) (Or.inl ⟨by rfl, ?xaqah24⟩) hHeld0 ?xaqaq24
              case xaqah24 => (intro w hSw; (try dsimp only at hSw); go_simp <;> with_reducible rfl)
              try simp only [Act.put, List.setIfInBounds_toArray, List.set_cons_zero, List.set_cons_succ]
              refine wpAnyH_ready (rs := [24]) (by kernel_rfl) (by simp) ?_
              refine AllReadyH.cons (by simp only [List.getElem?_toArray, List.getElem?_cons_zero, List.getElem?_cons_succ]; rfl) (fun K hK => ?_) AllReadyH.nil
              go_simp
              go_at_call 14
              refine (same17 ((j : Int) + 1) en bb A5 (some zad) c5 zc l W.drew HRA.out (ReadsInt.below HZR.out HBO.out)).mono ?_
              rintro e w7 ⟨rfl, hB7⟩
              have p0 := pw_cell_below hB7 f0
              have p1 := pw_cell_below hB7 f1
              have p2 := pw_cell_below hB7 f2
              have p3 := pw_cell_below hB7 f3
              have p4 := pw_cell_below hB7 f4
              have p5 := pw_cell_below hB7 e0
              have p6 := pw_cell_below hB7 e1
              have p7 := pw_cell_below hB7 e2
              have p8 := pw_cell_below hB7 e3
              have p9 := pw_cell_below hB7 e4
              have p10 := pw_cell_below hB7 e5
              have HB7 := Lib.hid (HBO.out.trans (hB7.mono HBO.out.size))
              clear hB7
              refine hK.out _ _ ?xaqas25 (fun hHeld1 => ?xaqaq25)
              case xaqas25 => (try dsimp only); exact ⟨p0, p1, p2, p3, p4, p5, p6, p7, p8, p9, p10⟩
              clear hK K
              try simp only [Act.put, List.setIfInBounds_toArray, List.set_cons_zero, List.set_cons_succ]
              refine wpAnyH_take (i := 25) (v := ?xaqav26) (by simp only [List.getElem?_toArray, List.getElem?_cons_zero, List.getElem?_cons_succ]; rfl) (by kernel_rfl) (by kernel_rfl) (by kernel_rfl) (fun _ _ _ h => h) (Or.inl ⟨by rfl, ?xaqah26⟩) hHeld1 ?xaqaq26
              case xaqah26 => (intro w hSw; (try dsimp only at hSw); go_simp <;> with_reducible rfl)
              try simp only [Act.put, List.setIfInBounds_toArray, List.set_cons_zero, List.set_cons_succ]
              refine wpAnyH_take (i := 26) (v := ?xaqav27) (by simp only [List.getElem?_toArray, List.getElem?_cons_zero, List.getElem?_cons_succ]; rfl) (by kernel_rfl) (by kernel_rfl) (by kernel_rfl) (fun _ _ _ h => h) (Or.inl ⟨by rfl, ?xaqah27⟩) hHeld1 ?xaqaq27
              case xaqah27 => (intro w hSw; (try dsimp only at hSw); go_simp <;> with_reducible rfl)
              try simp only [Act.put, List.setIfInBounds_toArray, List.set_cons_zero, List.set_cons_succ]
              refine wpAnyH_take (i := 27) (v := ?xaqav28) (by simp only [List.getElem?_toArray, List.getElem?_cons_zero, List.getElem?_cons_succ]; rfl) (by kernel_rfl) (by kernel_rfl) (by kernel_rfl) (fun _ _ _ h => h) (Or.inl ⟨by rfl, ?xaqah28⟩) hHeld1 ?xaqaq28
              case xaqah28 => (intro w hSw; (try dsimp only at hSw); go_simp <;> with_reducible rfl)
              try simp only [Act.put, List.setIfInBounds_toArray, List.set_cons_zero, List.set_cons_succ]
              refine wpAnyH_take (i := 28) (v := ?xaqav29) (by simp only [List.getElem?_toArray, List.getElem?_cons_zero, List.getElem?_cons_succ]; rfl) (by kernel_rfl) (by kernel_rfl) (by kernel_rfl) (fun _ _ _ h => h) (Or.inl ⟨by rfl, ?xaqah29⟩) hHeld1 ?xaqaq29
              case xaqah29 => (intro w hSw; (try dsimp only at hSw); go_simp <;> with_reducible rfl)
              try simp only [Act.put, List.setIfInBounds_toArray, List.set_cons_zero, List.set_cons_succ]
              refine wpAnyH_take (i := 29) (v := ?xaqav30) (by simp only [List.getElem?_toArray, List.getElem?_cons_zero, List.getElem?_cons_succ]; rfl) (by kernel_rfl) (by kernel_rfl) (by kernel_rfl) (fun _ _ _ h => h) (Or.inl ⟨by rfl, ?xaqah30⟩) hHeld1 ?xaqaq30
              case xaqah30 => (intro w hSw; (try dsimp only at hSw); go_simp <;> with_reducible rfl)
              try simp only [Act.put, List.setIfInBounds_toArray, List.set_cons_zero, List.set_cons_succ]
              refine wpAnyH_take (i := 30) (v := ?xaqav31) (by simp only [List.getElem?_toArray, List.getElem?_cons_zero, List.getElem?_cons_succ]; rfl) (by kernel_rfl) (by kernel_rfl) (by kernel_rfl) (fun _ _ _ h => h) (Or.inl ⟨by rfl, ?xaqah31⟩) hHeld1 ?xaqaq31
              case xaqah31 => (intro w hSw; (try dsimp only at hSw); go_simp <;> with_reducible rfl)
              try simp only [Act.put, List.setIfInBounds_toArray, List.set_cons_zero, List.set_cons_succ]
              refine wpAnyH_take (i := 31) (v := ?xaqav32) (by simp only [List.getElem?_toArray, List.getElem?_cons_zero, List.getElem?_cons_succ]; rfl) (by kernel_rfl) (by kernel_rfl) (by kernel_rfl) (fun _ _ _ h => h) (Or.inl ⟨by rfl, ?xaqah32⟩) hHeld1 ?xaqaq32
              case xaqah32 => (intro w hSw; (try dsimp only at hSw); go_simp <;> with_reducible rfl)
              try simp only [Act.put, List.setIfInBounds_toArray, List.set_cons_zero, List.set_cons_succ]
              refine wpAnyH_take (i := 32) (v := ?xaqav33) (by simp only [List.getElem?_toArray, List.getElem?_cons_zero, List.getElem?_cons_succ]; rfl) (by kernel_rfl) (by kernel_rfl) (by kernel_rfl) (fun _ _ _ h => h) (Or.inl ⟨by rfl, ?xaqah33⟩) hHeld1 ?xaqaq33
              case xaqah33 => (intro w hSw; (try dsimp only at hSw); go_simp <;> with_reducible rfl)
              try simp only [Act.put, List.setIfInBounds_toArray, List.set_cons_zero, List.set_cons_succ]
              refine wpAnyH_take (i := 33) (v := ?xaqav34) (by simp only [List.getElem?_toArray, List.getElem?_cons_zero, List.getElem?_cons_succ]; rfl) (by kernel_rfl) (by kernel_rfl) (by kernel_rfl) (fun _ _ _ h => h) (Or.inl ⟨by rfl, ?xaqah34⟩) hHeld1 ?xaqaq34
              case xaqah34 => (intro w hSw; (try dsimp only at hSw); go_simp <;> with_reducible rfl)
              try simp only [Act.put, List.setIfInBounds_toArray, List.set_cons_zero, List.set_cons_succ]
              refine wpAnyH_take (i := 34) (v := ?xaqav35) (by simp only [List.getElem?_toArray, List.getElem?_cons_zero, List.getElem?_cons_succ]; rfl) (by kernel_rfl) (by kernel_rfl) (by kernel_rfl) (fun _ _ _ h => h) (Or.inl ⟨by rfl, ?xaqah35⟩) hHeld1 ?xaqaq35
              case xaqah35 => (intro w hSw; (try dsimp only at hSw); go_simp <;> with_reducible rfl)
              try simp only [Act.put, List.setIfInBounds_toArray, List.set_cons_zero, List.set_cons_succ]
              refine wpAnyH_take (i := 35) (v := ?xaqav36) (by simp only [List.getElem?_toArray, List.getElem?_cons_zero, List.getElem?_cons_succ]; rfl) (by kernel_rfl) (by kernel_rfl) (by kernel_rfl) (fun _ _ _ h => h) (Or.inl ⟨by rfl, ?xaqah36⟩) hHeld1 ?xaqaq36
              case xaqah36 => (intro w hSw; (try dsimp only at hSw); go_simp <;> with_reducible rfl)
              try simp only [Act.put, List.setIfInBounds_toArray, List.set_cons_zero, List.set_cons_succ]
              refine wpAnyH_take (i := 36) (v := ?xaqav37) (by simp only [List.getElem?_toArray, List.getElem?_cons_zero, List.getElem?_cons_succ]; rfl) (by kernel_rfl) (by kernel_rfl) (by kernel_rfl) (fun _ _ _ h => h) (Or.inl ⟨by rfl, ?xaqah37⟩) hHeld1 ?xaqaq37
              case xaqah37 => (intro w hSw; (try dsimp only at hSw); go_simp <;> with_reducible rfl)
              try simp only [Act.put, List.setIfInBounds_toArray, List.set_cons_zero, List.set_cons_succ]
              refine wpAnyH_take (i := 37) (v := ?xaqav38) (by simp only [List.getElem?_toArray, List.getElem?_cons_zero, List.getElem?_cons_succ]; rfl) (by kernel_rfl) (by kernel_rfl) (by kernel_rfl) (fun _ _ _ h => h) (Or.inl ⟨by rfl, ?xaqah38⟩) hHeld1 ?xaqaq38
              case xaqah38 => (intro w hSw; (try dsimp only at hSw); go_simp <;> with_reducible rfl)
              try simp only [Act.put, List.setIfInBounds_toArray, List.set_cons_zero, List.set_cons_succ]
              refine wpAnyH_take (i := 38) (v := ?xaqav39) (by simp only [List.getElem?_toArray, List.getElem?_cons_zero, List.getElem?_cons_succ]; rfl) (by kernel_rfl) (by kernel_rfl) (by kernel_rfl) (fun _ _ _ h => h) (Or.inl ⟨by rfl, ?xaqah39⟩) hHeld1 ?xaqaq39
              case xaqah39 => (intro w hSw; (try dsimp only at hSw); go_simp <;> with_reducible rfl)
              try simp only [Act.put, List.setIfInBounds_toArray, List.set_cons_zero, List.set_cons_succ]
              refine wpAnyH_take (i := 39) (v := ?xaqav40) (by simp only [List.getElem?_toArray, List.getElem?_cons_zero, List.getElem?_cons_succ]; rfl) (by kernel_rfl) (by kernel_rfl) (by kernel_rfl) (fun _ _ _ h => h) (Or.inl ⟨by rfl, ?xaqah40⟩) hHeld1 ?xaqaq40
              case xaqah40 => (intro w hSw; (try dsimp only at hSw); go_simp <;> with_reducible rfl)
              try simp only [Act.put, List.setIfInBounds_toArray, List.set_cons_zero, List.set_cons_succ]
              refine wpAnyH_take (i := 40) (v := ?xaqav41) (by simp only [List.getElem?_toArray, List.getElem?_cons_zero, List.getElem?_cons_succ]; rfl) (by kernel_rfl) (by kernel_rfl) (by kernel_rfl) (fun _ _ _ h => h) (Or.inl ⟨by rfl, ?xaqah41⟩) hHeld1 ?xaqaq41
              case xaqah41 => (intro w hSw; (try dsimp only at hSw); go_simp <;> with_reducible rfl)
              try simp only [Act.put, List.setIfInBounds_toArray, List.set_cons_zero, List.set_cons_succ]
              refine wpAnyH_take (i := 41) (v := ?xaqav42) (by simp only [List.getElem?_toArray, List.getElem?_cons_zero, List.getElem?_cons_succ]; rfl) (by kernel_rfl) (by kernel_rfl) (by kernel_rfl) (fun _ _ _ h => h) (Or.inl ⟨by rfl, ?xaqah42⟩) hHeld1 ?xaqaq42
              case xaqah42 => (intro w hSw; (try dsimp only at hSw); go_simp <;> with_reducible rfl)
              try simp only [Act.put, List.setIfInBounds_toArray, List.set_cons_zero, List.set_cons_succ]
              refine wpAnyH_take (i := 42) (v := ?xaqav43) (by simp only [List.getElem?_toArray, List.getElem?_cons_zero, List.getElem?_cons_succ]; rfl) (by kernel_rfl) (by kernel_rfl) (by kernel_rfl) (fun _ _ _ h => h) (Or.inl ⟨by rfl, ?xaqah43⟩) hHeld1 ?xaqaq43
              case xaqah43 => (intro w hSw; (try dsimp only at hSw); go_simp <;> with_reducible rfl)
              try simp only [Act.put, List.setIfInBounds_toArray, List.set_cons_zero, List.set_cons_succ]
              refine wpAnyH_take (i := 43) (v := ?xaqav44) (by simp only [List.getElem?_toArray, List.getElem?_cons_zero, List.getElem?_cons_succ]; rfl) (by kernel_rfl) (by kernel_rfl) (by kernel_rfl) (fun _ _ _ h => h) (Or.inl ⟨by rfl, ?xaqah44⟩) hHeld1 ?xaqaq44
              case xaqah44 => (intro w hSw; (try dsimp only at hSw); go_simp <;> with_reducible rfl)
              try simp only [Act.put, List.setIfInBounds_toArray, List.set_cons_zero, List.set_cons_succ]
              refine wpAnyH_done (by kernel_rfl) ?_ _
              refine NoPanic.normal ?_
              go_wp2_with fail
              exact ⟨⟨n + 1, by omega, by omega, by push_cast; omega, by simp, HB7.out⟩, by simp [intOf]; omega⟩
            · have hlx : ¬ ((j : Int) + 1 < (m : Int)) := by omega
              have hlx2 : ¬ (j + 1 < m) := hjx
              refine wp_region_noPanic ?_
              refine wp_region_held_drew (S := (fun w' => w'.cell? ⟨pa, 0, none⟩ = some (.int .i64 ((j : Int) + 1)) ∧ w'.cell? ⟨pa, 1, none⟩ = some (.int .i64 en) ∧ w'.cell? ⟨pa, 2, none⟩ = some (.int .i64 bb) ∧ w'.cell? ⟨pa, 3, none⟩ = some (.slice none 0 0) ∧ w'.cell? ⟨pa, 4, none⟩ = some (.slice A5 l.length c5) ∧ w'.cell? ⟨g, j * 5, none⟩ = some (.int .i64 ((j : Int) + 1)) ∧ w'.cell? ⟨g, j * 5 + 1, none⟩ = some (.int .i64 en) ∧ w'.cell? ⟨g, j * 5 + 2, none⟩ = some (.int .i64 bb) ∧ w'.cell? ⟨g, j * 5 + 3, none⟩ = some (.slice none 0 0) ∧ w'.cell? ⟨g, j * 5 + 4, none⟩ = some (.slice (some zad) l.length zc))) (by kernel_rfl) ?xaqbs0 (fun hHeld0 => ?xaqbr0)
              case xaqbs0 => (try dsimp only); exact ⟨f0, f1, f2, f3, f4, e0, e1, e2, e3, e4⟩
              refine wpAnyH_take (i := 0) (v := ?xaqbv1) (by simp only [List.getElem?_toArray, List.getElem?_cons_zero, List.getElem?_cons_succ]; rfl) (by kernel_rfl) (by kernel_rfl) (by kernel_rfl) (fun _ _ _ h => h) (Or.inl ⟨by rfl, ?xaqbh1⟩) hHeld0 ?xaqbq1
              case xaqbh1 => (intro w hSw; (try dsimp only at hSw); go_simp <;> with_reducible rfl)
              try simp only [Act.put, List.setIfInBounds_toArray, List.set_cons_zero, List.set_cons_succ]
              refine wpAnyH_take (i := 1) (v := ?xaqbv2) (by simp only [List.getElem?_toArray, List.getElem?_cons_zero, List.getElem?_cons_succ]; rfl) (by kernel_rfl) (by kernel_rfl) (by kernel_rfl) (fun _ _ _ h => h) (Or.inl ⟨by rfl, ?xaqbh2⟩) hHeld0 ?xaqbq2
              case xaqbh2 => (intro w hSw; (try dsimp only at hSw); go_simp <;> with_reducible rfl)
              try simp only [Act.put, List.setIfInBounds_toArray, List.set_cons_zero, List.set_cons_succ]
              refine wpAnyH_take (i := 2) (v := ?xaqbv3) (by simp only [List.getElem?_toArray, List.getElem?_cons_zero, List.getElem?_cons_succ]; rfl) (by kernel_rfl) (by kernel_rfl) (by kernel_rfl) (fun _ _ _ h => h) (Or.inl ⟨by rfl, ?xaqbh3⟩) hHeld0 ?xaqbq3
              case xaqbh3 => (intro w hSw; (try dsimp only at hSw); go_simp <;> with_reducible rfl)
              try simp only [Act.put, List.setIfInBounds_toArray, List.set_cons_zero, List.set_cons_succ]
              refine wpAnyH_take (i := 3) (v := ?xaqbv4) (by simp only [List.getElem?_toArray, List.getElem?_cons_zero, List.getElem?_cons_succ]; rfl) (by kernel_rfl) (by kernel_rfl) (by kernel_rfl) (fun _ _ _ h => h) (Or.inl ⟨by rfl, ?xaqbh4⟩) hHeld0 ?xaqbq4
              case xaqbh4 => (intro w hSw; (try dsimp only at hSw); go_simp <;> with_reducible rfl)
              try simp only [Act.put, List.setIfInBounds_toArray, List.set_cons_zero, List.set_cons_succ]
              refine wpAnyH_take (i := 4) (v := ?xaqbv5) (by simp only [List.getElem?_toArray, List.getElem?_cons_zero, List.getElem?_cons_succ]; rfl) (by kernel_rfl) (by kernel_rfl) (by kernel_rfl) (fun _ _ _ h => h) (Or.inl ⟨by rfl, ?xaqbh5⟩) hHeld0 ?xaqbq5
              case xaqbh5 => (intro w hSw; (try dsimp only at hSw); go_simp <;> with_reducible rfl)
              try simp only [Act.put, List.setIfInBounds_toArray, List.set_cons_zero, List.set_cons_succ]
              refine wpAnyH_take (i := 5) (v := ?xaqbv6) (by simp only [List.getElem?_toArray, List.getElem?_cons_zero, List.getElem?_cons_succ]; rfl) (by kernel_rfl) (by kernel_rfl) (by kernel_rfl) (fun _ _ _ h => h) (Or.inl ⟨by rfl, ?xaqbh6⟩) hHeld0 ?xaqbq6
              case xaqbh6 => (intro w hSw; (try dsimp only at hSw); go_simp <;> with_reducible rfl)
              try simp only [Act.put, List.setIfInBounds_toArray, List.set_cons_zero, List.set_cons_succ]
              refine wpAnyH_take (i := 6) (v := ?xaqbv7) (by simp only [List.getElem?_toArray, List.getElem?_cons_zero, List.getElem?_cons_succ]; rfl) (by kernel_rfl) (by kernel_rfl) (by kernel_rfl) (fun _ _ _ h => h) (Or.inl ⟨by rfl, ?xaqbh7⟩) hHeld0 ?xaqbq7
              case xaqbh7 => (intro w hSw; (try dsimp only at hSw); go_simp <;> with_reducible rfl)
              try simp only [Act.put, List.setIfInBounds_toArray, List.set_cons_zero, List.set_cons_succ]
              refine wpAnyH_take (i := 7) (v := ?xaqbv8) (by simp only [List.getElem?_toArray, List.getElem?_cons_zero, List.getElem?_cons_succ]; rfl) (by kernel_rfl) (by kernel_rfl) (by kernel_rfl) (fun _ _ _ h => h) (Or.inl ⟨by rfl, ?xaqbh8⟩) hHeld0 ?xaqbq8
              case xaqbh8 => (intro w hSw; (try dsimp only at hSw); go_simp <;> with_reducible rfl)
              try simp only [Act.put, List.setIfInBounds_toArray, List.set_cons_zero, List.set_cons_succ]
              refine wpAnyH_take (i := 8) (v := ?xaqbv9) (by simp only [List.getElem?_toArray, List.getElem?_cons_zero, List.getElem?_cons_succ]; rfl) (by kernel_rfl) (by kernel_rfl) (by kernel_rfl) (fun _ _ _ h => h) (Or.inl ⟨by rfl, ?xaqbh9⟩) hHeld0 ?xaqbq9
              case xaqbh9 => (intro w hSw; (try dsimp only at hSw); go_simp <;> with_reducible rfl)
              try simp only [Act.put, List.setIfInBounds_toArray, List.set_cons_zero, List.set_cons_succ]
              refine wpAnyH_take (i := 9) (v := ?xaqbv10) (by simp only [List.getElem?_toArray, List.getElem?_cons_zero, List.getElem?_cons_succ]; rfl) (by kernel_rfl) (by kernel_rfl) (by kernel_rfl) (fun _ _ _ h => h) (Or.inl ⟨by rfl, ?xaqbh10⟩) hHeld0 ?xaqbq10
              case xaqbh10 => (intro w hSw; (try dsimp only at hSw); go_simp <;> with_reducible rfl)
              try simp only [Act.put, List.setIfInBounds_toArray, List.set_cons_zero, List.set_cons_succ]
              refine wpAnyH_take (i := 10) (v := ?xaqbv11) (by simp only [List.getElem?_toArray, List.getElem?_cons_zero, List.getElem?_cons_succ]; rfl) (by kernel_rfl) (by kernel_rfl) (by kernel_rfl) (fun _ _ _ h => h) (Or.inl ⟨by rfl, ?xaqbh11⟩) hHeld0 ?xaqbq11
              case xaqbh11 => (intro w hSw; (try dsimp only at hSw); go_simp <;> with_reducible rfl)
              try simp only [Act.put, List.setIfInBounds_toArray, List.set_cons_zero, List.set_cons_succ]
              refine wpAnyH_take (i := 11) (v := ?xaqbv12) (by simp only [List.getElem?_toArray, List.getElem?_cons_zero, List.getElem?_cons_succ]; rfl) (by kernel_rfl) (by kernel_rfl) (by kernel_rfl) (fun _ _ _ h => h) (Or.inl ⟨by rfl, ?xaqbh12⟩) hHeld0 ?xaqbq12
              case xaqbh12 => (intro w hSw; (try dsimp only at hSw); go_simp <;> with_reducible rfl)
              try simp only [Act.put, List.setIfInBounds_toArray, List.set_cons_zero, List.set_cons_succ]
              refine wpAnyH_take (i := 12) (v := ?xaqbv13) (by simp only [List.getElem?_toArray, List.getElem?_cons_zero, List.getElem?_cons_succ]; rfl) (by kernel_rfl) (by kernel_rfl) (by kernel_rfl) (fun _ _ _ h => h) (Or.inl ⟨by rfl, ?xaqbh13⟩) hHeld0 ?xaqbq13
              case xaqbh13 => (intro w hSw; (try dsimp only at hSw); go_simp <;> with_reducible rfl)
              try simp only [Act.put, List.setIfInBounds_toArray, List.set_cons_zero, List.set_cons_succ]
              refine wpAnyH_take (i := 13) (v := ?xaqbv14) (by simp only [List.getElem?_toArray, List.getElem?_cons_zero, List.getElem?_cons_succ]; rfl) (by kernel_rfl) (by kernel_rfl) (by kernel_rfl) (fun _ _ _ h => h) (Or.inl ⟨by rfl, ?xaqbh14⟩) hHeld0 ?xaqbq14
              case xaqbh14 => (intro w hSw; (try dsimp only at hSw); go_simp <;> with_reducible rfl)
              try simp only [Act.put, List.setIfInBounds_toArray, List.set_cons_zero, List.set_cons_succ]
              refine wpAnyH_take (i := 14) (v := ?xaqbv15) (by simp only [List.getElem?_toArray, List.getElem?_cons_zero, List.getElem?_cons_succ]; rfl) (by kernel_rfl) (by kernel_rfl) (by kernel_rfl) (fun _ _ _ h => h) (Or.inl ⟨by rfl, ?xaqbh15⟩) hHeld0 ?xaqbq15
              case xaqbh15 => (intro w hSw; (try dsimp only at hSw); go_simp <;> with_reducible rfl)
              try simp only [Act.put, List.setIfInBounds_toArray, List.set_cons_zero, List.set_cons_succ]
              refine wpAnyH_take (i := 15) (v := ?xaqbv16) (by simp only [List.getElem?_toArray, List.getElem?_cons_zero, List.getElem?_cons_succ]; rfl) (by kernel_rfl) (by kernel_rfl) (by kernel_rfl) (fun _ _ _ h => h) (Or.inl ⟨by rfl, ?xaqbh16⟩) hHeld0 ?xaqbq16
              case xaqbh16 => (intro w hSw; (try dsimp only at hSw); go_simp <;> with_reducible rfl)
              try simp only [Act.put, List.setIfInBounds_toArray, List.set_cons_zero, List.set_cons_succ]
              refine wpAnyH_take (i := 16) (v := ?xaqbv17) (by simp only [List.getElem?_toArray, List.getElem?_cons_zero, List.getElem?_cons_succ]; rfl) (by kernel_rfl) (by kernel_rfl) (by kernel_rfl) (fun _ _ _ h => h) (Or.inl ⟨by rfl, ?xaqbh17⟩) hHeld0 ?xaqbq17
              case xaqbh17 => (intro w hSw; (try dsimp only at hSw); go_simp <;> with_reducible rfl)
              try simp only [Act.put, List.setIfInBounds_toArray, List.set_cons_zero, List.set_cons_succ]
              refine wpAnyH_take (i := 17) (v := ?xaqbv18) (by simp only [List.getElem?_toArray, List.getElem?_cons_zero, List.getElem?_cons_succ]; rfl) (by kernel_rfl) (by kernel_rfl) (by kernel_rfl) (fun _ _ _ h => h) (Or.inl ⟨by rfl, ?xaqbh18⟩) hHeld0 ?xaqbq18
              case xaqbh18 => (intro w hSw; (try dsimp only at hSw); go_simp <;> with_reducible rfl)
              try simp only [Act.put, List.setIfInBounds_toArray, List.set_cons_zero, List.set_cons_succ]
              refine wpAnyH_take (i := 18) (v := ?xaqbv19) (by simp only [List.getElem?_toArray, List.getElem?_cons_zero, List.getElem?_cons_succ]; rfl) (by kernel_rfl) (by kernel_rfl) (by kernel_rfl) (fun _ _ _ h => h) (Or.inl ⟨by rfl, ?xaqbh19⟩) hHeld0 ?xaqbq19
              case xaqbh19 => (intro w hSw; (try dsimp only at hSw); go_simp <;> with_reducible rfl)
              try simp only [Act.put, List.setIfInBounds_toArray, List.set_cons_zero, List.set_cons_succ]
              refine wpAnyH_take (i := 19) (v := ?xaqbv20) (by simp only [List.getElem?_toArray, List.getElem?_cons_zero, List.getElem?_cons_succ]; rfl) (by kernel_rfl) (by kernel_rfl) (by kernel_rfl) (fun _ _ _ h => h) (Or.inl ⟨by rfl, ?xaqbh20⟩) hHeld0 ?xaqbq20
              case xaqbh20 => (intro w hSw; (try dsimp only at hSw); go_simp <;> with_reducible rfl)
              try simp only [Act.put, List.setIfInBounds_toArray, List.set_cons_zero, List.set_cons_succ]
              refine wpAnyH_take (i := 20) (v := ?xaqbv21) (by simp only [List.getElem?_toArray, List.getElem?_cons_zero, List.getElem?_cons_succ]; rfl) (by kernel_rfl) (by kernel_rfl) (by kernel_rfl) (fun _ _ _ h => h) (Or.inl ⟨by rfl, ?xaqbh21⟩) hHeld0 ?xaqbq21
              case xaqbh21 => (intro w hSw; (try dsimp only at hSw); go_simp <;> with_reducible rfl)
              try simp only [Act.put, List.setIfInBounds_toArray, List.set_cons_zero, List.set_cons_succ]
              refine wpAnyH_take (i := 21) (v := ?xaqbv22) (by simp only [List.getElem?_toArray, List.getElem?_cons_zero, List.getElem?_cons_succ]; rfl) (by kernel_rfl) (by kernel_rfl) (by kernel_rfl) (fun _ _ _ h => h) (Or.inl ⟨by rfl, ?xaqbh22⟩) hHeld0 ?xaqbq22
              case xaqbh22 => (intro w hSw; (try dsimp only at hSw); go_simp <;> with_reducible rfl)
              try simp only [Act.put, List.setIfInBounds_toArray, List.set_cons_zero, List.set_cons_succ]
              refine wpAnyH_take (i := 22) (v := ?xaqbv23) (by simp only [List.getElem?_toArray, List.getElem?_cons_zero, List.getElem?_cons_succ]; rfl) (by kernel_rfl) (by kernel_rfl) (by kernel_rfl) (fun _ _ _ h => h) (Or.inl ⟨by rfl, ?xaqbh23⟩) hHeld0 ?xaqbq23
              case xaqbh23 => (intro w hSw; (try dsimp only at hSw); go_simp <;> with_reducible rfl)
              try simp only [Act.put, List.setIfInBounds_toArray, List.set_cons_zero, List.set_cons_succ]
              refine wpAnyH_take (i := 23) (v := ?xaqbv24) (by simp only [List.getElem?_toArray, List.getElem?_cons_zero, List.getElem?_cons_succ]; rfl) (by kernel_rfl) (by kernel_rfl) (by kernel_rfl) (fun _ _ _ h => h) (Or.inl ⟨by rfl, ?xaqbh24⟩) hHeld0 ?xaqbq24
              case xaqbh24 => (intro w hSw; (try dsimp only at hSw); go_simp <;> with_reducible rfl)
              try simp only [Act.put, List.setIfInBounds_toArray, List.set_cons_zero, List.set_cons_succ]
              refine wpAnyH_ready (rs := [24]) (by kernel_rfl) (by simp) ?_
              refine AllReadyH.cons (by simp only [List.getElem?_toArray, List.getElem?_cons_zero, List.getElem?_cons_succ]; rfl) (fun K hK => ?_) AllReadyH.nil
              go_simp
              go_at_call 14
              refine (same17 ((j : Int) + 1) en bb A5 (some zad) c5 zc l W.drew HRA.out (ReadsInt.below HZR.out HBO.out)).mono ?_
              rintro e w7 ⟨rfl, hB7⟩
              have p0 := pw_cell_below hB7 f0
              have p1 := pw_cell_below hB7 f1
              have p2 := pw_cell_below hB7 f2
              have p3 := pw_cell_below hB7 f3
              have p4 := pw_cell_below hB7 f4
              have p5 := pw_cell_below hB7 e0
              have p6 := pw_cell_below hB7 e1
              have p7 := pw_cell_below hB7 e2
              have p8 := pw_cell_below hB7 e3
              have p9 := pw_cell_below hB7 e4
              have HB7 := Lib.hid (HBO.out.trans (hB7.mono HBO.out.size))
              clear hB7
              refine hK.out _ _ ?xaqbs25 (fun hHeld1 => ?xaqbq25)
              case xaqbs25 => (try dsimp only); exact ⟨p0, p1, p2, p3, p4, p5, p6, p7, p8, p9⟩
              clear hK K
              try simp only [Act.put, List.setIfInBounds_toArray, List.set_cons_zero, List.set_cons_succ]
              refine wpAnyH_take (i := 25) (v := ?xaqbv26) (by simp only [List.getElem?_toArray, List.getElem?_cons_zero, List.getElem?_cons_succ]; rfl) (by kernel_rfl) (by kernel_rfl) (by kernel_rfl) (fun _ _ _ h => h) (Or.inl ⟨by rfl, ?xaqbh26⟩) hHeld1 ?xaqbq26
              case xaqbh26 => (intro w hSw; (try dsimp only at hSw); go_simp <;> with_reducible rfl)
              try simp only [Act.put, List.setIfInBounds_toArray, List.set_cons_zero, List.set_cons_succ]
              refine wpAnyH_take (i := 26) (v := ?xaqbv27) (by simp only [List.getElem?_toArray, List.getElem?_cons_zero, List.getElem?_cons_succ]; rfl) (by kernel_rfl) (by kernel_rfl) (by kernel_rfl) (fun _ _ _ h => h) (Or.inl ⟨by rfl, ?xaqbh27⟩) hHeld1 ?xaqbq27
              case xaqbh27 => (intro w hSw; (try dsimp only at hSw); go_simp <;> with_reducible rfl)
              try simp only [Act.put, List.setIfInBounds_toArray, List.set_cons_zero, List.set_cons_succ]
              refine wpAnyH_take (i := 27) (v := ?xaqbv28) (by simp only [List.getElem?_toArray, List.getElem?_cons_zero, List.getElem?_cons_succ]; rfl) (by kernel_rfl) (by kernel_rfl) (by kernel_rfl) (fun _ _ _ h => h) (Or.inl ⟨by rfl, ?xaqbh28⟩) hHeld1 ?xaqbq28
              case xaqbh28 => (intro w hSw; (try dsimp only at hSw); go_simp <;> with_reducible rfl)
              try simp only [Act.put, List.setIfInBounds_toArray, List.set_cons_zero, List.set_cons_succ]
              refine wpAnyH_take (i := 28) (v := ?xaqbv29) (by simp only [List.getElem?_toArray, List.getElem?_cons_zero, List.getElem?_cons_succ]; rfl) (by kernel_rfl) (by kernel_rfl) (by kernel_rfl) (fun _ _ _ h => h) (Or.inl ⟨by rfl, ?xaqbh29⟩) hHeld1 ?xaqbq29
              case xaqbh29 => (intro w hSw; (try dsimp only at hSw); go_simp <;> with_reducible rfl)
              try simp only [Act.put, List.setIfInBounds_toArray, List.set_cons_zero, List.set_cons_succ]
              refine wpAnyH_take (i := 29) (v := ?xaqbv30) (by simp only [List.getElem?_toArray, List.getElem?_cons_zero, List.getElem?_cons_succ]; rfl) (by kernel_rfl) (by kernel_rfl) (by kernel_rfl) (fun _ _ _ h => h) (Or.inl ⟨by rfl, ?xaqbh30⟩) hHeld1 ?xaqbq30
              case xaqbh30 => (intro w hSw; (try dsimp only at hSw); go_simp <;> with_reducible rfl)
              try simp only [Act.put, List.setIfInBounds_toArray, List.set_cons_zero, List.set_cons_succ]
              refine wpAnyH_take (i := 30) (v := ?xaqbv31) (by simp only [List.getElem?_toArray, List.getElem?_cons_zero, List.getElem?_cons_succ]; rfl) (by kernel_rfl) (by kernel_rfl) (by kernel_rfl) (fun _ _ _ h => h) (Or.inl ⟨by rfl, ?xaqbh31⟩) hHeld1 ?xaqbq31
              case xaqbh31 => (intro w hSw; (try dsimp only at hSw); go_simp <;> with_reducible rfl)
              try simp only [Act.put, List.setIfInBounds_toArray, List.set_cons_zero, List.set_cons_succ]
              refine wpAnyH_take (i := 31) (v := ?xaqbv32) (by simp only [List.getElem?_toArray, List.getElem?_cons_zero, List.getElem?_cons_succ]; rfl) (by kernel_rfl) (by kernel_rfl) (by kernel_rfl) (fun _ _ _ h => h) (Or.inl ⟨by rfl, ?xaqbh32⟩) hHeld1 ?xaqbq32
              case xaqbh32 => (intro w hSw; (try dsimp only at hSw); go_simp <;> with_reducible rfl)
              try simp only [Act.put, List.setIfInBounds_toArray, List.set_cons_zero, List.set_cons_succ]
              refine wpAnyH_take (i := 32) (v := ?xaqbv33) (by simp only [List.getElem?_toArray, List.getElem?_cons_zero, List.getElem?_cons_succ]; rfl) (by kernel_rfl) (by kernel_rfl) (by kernel_rfl) (fun _ _ _ h => h) (Or.inl ⟨by rfl, ?xaqbh33⟩) hHeld1 ?xaqbq33
              case xaqbh33 => (intro w hSw; (try dsimp only at hSw); go_simp <;> with_reducible rfl)
              try simp only [Act.put, List.setIfInBounds_toArray, List.set_cons_zero, List.set_cons_succ]
              refine wpAnyH_take (i := 33) (v := ?xaqbv34) (by simp only [List.getElem?_toArray, List.getElem?_cons_zero, List.getElem?_cons_succ]; rfl) (by kernel_rfl) (by kernel_rfl) (by kernel_rfl) (fun _ _ _ h => h) (Or.inl ⟨by rfl, ?xaqbh34⟩) hHeld1 ?xaqbq34
              case xaqbh34 => (intro w hSw; (try dsimp only at hSw); go_simp <;> with_reducible rfl)
              try simp only [Act.put, List.setIfInBounds_toArray, List.set_cons_zero, List.set_cons_succ]
              refine wpAnyH_take (i := 34) (v := undef) (by simp only [List.getElem?_toArray, List.getElem?_cons_zero, List.getElem?_cons_succ]; rfl) (by kernel_rfl) (by kernel_rfl) (by kernel_rfl) (fun _ _ _ h => h) (Or.inr ⟨by rfl, rfl⟩) hHeld1 ?xaqbq35
              try simp only [Act.put, List.setIfInBounds_toArray, List.set_cons_zero, List.set_cons_succ]
              refine wpAnyH_take (i := 35) (v := undef) (by simp only [List.getElem?_toArray, List.getElem?_cons_zero, List.getElem?_cons_succ]; rfl) (by kernel_rfl) (by kernel_rfl) (by kernel_rfl) (fun _ _ _ h => h) (Or.inr ⟨by rfl, rfl⟩) hHeld1 ?xaqbq36
              try simp only [Act.put, List.setIfInBounds_toArray, List.set_cons_zero, List.set_cons_succ]
              refine wpAnyH_take (i := 36) (v := undef) (by simp only [List.getElem?_toArray, List.getElem?_cons_zero, List.getElem?_cons_succ]; rfl) (by kernel_rfl) (by kernel_rfl) (by kernel_rfl) (fun _ _ _ h => h) (Or.inr ⟨by rfl, rfl⟩) hHeld1 ?xaqbq37
              try simp only [Act.put, List.setIfInBounds_toArray, List.set_cons_zero, List.set_cons_succ]
              refine wpAnyH_take (i := 37) (v := undef) (by simp only [List.getElem?_toArray, List.getElem?_cons_zero, List.getElem?_cons_succ]; rfl) (by kernel_rfl) (by kernel_rfl) (by kernel_rfl) (fun _ _ _ h => h) (Or.inr ⟨by rfl, rfl⟩) hHeld1 ?xaqbq38
              try simp only [Act.put, List.setIfInBounds_toArray, List.set_cons_zero, List.set_cons_succ]
              refine wpAnyH_take (i := 38) (v := undef) (by simp only [List.getElem?_toArray, List.getElem?_cons_zero, List.getElem?_cons_succ]; rfl) (by kernel_rfl) (by kernel_rfl) (by kernel_rfl) (fun _ _ _ h => h) (Or.inr ⟨by rfl, rfl⟩) hHeld1 ?xaqbq39
              try simp only [Act.put, List.setIfInBounds_toArray, List.set_cons_zero, List.set_cons_succ]
              refine wpAnyH_take (i := 39) (v := undef) (by simp only [List.getElem?_toArray, List.getElem?_cons_zero, List.getElem?_cons_succ]; rfl) (by kernel_rfl) (by kernel_rfl) (by kernel_rfl) (fun _ _ _ h => h) (Or.inr ⟨by rfl, rfl⟩) hHeld1 ?xaqbq40
              try simp only [Act.put, List.setIfInBounds_toArray, List.set_cons_zero, List.set_cons_succ]
              refine wpAnyH_take (i := 40) (v := undef) (by simp only [List.getElem?_toArray, List.getElem?_cons_zero, List.getElem?_cons_succ]; rfl) (by kernel_rfl) (by kernel_rfl) (by kernel_rfl) (fun _ _ _ h => h) (Or.inr ⟨by rfl, rfl⟩) hHeld1 ?xaqbq41
              try simp only [Act.put, List.setIfInBounds_toArray, List.set_cons_zero, List.set_cons_succ]
              refine wpAnyH_take (i := 41) (v := undef) (by simp only [List.getElem?_toArray, List.getElem?_cons_zero, List.getElem?_cons_succ]; rfl) (by kernel_rfl) (by kernel_rfl) (by kernel_rfl) (fun _ _ _ h => h) (Or.inr ⟨by rfl, rfl⟩) hHeld1 ?xaqbq42
              try simp only [Act.put, List.setIfInBounds_toArray, List.set_cons_zero, List.set_cons_succ]
              refine wpAnyH_take (i := 42) (v := ?xaqbv43) (by simp only [List.getElem?_toArray, List.getElem?_cons_zero, List.getElem?_cons_succ]; rfl) (by kernel_rfl) (by kernel_rfl) (by kernel_rfl) (fun _ _ _ h => h) (Or.inl ⟨by rfl, ?xaqbh43⟩) hHeld1 ?xaqbq43
              case xaqbh43 => (intro w hSw; (try dsimp only at hSw); go_simp <;> with_reducible rfl)
              try simp only [Act.put, List.setIfInBounds_toArray, List.set_cons_zero, List.set_cons_succ]
              refine wpAnyH_take (i := 43) (v := ?xaqbv44) (by simp only [List.getElem?_toArray, List.getElem?_cons_zero, List.getElem?_cons_succ]; rfl) (by kernel_rfl) (by kernel_rfl) (by kernel_rfl) (fun _ _ _ h => h) (Or.inl ⟨by rfl, ?xaqbh44⟩) hHeld1 ?xaqbq44
              case xaqbh44 => (intro w hSw; (try dsimp only at hSw); go_simp <;> with_reducible rfl)
              try simp only [Act.put, List.setIfInBounds_toArray, List.set_cons_zero, List.set_cons_succ]
              refine wpAnyH_done (by kernel_rfl) ?_ _
              refine NoPanic.normal ?_
              go_wp2_with fail
              exact ⟨⟨n + 1, by omega, by omega, by push_cast; omega, by simp, HB7.out⟩, by simp [intOf]; omega⟩
          · have hle2 : ¬ ((n : Int) ≤ B + 3) := hle
            go_wp2_with (go_at_call 10; refine (now_lit wr base F b xs x (HGA.out.below HBQ.out) HX.out).mono ?_; rintro e w4 ⟨A4, c4, rfl, _, hB4⟩; rw [← HXB.out]; have HB4 := Lib.hid (HBQ.out.trans (hB4.mono HBQ.out.size)); clear hB4)
            go_wp2_with fail
            go_loopw [11] (fun iv wq => ∃ (i : Nat), i ≤ m ∧ iv = .int .i64 (i : Int) ∧ Below wA.heap.size wA wq) (fun iv _ => m - (intOf iv).toNat)
            case atStart => exact ⟨0, by omega, rfl, HB4.out⟩
            case round =>
              obtain ⟨i, hi, rfl, hbq⟩ := hrel
              have HBI := Lib.hid hbq
              clear hbq
              by_cases hii : (i : Int) < (m : Int)
              · obtain ⟨y, hy⟩ : ∃ y, xs[i]? = some y := ⟨_, List.getElem?_eq_getElem (by have := HMM.out.1; omega)⟩
                have hyi := (HS.out.ok i y hy).1
                obtain ⟨z, hz, hzg⟩ := gok_map HA.out.same hy
                have hgz := ge_get HA.out.row i (List.getElem?_eq_some_iff.1 hz).1
                have hrz := HA.out.rows z (List.mem_of_getElem? hz)
                rw [(List.getElem?_eq_some_iff.1 hz).2] at hgz
                have hpv : ∀ p, i = p + 1 → ∃ pb, pb < y.g.b ∧ wA.cell? ⟨g, p * 5 + 2, none⟩ = some (.int .i64 pb) := by
                  intro p hp
                  obtain ⟨y2, hy2⟩ : ∃ y2, xs[p]? = some y2 := ⟨_, List.getElem?_eq_getElem (by have := HMM.out.1; omega)⟩
                  obtain ⟨z2, hz2, hg2⟩ := gok_map HA.out.same hy2
                  have h2 := ge_get HA.out.row p (List.getElem?_eq_some_iff.1 hz2).1
                  rw [(List.getElem?_eq_some_iff.1 hz2).2] at h2
                  exact ⟨z2.g.b, by rw [hg2]; exact (HS.out.ok p y2 hy2).2.2.2 y (by rw [← hp]; exact hy), h2.2.2.1⟩
                obtain ⟨⟨yn, en, bb, l⟩, yA, yc⟩ := y
                obtain ⟨zg, zA, zc⟩ := z
                obtain rfl : zg = _ := hzg
                obtain rfl : yn = (i : Int) + 1 := hyi
                obtain ⟨g0, g1, g2, g3, g4⟩ := hgz
                obtain ⟨zad, hza, hzC⟩ := mem_row hrz.1 hrz.2.1
                obtain rfl : zA = some zad := hza
                have HZR := Lib.hid (ReadsInt.below (ri_of_C hzC) HBI.out.drew)
                have hl7 : l.length ≤ 7 := hrz.2.2
                have e0 : wr.drew.cell? ⟨g, i * 5, none⟩ = some (.int .i64 ((i : Int) + 1)) := pw_cell_below HBI.out.drew g0
                have e2 : wr.drew.cell? ⟨g, i * 5 + 2, none⟩ = some (.int .i64 bb) := pw_cell_below HBI.out.drew g2
                have e3 : wr.drew.cell? ⟨g, i * 5 + 3, none⟩ = some (.slice none 0 0) := pw_cell_below HBI.out.drew g3
                have e4 : wr.drew.cell? ⟨g, i * 5 + 4, none⟩ = some (.slice (some zad) l.length zc) := pw_cell_below HBI.out.drew g4
                have HE0 := Lib.hid g0
                have hi0 : (0 : Int) ≤ (i : Int) := by omega
                have hwi : IntKind.i64.wrap ((i : Int) + 1) = (i : Int) + 1 := IntWalk.i64_in _ (by omega)
                have HPV := Lib.hid hpv
                clear g0 g1 g2 g3 g4 hrz hz hzC hpv hy
                obtain ⟨fe, hfe⟩ : ∃ fe, fe = fenceE x.g.n ((i : Int) + 1) := ⟨_, rfl⟩
                have hft : (fe == 0) = ((i : Int) + 1 == (m : Int)) := by
                  have hmi := HMM.out.2.1
                  rw [hfe, HXN.out]
                  unfold fenceE
                  by_cases h1 : (i : Int) + 1 < (k : Int) + 1
                  · rw [if_pos h1, show ((i : Int) + 1 == (m : Int)) = false from beq_eq_false_iff_ne.mpr (by omega)]; rfl
                  · rw [if_neg h1, if_neg (by omega), show ((i : Int) + 1 == (m : Int)) = true from beq_iff_eq.mpr (by omega)]; rfl
                have HFE := Lib.hid hfe
                clear hfe
                by_cases hip : 0 < i
                · obtain ⟨p, hp⟩ : ∃ p, i = p + 1 := ⟨i - 1, by omega⟩
                  obtain ⟨pb, hpb, hpc⟩ := HPV.out p hp
                  have e5 : wr.drew.cell? ⟨g, p * 5 + 2, none⟩ = some (.int .i64 pb) := pw_cell_below HBI.out.drew hpc
                  have hgt : (0 : Int) < (i : Int) := by omega
                  have hwp : IntKind.i64.wrap ((i : Int) - 1) = (p : Int) := (IntWalk.i64_in _ (by omega)).trans (by omega)
                  have hp0 : (0 : Int) ≤ (p : Int) := by omega
                  have hpm : (p : Int) < (m : Int) := by omega
                  have HPP := Lib.hid hp
                  clear hp
                  have hpb2 : ¬ (bb ≤ pb) := by have : pb < bb := hpb; omega
                  have hpb2d : decide (bb ≤ pb) = false := decide_eq_false hpb2
                  clear hpc hpb
                  go_wp2_with fail
                  refine wp_region_noPanic ?_
                  refine wp_region_held_drew (S := (fun w' => w'.cell? ⟨g, i * 5, none⟩ = some (.int .i64 ((i : Int) + 1)) ∧ w'.cell? ⟨g, i * 5 + 2, none⟩ = some (.int .i64 bb) ∧ w'.cell? ⟨g, i * 5 + 3, none⟩ = some (.slice none 0 0) ∧ w'.cell? ⟨g, i * 5 + 4, none⟩ = some (.slice (some zad) l.length zc) ∧ w'.cell? ⟨g, p * 5 + 2, none⟩ = some (.int .i64 pb))) (by kernel_rfl) ?xayas0 (fun hHeld0 => ?xayar0)
                  case xayas0 => (try dsimp only); exact ⟨e0, e2, e3, e4, e5⟩
                  refine wpAnyH_take (i := 0) (v := ?xayav1) (by simp only [List.getElem?_toArray, List.getElem?_cons_zero, List.getElem?_cons_succ]; rfl) (by kernel_rfl) (by kernel_rfl) (by kernel_rfl) (fun _ _ _ h => h) (Or.inl ⟨by rfl, ?xayah1⟩) hHeld0 ?xayaq1
                  case xayah1 => (intro w hSw; (try dsimp only at hSw); go_simp <;> with_reducible rfl)
                  try simp only [Act.put, List.setIfInBounds_toArray, List.set_cons_zero, List.set_cons_succ]
                  refine wpAnyH_take (i := 1) (v := ?xayav2) (by simp only [List.getElem?_toArray, List.getElem?_cons_zero, List.getElem?_cons_succ]; rfl) (by kernel_rfl) (by kernel_rfl) (by kernel_rfl) (fun _ _ _ h => h) (Or.inl ⟨by rfl, ?xayah2⟩) hHeld0 ?xayaq2
                  case xayah2 => (intro w hSw; (try dsimp only at hSw); go_simp <;> with_reducible rfl)
                  try simp only [Act.put, List.setIfInBounds_toArray, List.set_cons_zero, List.set_cons_succ]
                  refine wpAnyH_take (i := 2) (v := ?xayav3) (by simp only [List.getElem?_toArray, List.getElem?_cons_zero, List.getElem?_cons_succ]; rfl) (by kernel_rfl) (by kernel_rfl) (by kernel_rfl) (fun _ _ _ h => h) (Or.inl ⟨by rfl, ?xayah3⟩) hHeld0 ?xayaq3
                  case xayah3 => (intro w hSw; (try dsimp only at hSw); go_simp <;> with_reducible rfl)
                  try simp only [Act.put, List.setIfInBounds_toArray, List.set_cons_zero, List.set_cons_succ]
                  refine wpAnyH_take (i := 3) (v := ?xayav4) (by simp only [List.getElem?_toArray, List.getElem?_cons_zero, List.getElem?_cons_succ]; rfl) (by kernel_rfl) (by kernel_rfl) (by kernel_rfl) (fun _ _ _ h => h) (Or.inl ⟨by rfl, ?xayah4⟩) hHeld0 ?xayaq4
                  case xayah4 => (intro w hSw; (try dsimp only at hSw); go_simp <;> with_reducible rfl)
                  try simp only [Act.put, List.setIfInBounds_toArray, List.set_cons_zero, List.set_cons_succ]
                  refine wpAnyH_take (i := 4) (v := ?xayav5) (by simp only [List.getElem?_toArray, List.getElem?_cons_zero, List.getElem?_cons_succ]; rfl) (by kernel_rfl) (by kernel_rfl) (by kernel_rfl) (fun _ _ _ h => h) (Or.inl ⟨by rfl, ?xayah5⟩) hHeld0 ?xayaq5
                  case xayah5 => (intro w hSw; (try dsimp only at hSw); go_simp <;> with_reducible rfl)
                  try simp only [Act.put, List.setIfInBounds_toArray, List.set_cons_zero, List.set_cons_succ]
                  refine wpAnyH_take (i := 5) (v := ?xayav6) (by simp only [List.getElem?_toArray, List.getElem?_cons_zero, List.getElem?_cons_succ]; rfl) (by kernel_rfl) (by kernel_rfl) (by kernel_rfl) (fun _ _ _ h => h) (Or.inl ⟨by rfl, ?xayah6⟩) hHeld0 ?xayaq6
                  case xayah6 => (intro w hSw; (try dsimp only at hSw); go_simp <;> with_reducible rfl)
                  try simp only [Act.put, List.setIfInBounds_toArray, List.set_cons_zero, List.set_cons_succ]
                  refine wpAnyH_take (i := 6) (v := ?xayav7) (by simp only [List.getElem?_toArray, List.getElem?_cons_zero, List.getElem?_cons_succ]; rfl) (by kernel_rfl) (by kernel_rfl) (by kernel_rfl) (fun _ _ _ h => h) (Or.inl ⟨by rfl, ?xayah7⟩) hHeld0 ?xayaq7
                  case xayah7 => (intro w hSw; (try dsimp only at hSw); go_simp <;> with_reducible rfl)
                  try simp only [Act.put, List.setIfInBounds_toArray, List.set_cons_zero, List.set_cons_succ]
                  refine wpAnyH_take (i := 7) (v := ?xayav8) (by simp only [List.getElem?_toArray, List.getElem?_cons_zero, List.getElem?_cons_succ]; rfl) (by kernel_rfl) (by kernel_rfl) (by kernel_rfl) (fun _ _ _ h => h) (Or.inl ⟨by rfl, ?xayah8⟩) hHeld0 ?xayaq8
                  case xayah8 => (intro w hSw; (try dsimp only at hSw); go_simp <;> with_reducible rfl)
                  try simp only [Act.put, List.setIfInBounds_toArray, List.set_cons_zero, List.set_cons_succ]
                  refine wpAnyH_take (i := 8) (v := ?xayav9) (by simp only [List.getElem?_toArray, List.getElem?_cons_zero, List.getElem?_cons_succ]; rfl) (by kernel_rfl) (by kernel_rfl) (by kernel_rfl) (fun _ _ _ h => h) (Or.inl ⟨by rfl, ?xayah9⟩) hHeld0 ?xayaq9
                  case xayah9 => (intro w hSw; (try dsimp only at hSw); go_simp <;> with_reducible rfl)
                  try simp only [Act.put, List.setIfInBounds_toArray, List.set_cons_zero, List.set_cons_succ]
                  refine wpAnyH_take (i := 9) (v := ?xayav10) (by simp only [List.getElem?_toArray, List.getElem?_cons_zero, List.getElem?_cons_succ]; rfl) (by kernel_rfl) (by kernel_rfl) (by kernel_rfl) (fun _ _ _ h => h) (Or.inl ⟨by rfl, ?xayah10⟩) hHeld0 ?xayaq10
                  case xayah10 => (intro w hSw; (try dsimp only at hSw); go_simp <;> with_reducible rfl)
                  try simp only [Act.put, List.setIfInBounds_toArray, List.set_cons_zero, List.set_cons_succ]
                  refine wpAnyH_take (i := 10) (v := ?xayav11) (by simp only [List.getElem?_toArray, List.getElem?_cons_zero, List.getElem?_cons_succ]; rfl) (by kernel_rfl) (by kernel_rfl) (by kernel_rfl) (fun _ _ _ h => h) (Or.inl ⟨by rfl, ?xayah11⟩) hHeld0 ?xayaq11
                  case xayah11 => (intro w hSw; (try dsimp only at hSw); go_simp <;> with_reducible rfl)
                  try simp only [Act.put, List.setIfInBounds_toArray, List.set_cons_zero, List.set_cons_succ]
                  refine wpAnyH_take (i := 11) (v := ?xayav12) (by simp only [List.getElem?_toArray, List.getElem?_cons_zero, List.getElem?_cons_succ]; rfl) (by kernel_rfl) (by kernel_rfl) (by kernel_rfl) (fun _ _ _ h => h) (Or.inl ⟨by rfl, ?xayah12⟩) hHeld0 ?xayaq12
                  case xayah12 => (intro w hSw; (try dsimp only at hSw); go_simp <;> with_reducible rfl)
                  try simp only [Act.put, List.setIfInBounds_toArray, List.set_cons_zero, List.set_cons_succ]
                  refine wpAnyH_take (i := 12) (v := ?xayav13) (by simp only [List.getElem?_toArray, List.getElem?_cons_zero, List.getElem?_cons_succ]; rfl) (by kernel_rfl) (by kernel_rfl) (by kernel_rfl) (fun _ _ _ h => h) (Or.inl ⟨by rfl, ?xayah13⟩) hHeld0 ?xayaq13
                  case xayah13 => (intro w hSw; (try dsimp only at hSw); go_simp <;> with_reducible rfl)
                  try simp only [Act.put, List.setIfInBounds_toArray, List.set_cons_zero, List.set_cons_succ]
                  refine wpAnyH_take (i := 13) (v := ?xayav14) (by simp only [List.getElem?_toArray, List.getElem?_cons_zero, List.getElem?_cons_succ]; rfl) (by kernel_rfl) (by kernel_rfl) (by kernel_rfl) (fun _ _ _ h => h) (Or.inl ⟨by rfl, ?xayah14⟩) hHeld0 ?xayaq14
                  case xayah14 => (intro w hSw; (try dsimp only at hSw); go_simp <;> with_reducible rfl)
                  try simp only [Act.put, List.setIfInBounds_toArray, List.set_cons_zero, List.set_cons_succ]
                  refine wpAnyH_take (i := 14) (v := ?xayav15) (by simp only [List.getElem?_toArray, List.getElem?_cons_zero, List.getElem?_cons_succ]; rfl) (by kernel_rfl) (by kernel_rfl) (by kernel_rfl) (fun _ _ _ h => h) (Or.inl ⟨by rfl, ?xayah15⟩) hHeld0 ?xayaq15
                  case xayah15 => (intro w hSw; (try dsimp only at hSw); go_simp <;> with_reducible rfl)
                  try simp only [Act.put, List.setIfInBounds_toArray, List.set_cons_zero, List.set_cons_succ]
                  refine wpAnyH_take (i := 15) (v := ?xayav16) (by simp only [List.getElem?_toArray, List.getElem?_cons_zero, List.getElem?_cons_succ]; rfl) (by kernel_rfl) (by kernel_rfl) (by kernel_rfl) (fun _ _ _ h => h) (Or.inl ⟨by rfl, ?xayah16⟩) hHeld0 ?xayaq16
                  case xayah16 => (intro w hSw; (try dsimp only at hSw); go_simp <;> with_reducible rfl)
                  try simp only [Act.put, List.setIfInBounds_toArray, List.set_cons_zero, List.set_cons_succ]
                  refine wpAnyH_take (i := 16) (v := ?xayav17) (by simp only [List.getElem?_toArray, List.getElem?_cons_zero, List.getElem?_cons_succ]; rfl) (by kernel_rfl) (by kernel_rfl) (by kernel_rfl) (fun _ _ _ h => h) (Or.inl ⟨by rfl, ?xayah17⟩) hHeld0 ?xayaq17
                  case xayah17 => (intro w hSw; (try dsimp only at hSw); go_simp <;> with_reducible rfl)
                  try simp only [Act.put, List.setIfInBounds_toArray, List.set_cons_zero, List.set_cons_succ]
                  refine wpAnyH_take (i := 17) (v := ?xayav18) (by simp only [List.getElem?_toArray, List.getElem?_cons_zero, List.getElem?_cons_succ]; rfl) (by kernel_rfl) (by kernel_rfl) (by kernel_rfl) (fun _ _ _ h => h) (Or.inl ⟨by rfl, ?xayah18⟩) hHeld0 ?xayaq18
                  case xayah18 => (intro w hSw; (try dsimp only at hSw); go_simp <;> with_reducible rfl)
                  try simp only [Act.put, List.setIfInBounds_toArray, List.set_cons_zero, List.set_cons_succ]
                  refine wpAnyH_take (i := 18) (v := ?xayav19) (by simp only [List.getElem?_toArray, List.getElem?_cons_zero, List.getElem?_cons_succ]; rfl) (by kernel_rfl) (by kernel_rfl) (by kernel_rfl) (fun _ _ _ h => h) (Or.inl ⟨by rfl, ?xayah19⟩) hHeld0 ?xayaq19
                  case xayah19 => (intro w hSw; (try dsimp only at hSw); go_simp <;> with_reducible rfl)
                  try simp only [Act.put, List.setIfInBounds_toArray, List.set_cons_zero, List.set_cons_succ]
                  refine wpAnyH_take (i := 19) (v := ?xayav20) (by simp only [List.getElem?_toArray, List.getElem?_cons_zero, List.getElem?_cons_succ]; rfl) (by kernel_rfl) (by kernel_rfl) (by kernel_rfl) (fun _ _ _ h => h) (Or.inl ⟨by rfl, ?xayah20⟩) hHeld0 ?xayaq20
                  case xayah20 => (intro w hSw; (try dsimp only at hSw); go_simp <;> with_reducible rfl)
                  try simp only [Act.put, List.setIfInBounds_toArray, List.set_cons_zero, List.set_cons_succ]
                  refine wpAnyH_take (i := 20) (v := ?xayav21) (by simp only [List.getElem?_toArray, List.getElem?_cons_zero, List.getElem?_cons_succ]; rfl) (by kernel_rfl) (by kernel_rfl) (by kernel_rfl) (fun _ _ _ h => h) (Or.inl ⟨by rfl, ?xayah21⟩) hHeld0 ?xayaq21
                  case xayah21 => (intro w hSw; (try dsimp only at hSw); go_simp <;> with_reducible rfl)
                  try simp only [Act.put, List.setIfInBounds_toArray, List.set_cons_zero, List.set_cons_succ]
                  refine wpAnyH_take (i := 21) (v := ?xayav22) (by simp only [List.getElem?_toArray, List.getElem?_cons_zero, List.getElem?_cons_succ]; rfl) (by kernel_rfl) (by kernel_rfl) (by kernel_rfl) (fun _ _ _ h => h) (Or.inl ⟨by rfl, ?xayah22⟩) hHeld0 ?xayaq22
                  case xayah22 => (intro w hSw; (try dsimp only at hSw); go_simp <;> with_reducible rfl)
                  try simp only [Act.put, List.setIfInBounds_toArray, List.set_cons_zero, List.set_cons_succ]
                  refine wpAnyH_take (i := 22) (v := ?xayav23) (by simp only [List.getElem?_toArray, List.getElem?_cons_zero, List.getElem?_cons_succ]; rfl) (by kernel_rfl) (by kernel_rfl) (by kernel_rfl) (fun _ _ _ h => h) (Or.inl ⟨by rfl, ?xayah23⟩) hHeld0 ?xayaq23
                  case xayah23 => (intro w hSw; (try dsimp only at hSw); go_simp <;> with_reducible rfl)
                  try simp only [Act.put, List.setIfInBounds_toArray, List.set_cons_zero, List.set_cons_succ]
                  refine wpAnyH_take (i := 23) (v := ?xayav24) (by simp only [List.getElem?_toArray, List.getElem?_cons_zero, List.getElem?_cons_succ]; rfl) (by kernel_rfl) (by kernel_rfl) (by kernel_rfl) (fun _ _ _ h => h) (Or.inl ⟨by rfl, ?xayah24⟩) hHeld0 ?xayaq24
                  case xayah24 => (intro w hSw; (try dsimp only at hSw); go_simp <;> with_reducible rfl)
                  try simp only [Act.put, List.setIfInBounds_toArray, List.set_cons_zero, List.set_cons_succ]
                  refine wpAnyH_take (i := 24) (v := ?xayav25) (by simp only [List.getElem?_toArray, List.getElem?_cons_zero, List.getElem?_cons_succ]; rfl) (by kernel_rfl) (by kernel_rfl) (by kernel_rfl) (fun _ _ _ h => h) (Or.inl ⟨by rfl, ?xayah25⟩) hHeld0 ?xayaq25
                  case xayah25 => (intro w hSw; (try dsimp only at hSw); go_simp <;> with_reducible rfl)
                  try simp only [Act.put, List.setIfInBounds_toArray, List.set_cons_zero, List.set_cons_succ]
                  refine wpAnyH_take (i := 25) (v := ?xayav26) (by simp only [List.getElem?_toArray, List.getElem?_cons_zero, List.getElem?_cons_succ]; rfl) (by kernel_rfl) (by kernel_rfl) (by kernel_rfl) (fun _ _ _ h => h) (Or.inl ⟨by rfl, ?xayah26⟩) hHeld0 ?xayaq26
                  case xayah26 => (intro w hSw; (try dsimp only at hSw); go_simp <;> with_reducible rfl)
                  try simp only [Act.put, List.setIfInBounds_toArray, List.set_cons_zero, List.set_cons_succ]
                  refine wpAnyH_take (i := 26) (v := ?xayav27) (by simp only [List.getElem?_toArray, List.getElem?_cons_zero, List.getElem?_cons_succ]; rfl) (by kernel_rfl) (by kernel_rfl) (by kernel_rfl) (fun _ _ _ h => h) (Or.inl ⟨by rfl, ?xayah27⟩) hHeld0 ?xayaq27
                  case xayah27 => (intro w hSw; (try dsimp only at hSw); go_simp <;> with_reducible rfl)
                  try simp only [Act.put, List.setIfInBounds_toArray, List.set_cons_zero, List.set_cons_succ]
                  refine wpAnyH_take (i := 27) (v := ?xayav28) (by simp only [List.getElem?_toArray, List.getElem?_cons_zero, List.getElem?_cons_succ]; rfl) (by kernel_rfl) (by kernel_rfl) (by kernel_rfl) (fun _ _ _ h => h) (Or.inl ⟨by rfl, ?xayah28⟩) hHeld0 ?xayaq28
                  case xayah28 => (intro w hSw; (try dsimp only at hSw); go_simp <;> with_reducible rfl)
                  try simp only [Act.put, List.setIfInBounds_toArray, List.set_cons_zero, List.set_cons_succ]
                  refine wpAnyH_take (i := 28) (v := ?xayav29) (by simp only [List.getElem?_toArray, List.getElem?_cons_zero, List.getElem?_cons_succ]; rfl) (by kernel_rfl) (by kernel_rfl) (by kernel_rfl) (fun _ _ _ h => h) (Or.inl ⟨by rfl, ?xayah29⟩) hHeld0 ?xayaq29
                  case xayah29 => (intro w hSw; (try dsimp only at hSw); go_simp <;> with_reducible rfl)
                  try simp only [Act.put, List.setIfInBounds_toArray, List.set_cons_zero, List.set_cons_succ]
                  refine wpAnyH_take (i := 29) (v := ?xayav30) (by simp only [List.getElem?_toArray, List.getElem?_cons_zero, List.getElem?_cons_succ]; rfl) (by kernel_rfl) (by kernel_rfl) (by kernel_rfl) (fun _ _ _ h => h) (Or.inl ⟨by rfl, ?xayah30⟩) hHeld0 ?xayaq30
                  case xayah30 => (intro w hSw; (try dsimp only at hSw); go_simp <;> with_reducible rfl)
                  try simp only [Act.put, List.setIfInBounds_toArray, List.set_cons_zero, List.set_cons_succ]
                  refine wpAnyH_take (i := 30) (v := ?xayav31) (by simp only [List.getElem?_toArray, List.getElem?_cons_zero, List.getElem?_cons_succ]; rfl) (by kernel_rfl) (by kernel_rfl) (by kernel_rfl) (fun _ _ _ h => h) (Or.inl ⟨by rfl, ?xayah31⟩) hHeld0 ?xayaq31
                  case xayah31 => (intro w hSw; (try dsimp only at hSw); go_simp <;> with_reducible rfl)
                  try simp only [Act.put, List.setIfInBounds_toArray, List.set_cons_zero, List.set_cons_succ]
                  refine wpAnyH_take (i := 31) (v := ?xayav32) (by simp only [List.getElem?_toArray, List.getElem?_cons_zero, List.getElem?_cons_succ]; rfl) (by kernel_rfl) (by kernel_rfl) (by kernel_rfl) (fun _ _ _ h => h) (Or.inl ⟨by rfl, ?xayah32⟩) hHeld0 ?xayaq32
                  case xayah32 => (intro w hSw; (try dsimp only at hSw); go_simp <;> with_reducible rfl)
                  try simp only [Act.put, List.setIfInBounds_toArray, List.set_cons_zero, List.set_cons_succ]
                  refine wpAnyH_take (i := 32) (v := ?xayav33) (by simp only [List.getElem?_toArray, List.getElem?_cons_zero, List.getElem?_cons_succ]; rfl) (by kernel_rfl) (by kernel_rfl) (by kernel_rfl) (fun _ _ _ h => h) (Or.inl ⟨by rfl, ?xayah33⟩) hHeld0 ?xayaq33
                  case xayah33 => (intro w hSw; (try dsimp only at hSw); go_simp <;> with_reducible rfl)
                  try simp only [Act.put, List.setIfInBounds_toArray, List.set_cons_zero, List.set_cons_succ]
                  refine wpAnyH_take (i := 33) (v := ?xayav34) (by simp only [List.getElem?_toArray, List.getElem?_cons_zero, List.getElem?_cons_succ]; rfl) (by kernel_rfl) (by kernel_rfl) (by kernel_rfl) (fun _ _ _ h => h) (Or.inl ⟨by rfl, ?xayah34⟩) hHeld0 ?xayaq34
                  case xayah34 => (intro w hSw; (try dsimp only at hSw); go_simp <;> with_reducible rfl)
                  try simp only [Act.put, List.setIfInBounds_toArray, List.set_cons_zero, List.set_cons_succ]
                  refine wpAnyH_take (i := 34) (v := ?xayav35) (by simp only [List.getElem?_toArray, List.getElem?_cons_zero, List.getElem?_cons_succ]; rfl) (by kernel_rfl) (by kernel_rfl) (by kernel_rfl) (fun _ _ _ h => h) (Or.inl ⟨by rfl, ?xayah35⟩) hHeld0 ?xayaq35
                  case xayah35 => (intro w hSw; (try dsimp only at hSw); go_simp <;> with_reducible rfl)
                  try simp only [Act.put, List.setIfInBounds_toArray, List.set_cons_zero, List.set_cons_succ]
                  refine wpAnyH_take (i := 35) (v := ?xayav36) (by simp only [List.getElem?_toArray, List.getElem?_cons_zero, List.getElem?_cons_succ]; rfl) (by kernel_rfl) (by kernel_rfl) (by kernel_rfl) (fun _ _ _ h => h) (Or.inl ⟨by rfl, ?xayah36⟩) hHeld0 ?xayaq36
                  case xayah36 => (intro w hSw; (try dsimp only at hSw); go_simp <;> with_reducible rfl)
                  try simp only [Act.put, List.setIfInBounds_toArray, List.set_cons_zero, List.set_cons_succ]
                  refine wpAnyH_take (i := 36) (v := ?xayav37) (by simp only [List.getElem?_toArray, List.getElem?_cons_zero, List.getElem?_cons_succ]; rfl) (by kernel_rfl) (by kernel_rfl) (by kernel_rfl) (fun _ _ _ h => h) (Or.inl ⟨by rfl, ?xayah37⟩) hHeld0 ?xayaq37
                  case xayah37 => (intro w hSw; (try dsimp only at hSw); go_simp <;> with_reducible rfl)
                  try simp only [Act.put, List.setIfInBounds_toArray, List.set_cons_zero, List.set_cons_succ]
                  refine wpAnyH_take (i := 37) (v := ?xayav38) (by simp only [List.getElem?_toArray, List.getElem?_cons_zero, List.getElem?_cons_succ]; rfl) (by kernel_rfl) (by kernel_rfl) (by kernel_rfl) (fun _ _ _ h => h) (Or.inl ⟨by rfl, ?xayah38⟩) hHeld0 ?xayaq38
                  case xayah38 => (intro w hSw; (try dsimp only at hSw); go_simp <;> with_reducible rfl)
                  try simp only [Act.put, List.setIfInBounds_toArray, List.set_cons_zero, List.set_cons_succ]
                  refine wpAnyH_take (i := 38) (v := ?xayav39) (by simp only [List.getElem?_toArray, List.getElem?_cons_zero, List.getElem?_cons_succ]; rfl) (by kernel_rfl) (by kernel_rfl) (by kernel_rfl) (fun _ _ _ h => h) (Or.inl ⟨by rfl, ?xayah39⟩) hHeld0 ?xayaq39
                  case xayah39 => (intro w hSw; (try dsimp only at hSw); go_simp <;> with_reducible rfl)
                  try simp only [Act.put, List.setIfInBounds_toArray, List.set_cons_zero, List.set_cons_succ]
                  refine wpAnyH_ready (rs := [39]) (by kernel_rfl) (by simp) ?_
                  refine AllReadyH.cons (by simp only [List.getElem?_toArray, List.getElem?_cons_zero, List.getElem?_cons_succ]; rfl) (fun K hK => ?_) AllReadyH.nil
                  go_simp
                  go_at_call 15
                  refine (sameC_any (some zad) (some zad) zc zc l wr.drew HZR.out HZR.out).mono ?_
                  rintro e w7 ⟨rfl, hB7⟩
                  have p0 := pw_cell_below hB7 e0
                  have p1 := pw_cell_below hB7 e2
                  have p2 := pw_cell_below hB7 e3
                  have p3 := pw_cell_below hB7 e4
                  have p4 := pw_cell_below hB7 e5
                  have HB7 := Lib.hid (HBI.out.drew.trans (hB7.mono HBI.out.size))
                  clear hB7
                  refine hK.out _ _ ?xayas40 (fun hHeld1 => ?xayaq40)
                  case xayas40 => (try dsimp only); exact ⟨p0, p1, p2, p3, p4⟩
                  clear hK K
                  try simp only [Act.put, List.setIfInBounds_toArray, List.set_cons_zero, List.set_cons_succ]
                  refine wpAnyH_take (i := 40) (v := ?xayav41) (by simp only [List.getElem?_toArray, List.getElem?_cons_zero, List.getElem?_cons_succ]; rfl) (by kernel_rfl) (by kernel_rfl) (by kernel_rfl) (fun _ _ _ h => h) (Or.inl ⟨by rfl, ?xayah41⟩) hHeld1 ?xayaq41
                  case xayah41 => (intro w hSw; (try dsimp only at hSw); go_simp <;> with_reducible rfl)
                  try simp only [Act.put, List.setIfInBounds_toArray, List.set_cons_zero, List.set_cons_succ]
                  refine wpAnyH_take (i := 41) (v := ?xayav42) (by simp only [List.getElem?_toArray, List.getElem?_cons_zero, List.getElem?_cons_succ]; rfl) (by kernel_rfl) (by kernel_rfl) (by kernel_rfl) (fun _ _ _ h => h) (Or.inl ⟨by rfl, ?xayah42⟩) hHeld1 ?xayaq42
                  case xayah42 => (intro w hSw; (try dsimp only at hSw); go_simp <;> with_reducible rfl)
                  try simp only [Act.put, List.setIfInBounds_toArray, List.set_cons_zero, List.set_cons_succ]
                  refine wpAnyH_done (by kernel_rfl) ?_ _
                  refine NoPanic.normal ?_
                  go_wp2_with (go_at_call 16; refine (fence_any _ w7 base F b xs x (HG.out.below (HBA.out.trans (HB7.out.mono HBA.out.size))) (HGA.out.below HB7.out) HX.out).mono ?_; rintro e w8 ⟨rfl, hB8⟩; rw [← HFE.out]; have HB8 := Lib.hid (HB7.out.trans (hB8.mono HB7.out.size)); clear hB8)
                  exact ⟨⟨i + 1, by omega, by simp, HB8.out⟩, by simp [intOf]; omega⟩
                · have hgt : ¬ ((0 : Int) < (i : Int)) := by omega
                  have hgtd : decide ((0 : Int) < (i : Int)) = false := decide_eq_false hgt
                  have hgtn : decide (0 < i) = false := decide_eq_false (by omega)
                  have hgtn2 : ¬ (0 < i) := by omega
                  clear hip
                  go_wp2_with fail
                  refine wp_region_noPanic ?_
                  refine wp_region_held_drew (S := (fun w' => w'.cell? ⟨g, i * 5, none⟩ = some (.int .i64 ((i : Int) + 1)) ∧ w'.cell? ⟨g, i * 5 + 2, none⟩ = some (.int .i64 bb) ∧ w'.cell? ⟨g, i * 5 + 3, none⟩ = some (.slice none 0 0) ∧ w'.cell? ⟨g, i * 5 + 4, none⟩ = some (.slice (some zad) l.length zc))) (by kernel_rfl) ?xaybs0 (fun hHeld0 => ?xaybr0)
                  case xaybs0 => (try dsimp only); exact ⟨e0, e2, e3, e4⟩
                  refine wpAnyH_take (i := 0) (v := ?xaybv1) (by simp only [List.getElem?_toArray, List.getElem?_cons_zero, List.getElem?_cons_succ]; rfl) (by kernel_rfl) (by kernel_rfl) (by kernel_rfl) (fun _ _ _ h => h) (Or.inl ⟨by rfl, ?xaybh1⟩) hHeld0 ?xaybq1
                  case xaybh1 => (intro w hSw; (try dsimp only at hSw); go_simp <;> with_reducible rfl)
                  try simp only [Act.put, List.setIfInBounds_toArray, List.set_cons_zero, List.set_cons_succ]
                  refine wpAnyH_take (i := 1) (v := ?xaybv2) (by simp only [List.getElem?_toArray, List.getElem?_cons_zero, List.getElem?_cons_succ]; rfl) (by kernel_rfl) (by kernel_rfl) (by kernel_rfl) (fun _ _ _ h => h) (Or.inl ⟨by rfl, ?xaybh2⟩) hHeld0 ?xaybq2
                  case xaybh2 => (intro w hSw; (try dsimp only at hSw); go_simp <;> with_reducible rfl)
                  try simp only [Act.put, List.setIfInBounds_toArray, List.set_cons_zero, List.set_cons_succ]
                  refine wpAnyH_take (i := 2) (v := ?xaybv3) (by simp only [List.getElem?_toArray, List.getElem?_cons_zero, List.getElem?_cons_succ]; rfl) (by kernel_rfl) (by kernel_rfl) (by kernel_rfl) (fun _ _ _ h => h) (Or.inl ⟨by rfl, ?xaybh3⟩) hHeld0 ?xaybq3
                  case xaybh3 => (intro w hSw; (try dsimp only at hSw); go_simp <;> with_reducible rfl)
                  try simp only [Act.put, List.setIfInBounds_toArray, List.set_cons_zero, List.set_cons_succ]
                  refine wpAnyH_take (i := 3) (v := ?xaybv4) (by simp only [List.getElem?_toArray, List.getElem?_cons_zero, List.getElem?_cons_succ]; rfl) (by kernel_rfl) (by kernel_rfl) (by kernel_rfl) (fun _ _ _ h => h) (Or.inl ⟨by rfl, ?xaybh4⟩) hHeld0 ?xaybq4
                  case xaybh4 => (intro w hSw; (try dsimp only at hSw); go_simp <;> with_reducible rfl)
                  try simp only [Act.put, List.setIfInBounds_toArray, List.set_cons_zero, List.set_cons_succ]
                  refine wpAnyH_take (i := 4) (v := ?xaybv5) (by simp only [List.getElem?_toArray, List.getElem?_cons_zero, List.getElem?_cons_succ]; rfl) (by kernel_rfl) (by kernel_rfl) (by kernel_rfl) (fun _ _ _ h => h) (Or.inl ⟨by rfl, ?xaybh5⟩) hHeld0 ?xaybq5
                  case xaybh5 => (intro w hSw; (try dsimp only at hSw); go_simp <;> with_reducible rfl)
                  try simp only [Act.put, List.setIfInBounds_toArray, List.set_cons_zero, List.set_cons_succ]
                  refine wpAnyH_take (i := 5) (v := ?xaybv6) (by simp only [List.getElem?_toArray, List.getElem?_cons_zero, List.getElem?_cons_succ]; rfl) (by kernel_rfl) (by kernel_rfl) (by kernel_rfl) (fun _ _ _ h => h) (Or.inl ⟨by rfl, ?xaybh6⟩) hHeld0 ?xaybq6
                  case xaybh6 => (intro w hSw; (try dsimp only at hSw); go_simp <;> with_reducible rfl)
                  try simp only [Act.put, List.setIfInBounds_toArray, List.set_cons_zero, List.set_cons_succ]
                  refine wpAnyH_take (i := 6) (v := ?xaybv7) (by simp only [List.getElem?_toArray, List.getElem?_cons_zero, List.getElem?_cons_succ]; rfl) (by kernel_rfl) (by kernel_rfl) (by kernel_rfl) (fun _ _ _ h => h) (Or.inl ⟨by rfl, ?xaybh7⟩) hHeld0 ?xaybq7
                  case xaybh7 => (intro w hSw; (try dsimp only at hSw); go_simp <;> with_reducible rfl)
                  try simp only [Act.put, List.setIfInBounds_toArray, List.set_cons_zero, List.set_cons_succ]
                  refine wpAnyH_take (i := 7) (v := ?xaybv8) (by simp only [List.getElem?_toArray, List.getElem?_cons_zero, List.getElem?_cons_succ]; rfl) (by kernel_rfl) (by kernel_rfl) (by kernel_rfl) (fun _ _ _ h => h) (Or.inl ⟨by rfl, ?xaybh8⟩) hHeld0 ?xaybq8
                  case xaybh8 => (intro w hSw; (try dsimp only at hSw); go_simp <;> with_reducible rfl)
                  try simp only [Act.put, List.setIfInBounds_toArray, List.set_cons_zero, List.set_cons_succ]
                  refine wpAnyH_take (i := 8) (v := ?xaybv9) (by simp only [List.getElem?_toArray, List.getElem?_cons_zero, List.getElem?_cons_succ]; rfl) (by kernel_rfl) (by kernel_rfl) (by kernel_rfl) (fun _ _ _ h => h) (Or.inl ⟨by rfl, ?xaybh9⟩) hHeld0 ?xaybq9
                  case xaybh9 => (intro w hSw; (try dsimp only at hSw); go_simp <;> with_reducible rfl)
                  try simp only [Act.put, List.setIfInBounds_toArray, List.set_cons_zero, List.set_cons_succ]
                  refine wpAnyH_take (i := 9) (v := ?xaybv10) (by simp only [List.getElem?_toArray, List.getElem?_cons_zero, List.getElem?_cons_succ]; rfl) (by kernel_rfl) (by kernel_rfl) (by kernel_rfl) (fun _ _ _ h => h) (Or.inl ⟨by rfl, ?xaybh10⟩) hHeld0 ?xaybq10
                  case xaybh10 => (intro w hSw; (try dsimp only at hSw); go_simp <;> with_reducible rfl)
                  try simp only [Act.put, List.setIfInBounds_toArray, List.set_cons_zero, List.set_cons_succ]
                  refine wpAnyH_take (i := 10) (v := ?xaybv11) (by simp only [List.getElem?_toArray, List.getElem?_cons_zero, List.getElem?_cons_succ]; rfl) (by kernel_rfl) (by kernel_rfl) (by kernel_rfl) (fun _ _ _ h => h) (Or.inl ⟨by rfl, ?xaybh11⟩) hHeld0 ?xaybq11
                  case xaybh11 => (intro w hSw; (try dsimp only at hSw); go_simp <;> with_reducible rfl)
                  try simp only [Act.put, List.setIfInBounds_toArray, List.set_cons_zero, List.set_cons_succ]
                  refine wpAnyH_take (i := 11) (v := ?xaybv12) (by simp only [List.getElem?_toArray, List.getElem?_cons_zero, List.getElem?_cons_succ]; rfl) (by kernel_rfl) (by kernel_rfl) (by kernel_rfl) (fun _ _ _ h => h) (Or.inl ⟨by rfl, ?xaybh12⟩) hHeld0 ?xaybq12
                  case xaybh12 => (intro w hSw; (try dsimp only at hSw); go_simp <;> with_reducible rfl)
                  try simp only [Act.put, List.setIfInBounds_toArray, List.set_cons_zero, List.set_cons_succ]
                  refine wpAnyH_take (i := 12) (v := undef) (by simp only [List.getElem?_toArray, List.getElem?_cons_zero, List.getElem?_cons_succ]; rfl) (by kernel_rfl) (by kernel_rfl) (by kernel_rfl) (fun _ _ _ h => h) (Or.inr ⟨by rfl, rfl⟩) hHeld0 ?xaybq13
                  try simp only [Act.put, List.setIfInBounds_toArray, List.set_cons_zero, List.set_cons_succ]
                  refine wpAnyH_take (i := 13) (v := undef) (by simp only [List.getElem?_toArray, List.getElem?_cons_zero, List.getElem?_cons_succ]; rfl) (by kernel_rfl) (by kernel_rfl) (by kernel_rfl) (fun _ _ _ h => h) (Or.inr ⟨by rfl, rfl⟩) hHeld0 ?xaybq14
                  try simp only [Act.put, List.setIfInBounds_toArray, List.set_cons_zero, List.set_cons_succ]
                  refine wpAnyH_take (i := 14) (v := undef) (by simp only [List.getElem?_toArray, List.getElem?_cons_zero, List.getElem?_cons_succ]; rfl) (by kernel_rfl) (by kernel_rfl) (by kernel_rfl) (fun _ _ _ h => h) (Or.inr ⟨by rfl, rfl⟩) hHeld0 ?xaybq15
                  try simp only [Act.put, List.setIfInBounds_toArray, List.set_cons_zero, List.set_cons_succ]
                  refine wpAnyH_take (i := 15) (v := undef) (by simp only [List.getElem?_toArray, List.getElem?_cons_zero, List.getElem?_cons_succ]; rfl) (by kernel_rfl) (by kernel_rfl) (by kernel_rfl) (fun _ _ _ h => h) (Or.inr ⟨by rfl, rfl⟩) hHeld0 ?xaybq16
                  try simp only [Act.put, List.setIfInBounds_toArray, List.set_cons_zero, List.set_cons_succ]
                  refine wpAnyH_take (i := 16) (v := undef) (by simp only [List.getElem?_toArray, List.getElem?_cons_zero, List.getElem?_cons_succ]; rfl) (by kernel_rfl) (by kernel_rfl) (by kernel_rfl) (fun _ _ _ h => h) (Or.inr ⟨by rfl, rfl⟩) hHeld0 ?xaybq17
                  try simp only [Act.put, List.setIfInBounds_toArray, List.set_cons_zero, List.set_cons_succ]
                  refine wpAnyH_take (i := 17) (v := undef) (by simp only [List.getElem?_toArray, List.getElem?_cons_zero, List.getElem?_cons_succ]; rfl) (by kernel_rfl) (by kernel_rfl) (by kernel_rfl) (fun _ _ _ h => h) (Or.inr ⟨by rfl, rfl⟩) hHeld0 ?xaybq18
                  try simp only [Act.put, List.setIfInBounds_toArray, List.set_cons_zero, List.set_cons_succ]
                  refine wpAnyH_take (i := 18) (v := undef) (by simp only [List.getElem?_toArray, List.getElem?_cons_zero, List.getElem?_cons_succ]; rfl) (by kernel_rfl) (by kernel_rfl) (by kernel_rfl) (fun _ _ _ h => h) (Or.inr ⟨by rfl, rfl⟩) hHeld0 ?xaybq19
                  try simp only [Act.put, List.setIfInBounds_toArray, List.set_cons_zero, List.set_cons_succ]
                  refine wpAnyH_take (i := 19) (v := undef) (by simp only [List.getElem?_toArray, List.getElem?_cons_zero, List.getElem?_cons_succ]; rfl) (by kernel_rfl) (by kernel_rfl) (by kernel_rfl) (fun _ _ _ h => h) (Or.inr ⟨by rfl, rfl⟩) hHeld0 ?xaybq20
                  try simp only [Act.put, List.setIfInBounds_toArray, List.set_cons_zero, List.set_cons_succ]
                  refine wpAnyH_take (i := 20) (v := undef) (by simp only [List.getElem?_toArray, List.getElem?_cons_zero, List.getElem?_cons_succ]; rfl) (by kernel_rfl) (by kernel_rfl) (by kernel_rfl) (fun _ _ _ h => h) (Or.inr ⟨by rfl, rfl⟩) hHeld0 ?xaybq21
                  try simp only [Act.put, List.setIfInBounds_toArray, List.set_cons_zero, List.set_cons_succ]
                  refine wpAnyH_take (i := 21) (v := undef) (by simp only [List.getElem?_toArray, List.getElem?_cons_zero, List.getElem?_cons_succ]; rfl) (by kernel_rfl) (by kernel_rfl) (by kernel_rfl) (fun _ _ _ h => h) (Or.inr ⟨by rfl, rfl⟩) hHeld0 ?xaybq22
                  try simp only [Act.put, List.setIfInBounds_toArray, List.set_cons_zero, List.set_cons_succ]
                  refine wpAnyH_take (i := 22) (v := undef) (by simp only [List.getElem?_toArray, List.getElem?_cons_zero, List.getElem?_cons_succ]; rfl) (by kernel_rfl) (by kernel_rfl) (by kernel_rfl) (fun _ _ _ h => h) (Or.inr ⟨by rfl, rfl⟩) hHeld0 ?xaybq23
                  try simp only [Act.put, List.setIfInBounds_toArray, List.set_cons_zero, List.set_cons_succ]
                  refine wpAnyH_take (i := 23) (v := undef) (by simp only [List.getElem?_toArray, List.getElem?_cons_zero, List.getElem?_cons_succ]; rfl) (by kernel_rfl) (by kernel_rfl) (by kernel_rfl) (fun _ _ _ h => h) (Or.inr ⟨by rfl, rfl⟩) hHeld0 ?xaybq24
                  try simp only [Act.put, List.setIfInBounds_toArray, List.set_cons_zero, List.set_cons_succ]
                  refine wpAnyH_take (i := 24) (v := ?xaybv25) (by simp only [List.getElem?_toArray, List.getElem?_cons_zero, List.getElem?_cons_succ]; rfl) (by kernel_rfl) (by kernel_rfl) (by kernel_rfl) (fun _ _ _ h => h) (Or.inl ⟨by rfl, ?xaybh25⟩) hHeld0 ?xaybq25
                  case xaybh25 => (intro w hSw; (try dsimp only at hSw); go_simp <;> with_reducible rfl)
                  try simp only [Act.put, List.setIfInBounds_toArray, List.set_cons_zero, List.set_cons_succ]
                  refine wpAnyH_take (i := 25) (v := ?xaybv26) (by simp only [List.getElem?_toArray, List.getElem?_cons_zero, List.getElem?_cons_succ]; rfl) (by kernel_rfl) (by kernel_rfl) (by kernel_rfl) (fun _ _ _ h => h) (Or.inl ⟨by rfl, ?xaybh26⟩) hHeld0 ?xaybq26
                  case xaybh26 => (intro w hSw; (try dsimp only at hSw); go_simp <;> with_reducible rfl)
                  try simp only [Act.put, List.setIfInBounds_toArray, List.set_cons_zero, List.set_cons_succ]
                  refine wpAnyH_take (i := 26) (v := ?xaybv27) (by simp only [List.getElem?_toArray, List.getElem?_cons_zero, List.getElem?_cons_succ]; rfl) (by kernel_rfl) (by kernel_rfl) (by kernel_rfl) (fun _ _ _ h => h) (Or.inl ⟨by rfl, ?xaybh27⟩) hHeld0 ?xaybq27
                  case xaybh27 => (intro w hSw; (try dsimp only at hSw); go_simp <;> with_reducible rfl)
                  try simp only [Act.put, List.setIfInBounds_toArray, List.set_cons_zero, List.set_cons_succ]
                  refine wpAnyH_take (i := 27) (v := ?xaybv28) (by simp only [List.getElem?_toArray, List.getElem?_cons_zero, List.getElem?_cons_succ]; rfl) (by kernel_rfl) (by kernel_rfl) (by kernel_rfl) (fun _ _ _ h => h) (Or.inl ⟨by rfl, ?xaybh28⟩) hHeld0 ?xaybq28
                  case xaybh28 => (intro w hSw; (try dsimp only at hSw); go_simp <;> with_reducible rfl)
                  try simp only [Act.put, List.setIfInBounds_toArray, List.set_cons_zero, List.set_cons_succ]
                  refine wpAnyH_take (i := 28) (v := ?xaybv29) (by simp only [List.getElem?_toArray, List.getElem?_cons_zero, List.getElem?_cons_succ]; rfl) (by kernel_rfl) (by kernel_rfl) (by kernel_rfl) (fun _ _ _ h => h) (Or.inl ⟨by rfl, ?xaybh29⟩) hHeld0 ?xaybq29
                  case xaybh29 => (intro w hSw; (try dsimp only at hSw); go_simp <;> with_reducible rfl)
                  try simp only [Act.put, List.setIfInBounds_toArray, List.set_cons_zero, List.set_cons_succ]
                  refine wpAnyH_take (i := 29) (v := ?xaybv30) (by simp only [List.getElem?_toArray, List.getElem?_cons_zero, List.getElem?_cons_succ]; rfl) (by kernel_rfl) (by kernel_rfl) (by kernel_rfl) (fun _ _ _ h => h) (Or.inl ⟨by rfl, ?xaybh30⟩) hHeld0 ?xaybq30
                  case xaybh30 => (intro w hSw; (try dsimp only at hSw); go_simp <;> with_reducible rfl)
                  try simp only [Act.put, List.setIfInBounds_toArray, List.set_cons_zero, List.set_cons_succ]
                  refine wpAnyH_take (i := 30) (v := ?xaybv31) (by simp only [List.getElem?_toArray, List.getElem?_cons_zero, List.getElem?_cons_succ]; rfl) (by kernel_rfl) (by kernel_rfl) (by kernel_rfl) (fun _ _ _ h => h) (Or.inl ⟨by rfl, ?xaybh31⟩) hHeld0 ?xaybq31
                  case xaybh31 => (intro w hSw; (try dsimp only at hSw); go_simp <;> with_reducible rfl)
                  try simp only [Act.put, List.setIfInBounds_toArray, List.set_cons_zero, List.set_cons_succ]
                  refine wpAnyH_take (i := 31) (v := ?xaybv32) (by simp only [List.getElem?_toArray, List.getElem?_cons_zero, List.getElem?_cons_succ]; rfl) (by kernel_rfl) (by kernel_rfl) (by kernel_rfl) (fun _ _ _ h => h) (Or.inl ⟨by rfl, ?xaybh32⟩) hHeld0 ?xaybq32
                  case xaybh32 => (intro w hSw; (try dsimp only at hSw); go_simp <;> with_reducible rfl)
                  try simp only [Act.put, List.setIfInBounds_toArray, List.set_cons_zero, List.set_cons_succ]
                  refine wpAnyH_take (i := 32) (v := ?xaybv33) (by simp only [List.getElem?_toArray, List.getElem?_cons_zero, List.getElem?_cons_succ]; rfl) (by kernel_rfl) (by kernel_rfl) (by kernel_rfl) (fun _ _ _ h => h) (Or.inl ⟨by rfl, ?xaybh33⟩) hHeld0 ?xaybq33
                  case xaybh33 => (intro w hSw; (try dsimp only at hSw); go_simp <;> with_reducible rfl)
                  try simp only [Act.put, List.setIfInBounds_toArray, List.set_cons_zero, List.set_cons_succ]
                  refine wpAnyH_take (i := 33) (v := ?xaybv34) (by simp only [List.getElem?_toArray, List.getElem?_cons_zero, List.getElem?_cons_succ]; rfl) (by kernel_rfl) (by kernel_rfl) (by kernel_rfl) (fun _ _ _ h => h) (Or.inl ⟨by rfl, ?xaybh34⟩) hHeld0 ?xaybq34
                  case xaybh34 => (intro w hSw; (try dsimp only at hSw); go_simp <;> with_reducible rfl)
                  try simp only [Act.put, List.setIfInBounds_toArray, List.set_cons_zero, List.set_cons_succ]
                  refine wpAnyH_take (i := 34) (v := ?xaybv35) (by simp only [List.getElem?_toArray, List.getElem?_cons_zero, List.getElem?_cons_succ]; rfl) (by kernel_rfl) (by kernel_rfl) (by kernel_rfl) (fun _ _ _ h => h) (Or.inl ⟨by rfl, ?xaybh35⟩) hHeld0 ?xaybq35
                  case xaybh35 => (intro w hSw; (try dsimp only at hSw); go_simp <;> with_reducible rfl)
                  try simp only [Act.put, List.setIfInBounds_toArray, List.set_cons_zero, List.set_cons_succ]
                  refine wpAnyH_take (i := 35) (v := ?xaybv36) (by simp only [List.getElem?_toArray, List.getElem?_cons_zero, List.getElem?_cons_succ]; rfl) (by kernel_rfl) (by kernel_rfl) (by kernel_rfl) (fun _ _ _ h => h) (Or.inl ⟨by rfl, ?xaybh36⟩) hHeld0 ?xaybq36
                  case xaybh36 => (intro w hSw; (try dsimp only at hSw); go_simp <;> with_reducible rfl)
                  try simp only [Act.put, List.setIfInBounds_toArray, List.set_cons_zero, List.set_cons_succ]
                  refine wpAnyH_take (i := 36) (v := ?xaybv37) (by simp only [List.getElem?_toArray, List.getElem?_cons_zero, List.getElem?_cons_succ]; rfl) (by kernel_rfl) (by kernel_rfl) (by kernel_rfl) (fun _ _ _ h => h) (Or.inl ⟨by rfl, ?xaybh37⟩) hHeld0 ?xaybq37
                  case xaybh37 => (intro w hSw; (try dsimp only at hSw); go_simp <;> with_reducible rfl)
                  try simp only [Act.put, List.setIfInBounds_toArray, List.set_cons_zero, List.set_cons_succ]
                  refine wpAnyH_take (i := 37) (v := ?xaybv38) (by simp only [List.getElem?_toArray, List.getElem?_cons_zero, List.getElem?_cons_succ]; rfl) (by kernel_rfl) (by kernel_rfl) (by kernel_rfl) (fun _ _ _ h => h) (Or.inl ⟨by rfl, ?xaybh38⟩) hHeld0 ?xaybq38
                  case xaybh38 => (intro w hSw; (try dsimp only at hSw); go_simp <;> with_reducible rfl)
                  try simp only [Act.put, List.setIfInBounds_toArray, List.set_cons_zero, List.set_cons_succ]
                  refine wpAnyH_take (i := 38) (v := ?xaybv39) (by simp only [List.getElem?_toArray, List.getElem?_cons_zero, List.getElem?_cons_succ]; rfl) (by kernel_rfl) (by kernel_rfl) (by kernel_rfl) (fun _ _ _ h => h) (Or.inl ⟨by rfl, ?xaybh39⟩) hHeld0 ?xaybq39
                  case xaybh39 => (intro w hSw; (try dsimp only at hSw); go_simp <;> with_reducible rfl)
                  try simp only [Act.put, List.setIfInBounds_toArray, List.set_cons_zero, List.set_cons_succ]
                  refine wpAnyH_ready (rs := [39]) (by kernel_rfl) (by simp) ?_
                  refine AllReadyH.cons (by simp only [List.getElem?_toArray, List.getElem?_cons_zero, List.getElem?_cons_succ]; rfl) (fun K hK => ?_) AllReadyH.nil
                  go_simp
                  go_at_call 15
                  refine (sameC_any (some zad) (some zad) zc zc l wr.drew HZR.out HZR.out).mono ?_
                  rintro e w7 ⟨rfl, hB7⟩
                  have p0 := pw_cell_below hB7 e0
                  have p1 := pw_cell_below hB7 e2
                  have p2 := pw_cell_below hB7 e3
                  have p3 := pw_cell_below hB7 e4
                  have HB7 := Lib.hid (HBI.out.drew.trans (hB7.mono HBI.out.size))
                  clear hB7
                  refine hK.out _ _ ?xaybs40 (fun hHeld1 => ?xaybq40)
                  case xaybs40 => (try dsimp only); exact ⟨p0, p1, p2, p3⟩
                  clear hK K
                  try simp only [Act.put, List.setIfInBounds_toArray, List.set_cons_zero, List.set_cons_succ]
                  refine wpAnyH_take (i := 40) (v := ?xaybv41) (by simp only [List.getElem?_toArray, List.getElem?_cons_zero, List.getElem?_cons_succ]; rfl) (by kernel_rfl) (by kernel_rfl) (by kernel_rfl) (fun _ _ _ h => h) (Or.inl ⟨by rfl, ?xaybh41⟩) hHeld1 ?xaybq41
                  case xaybh41 => (intro w hSw; (try dsimp only at hSw); go_simp <;> with_reducible rfl)
                  try simp only [Act.put, List.setIfInBounds_toArray, List.set_cons_zero, List.set_cons_succ]
                  refine wpAnyH_take (i := 41) (v := ?xaybv42) (by simp only [List.getElem?_toArray, List.getElem?_cons_zero, List.getElem?_cons_succ]; rfl) (by kernel_rfl) (by kernel_rfl) (by kernel_rfl) (fun _ _ _ h => h) (Or.inl ⟨by rfl, ?xaybh42⟩) hHeld1 ?xaybq42
                  case xaybh42 => (intro w hSw; (try dsimp only at hSw); go_simp <;> with_reducible rfl)
                  try simp only [Act.put, List.setIfInBounds_toArray, List.set_cons_zero, List.set_cons_succ]
                  refine wpAnyH_done (by kernel_rfl) ?_ _
                  refine NoPanic.normal ?_
                  go_wp2_with (go_at_call 16; refine (fence_any _ w7 base F b xs x (HG.out.below (HBA.out.trans (HB7.out.mono HBA.out.size))) (HGA.out.below HB7.out) HX.out).mono ?_; rintro e w8 ⟨rfl, hB8⟩; rw [← HFE.out]; have HB8 := Lib.hid (HB7.out.trans (hB8.mono HB7.out.size)); clear hB8)
                  exact ⟨⟨i + 1, by omega, by simp, HB8.out⟩, by simp [intOf]; omega⟩
              · have hii2 : ¬ (i < m) := by omega
                have hd1 : fenceE x.g.n ((m : Int) + 1) = 2 := by have hmi := HMM.out.2.1; rw [HXN.out]; unfold fenceE; rw [if_neg (by omega), if_pos (by omega)]
                have hd0 : fenceE x.g.n 0 = 18 := by rw [HXN.out]; unfold fenceE; rw [if_pos (by omega)]
                have HD1 := Lib.hid hd1
                have HD0 := Lib.hid hd0
                have hno : ∀ y ∈ xs, 0 ≤ y.g.b := by
                  intro y hy
                  obtain ⟨j, hj⟩ := List.mem_iff_getElem?.1 hy
                  have := (HS.out.ok j y hj).2.1
                  omega
                have HNO := Lib.hid hno
                clear hd1 hd0 hno
                go_wp2_with (first
                  | (have h8 := HB8.out
                     go_at_call 16
                     refine (fence_any 0 w8 base F b xs x (HG.out.below (HBA.out.trans (HB8.out.mono HBA.out.size))) (HGA.out.below HB8.out) HX.out).mono ?_
                     rintro e w9 ⟨rfl, hB9⟩
                     rw [HD0.out]
                     have HB9 := Lib.hid (HB8.out.trans (hB9.mono HB8.out.size))
                     clear hB9 h8)
                  | (go_at_call 16
                     refine (fence_any ((m : Int) + 1) wr base F b xs x (HG.out.below (HBA.out.trans (HBI.out.mono HBA.out.size))) (HGA.out.below HBI.out) HX.out).mono ?_
                     rintro e w8 ⟨rfl, hB8⟩
                     rw [HD1.out]
                     have HB8 := Lib.hid (HBI.out.trans (hB8.mono HBI.out.size))
                     clear hB8)
                  | (go_at_call 13
                     refine (at_zero w9 base F b xs 0 (HGA.out.below HB9.out) (by have := HS.out.len; omega) (by have := HS.out.len; omega) (fun y hy => Int.not_lt.mpr (HNO.out y hy))).mono ?_
                     rintro e w10 ⟨rfl, hB10⟩
                     have HB10 := Lib.hid (HB9.out.trans (hB10.mono HB9.out.size))
                     clear hB10))
                go_ret
                exact ⟨rfl, HBA.out.trans (HB10.out.mono HBA.out.size)⟩
      · have HXN := Lib.hid hxn
        obtain ⟨B, hB⟩ : ∃ z, z = x.g.b := ⟨_, rfl⟩
        rw [← hB] at hxb0 hxb1
        have HXB := Lib.hid hB
        obtain ⟨m, hm⟩ : ∃ m, m = k + 1 := ⟨_, rfl⟩
        have hlm : xs.length = m := by rw [HS.out.len, hm]
        have hmi : (m : Int) = (k : Int) + 1 := by omega
        have hm21 : m ≤ 21 := by omega
        have HMM := Lib.hid (And.intro hlm (And.intro hmi hm))
        clear hB hxn hm hlm hmi
        go_wp2_with (go_at_call 12
                     refine (all_any wr base F b xs HS.out.at_ (by have := HS.out.len; omega) (by have := HS.out.len; omega)).mono ?_
                     rintro e wA ⟨v, zs, rfl, hA⟩
                     have hzl := map_len hA.same
                     have hlm := HMM.out.1
                     have hm1 : 0 < m := by have := HMM.out.2.2; omega
                     obtain ⟨g, cap, rfl, _, _, hlc, hcm⟩ := ge_row hA.row (by rw [hzl, hlm]; exact hm1)
                     rw [hzl, hlm]
                     have HA := Lib.hid hA
                     have HZL := Lib.hid hzl
                     have HGA := Lib.hid (HS.out.at_.below hA.below)
                     have HBA := Lib.hid (HS.out.below.trans (hA.below.mono HS.out.below.size))
                     clear hA hzl hlm)
        go_loopw [9, 10] (fun kv _ wq => ∃ (n : Nat), 1 ≤ n ∧ n ≤ 100 ∧ (n : Int) ≤ B + 4 ∧ kv = .int .i64 (n : Int) ∧ Below wA.heap.size wA wq) (fun kv _ _ => 200 - (intOf kv).toNat)
        case atStart => exact ⟨1, by omega, by omega, by omega, rfl, Below.refl _ _⟩
        case round =>
          obtain ⟨n, hn1, hn100, hnB, rfl, hbq⟩ := hrel
          have HBQ := Lib.hid hbq
          clear hbq
          by_cases hle : (n : Int) ≤ B + 3
          · obtain ⟨j, y, hy1, hy2, hy3, hy4⟩ := gok_at HS.out.ok (by have := HS.out.len; omega) (show (1 : Int) ≤ (n : Int) by omega)
            have hyj := (HS.out.ok j y hy2).1
            have hyb := (HS.out.ok j y hy2).2.1
            have hjl : j < m := by have := (List.getElem?_eq_some_iff.1 hy2).1; have := HMM.out.1; omega
            obtain ⟨z, hz, hzg⟩ := gok_map HA.out.same hy2
            have hzl : j < zs.length := (List.getElem?_eq_some_iff.1 hz).1
            have hzz : zs[j] = z := (List.getElem?_eq_some_iff.1 hz).2
            have hgz := ge_get HA.out.row j hzl
            have hrz := HA.out.rows z (List.mem_of_getElem? hz)
            rw [hzz] at hgz
            have hnx : j + 1 < m → ∃ z2, zs[j + 1]? = some z2 ∧ (n : Int) ≤ z2.g.b ∧ wA.cell? ⟨g, (j + 1) * 5 + 2, none⟩ = some (.int .i64 z2.g.b) := by
              intro hj
              obtain ⟨y2, hy2'⟩ : ∃ y2, xs[j + 1]? = some y2 := ⟨_, List.getElem?_eq_getElem (by have := HMM.out.1; omega)⟩
              obtain ⟨z2, hz2, hg2⟩ := gok_map HA.out.same hy2'
              have h2 := ge_get HA.out.row (j + 1) (List.getElem?_eq_some_iff.1 hz2).1
              rw [(List.getElem?_eq_some_iff.1 hz2).2] at h2
              exact ⟨z2, hz2, by rw [hg2]; exact hy4 y2 hy2', h2.2.2.1⟩
            obtain ⟨⟨yn, en, bb, l⟩, yA, yc⟩ := y
            obtain ⟨zg, zA, zc⟩ := z
            obtain rfl : zg = _ := hzg
            obtain rfl : yn = (j : Int) + 1 := hyj
            obtain ⟨g0, g1, g2, g3, g4⟩ := hgz
            obtain ⟨zad, hza, hzC⟩ := mem_row hrz.1 hrz.2.1
            obtain rfl : zA = some zad := hza
            have HY1 := Lib.hid hy1
            have HNX := Lib.hid hnx
            have HZR := Lib.hid (ri_of_C hzC)
            have hl7 : l.length ≤ 7 := hrz.2.2
            have hbn : bb < (n : Int) := hy3
            have hb0 : 0 ≤ bb := hyb
            have gs0 : wA.cell? ⟨g, j * 5, none⟩ = some (.int .i64 ((j : Int) + 1)) := g0
            have gs1 : wA.cell? ⟨g, j * 5 + 1, none⟩ = some (.int .i64 en) := g1
            have gs2 : wA.cell? ⟨g, j * 5 + 2, none⟩ = some (.int .i64 bb) := g2
            have gs3 : wA.cell? ⟨g, j * 5 + 3, none⟩ = some (.slice none 0 0) := g3
            have gs4 : wA.cell? ⟨g, j * 5 + 4, none⟩ = some (.slice (some zad) l.length zc) := g4
            have HGS := Lib.hid (And.intro gs0 (And.intro gs1 (And.intro gs2 (And.intro gs3 gs4))))
            clear g0 g1 g2 g3 g4 gs0 gs1 gs2 gs3 gs4 hy1 hy2 hy4 hz hzz hrz hnx hzC hyb hy3 hzl
            go_wp2_with (first
              | (go_at_call 10; refine (now_lit wr base F b xs x (HGA.out.below HBQ.out) HX.out).mono ?_; rintro e w4 ⟨A4, c4, rfl, _, hB4⟩; rw [← HXB.out]; have HB4 := Lib.hid (HBQ.out.trans (hB4.mono HBQ.out.size)); clear hB4)
              | (go_at_call 13; refine (at_any w4 base F b xs (n : Int) _ (HGA.out.below HB4.out) (by have := HS.out.len; omega) (by have := HS.out.len; omega) HY1.out).mono ?_; rintro e w5 ⟨A5, c5, rfl, hR5, hB5⟩
                 have HR5 := Lib.hid (Kd.R_reads' hR5).2.2
                 have HB5 := Lib.hid (HB4.out.trans (hB5.mono HB4.out.size)); clear hR5 hB5))
            have HBO := Lib.hid (HB5.out.alloc HB5.out.size (.cells #[.int .i64 ((j : Int) + 1), .int .i64 en, .int .i64 bb, .slice none 0 0, .slice A5 l.length c5] 32)).drew
            have hbox := heap_alloc_new w5 (.cells #[.int .i64 ((j : Int) + 1), .int .i64 en, .int .i64 bb, .slice none 0 0, .slice A5 l.length c5] 32)
            have HRA := Lib.hid (ReadsInt.below (ri_of_C HR5.out) ((Below.refl _ _).alloc (Nat.le_refl _) (.cells #[.int .i64 ((j : Int) + 1), .int .i64 en, .int .i64 bb, .slice none 0 0, .slice A5 l.length c5] 32)).drew)
            generalize w5.alloc _ = W at *
            have f0 : W.drew.cell? ⟨w5.heap.size, 0, none⟩ = some (.int .i64 ((j : Int) + 1)) := blk_cell hbox 0
            have f1 : W.drew.cell? ⟨w5.heap.size, 1, none⟩ = some (.int .i64 en) := blk_cell hbox 1
            have f2 : W.drew.cell? ⟨w5.heap.size, 2, none⟩ = some (.int .i64 bb) := blk_cell hbox 2
            have f3 : W.drew.cell? ⟨w5.heap.size, 3, none⟩ = some (.slice none 0 0) := blk_cell hbox 3
            have f4 : W.drew.cell? ⟨w5.heap.size, 4, none⟩ = some (.slice A5 l.length c5) := blk_cell hbox 4
            obtain ⟨gs0, gs1, gs2, gs3, gs4⟩ := HGS.out
            have e0 := pw_cell_below HBO.out gs0
            have e1 := pw_cell_below HBO.out gs1
            have e2 := pw_cell_below HBO.out gs2
            have e3 := pw_cell_below HBO.out gs3
            have e4 := pw_cell_below HBO.out gs4
            generalize w5.heap.size = pa at *
            have hj0 : (0 : Int) ≤ (j : Int) := by omega
            have hj01 : (0 : Int) ≤ (j : Int) + 1 := by omega
            have hj1 : ¬ ((j : Int) + 1 < 1) := by omega
            have hj2 : ¬ ((m : Int) < (j : Int) + 1) := by omega
            have hj1d : decide ((j : Int) + 1 < 1) = false := decide_eq_false hj1
            have hj2d : decide ((m : Int) < (j : Int) + 1) = false := decide_eq_false hj2
            have hj3d : decide (m < j + 1) = false := decide_eq_false (by omega)
            have hj3 : ¬ (m < j + 1) := by omega
            have hjm : (j : Int) < (m : Int) := by omega
            have hbn2 : ¬ ((n : Int) ≤ bb) := by omega
            have hw1 : IntKind.i64.wrap ((j : Int) + 1 - 1) = (j : Int) := (IntWalk.i64_in _ (by omega)).trans (by omega)
            have hw2 : IntKind.i64.wrap (j : Int) = (j : Int) := IntWalk.i64_in _ (by omega)
            clear gs0 gs1 gs2 gs3 gs4 hbox
            by_cases hjx : j + 1 < m
            · obtain ⟨z2, hz2, hnb, hgn⟩ := HNX.out hjx
              have e5 := pw_cell_below HBO.out hgn
              generalize z2.g.b = nb at *
              have hlx : (j : Int) + 1 < (m : Int) := by omega
              have hnb2 : ¬ (nb < (n : Int)) := by omega
              clear hz2 hgn
              refine wp_region_noPanic ?_
              refine wp_region_held_drew (S := (fun w' => w'.cell? ⟨pa, 0, none⟩ = some (.int .i64 ((j : Int) + 1)) ∧ w'.cell? ⟨pa, 1, none⟩ = some (.int .i64 en) ∧ w'.cell? ⟨pa, 2, none⟩ = some (.int .i64 bb) ∧ w'.cell? ⟨pa, 3, none⟩ = some (.slice none 0 0) ∧ w'.cell? ⟨pa, 4, none⟩ = some (.slice A5 l.length c5) ∧ w'.cell? ⟨g, j * 5, none⟩ = some (.int .i64 ((j : Int) + 1)) ∧ w'.cell? ⟨g, j * 5 + 1, none⟩ = some (.int .i64 en) ∧ w'.cell? ⟨g, j * 5 + 2, none⟩ = some (.int .i64 bb) ∧ w'.cell? ⟨g, j * 5 + 3, none⟩ = some (.slice none 0 0) ∧ w'.cell? ⟨g, j * 5 + 4, none⟩ = some (.slice (some zad) l.length zc) ∧ w'.cell? ⟨g, (j + 1) * 5 + 2, none⟩ = some (.int .i64 nb))) (by kernel_rfl) ?xbqas0 (fun hHeld0 => ?xbqar0)
              case xbqas0 => (try dsimp only); exact ⟨f0, f1, f2, f3, f4, e0, e1, e2, e3, e4, e5⟩
              refine wpAnyH_take (i := 0) (v := ?xbqav1) (by simp only [List.getElem?_toArray, List.getElem?_cons_zero, List.getElem?_cons_succ]; rfl) (by kernel_rfl) (by kernel_rfl) (by kernel_rfl) (fun _ _ _ h => h) (Or.inl ⟨by rfl, ?xbqah1⟩) hHeld0 ?xbqaq1
              case xbqah1 => (intro w hSw; (try dsimp only at hSw); go_simp <;> with_reducible rfl)
              try simp only [Act.put, List.setIfInBounds_toArray, List.set_cons_zero, List.set_cons_succ]
              refine wpAnyH_take (i := 1) (v := ?xbqav2) (by simp only [List.getElem?_toArray, List.getElem?_cons_zero, List.getElem?_cons_succ]; rfl) (by kernel_rfl) (by kernel_rfl) (by kernel_rfl) (fun _ _ _ h => h) (Or.inl ⟨by rfl, ?xbqah2⟩) hHeld0 ?xbqaq2
              case xbqah2 => (intro w hSw; (try dsimp only at hSw); go_simp <;> with_reducible rfl)
              try simp only [Act.put, List.setIfInBounds_toArray, List.set_cons_zero, List.set_cons_succ]
              refine wpAnyH_take (i := 2) (v := ?xbqav3) (by simp only [List.getElem?_toArray, List.getElem?_cons_zero, List.getElem?_cons_succ]; rfl) (by kernel_rfl) (by kernel_rfl) (by kernel_rfl) (fun _ _ _ h => h) (Or.inl ⟨by rfl, ?xbqah3⟩) hHeld0 ?xbqaq3
              case xbqah3 => (intro w hSw; (try dsimp only at hSw); go_simp <;> with_reducible rfl)
              try simp only [Act.put, List.setIfInBounds_toArray, List.set_cons_zero, List.set_cons_succ]
              refine wpAnyH_take (i := 3) (v := ?xbqav4) (by simp only [List.getElem?_toArray, List.getElem?_cons_zero, List.getElem?_cons_succ]; rfl) (by kernel_rfl) (by kernel_rfl) (by kernel_rfl) (fun _ _ _ h => h) (Or.inl ⟨by rfl, ?xbqah4⟩) hHeld0 ?xbqaq4
              case xbqah4 => (intro w hSw; (try dsimp only at hSw); go_simp <;> with_reducible rfl)
              try simp only [Act.put, List.setIfInBounds_toArray, List.set_cons_zero, List.set_cons_succ]
              refine wpAnyH_take (i := 4) (v := ?xbqav5) (by simp only [List.getElem?_toArray, List.getElem?_cons_zero, List.getElem?_cons_succ]; rfl) (by kernel_rfl) (by kernel_rfl) (by kernel_rfl) (fun _ _ _ h => h) (Or.inl ⟨by rfl, ?xbqah5⟩) hHeld0 ?xbqaq5
              case xbqah5 => (intro w hSw; (try dsimp only at hSw); go_simp <;> with_reducible rfl)
              try simp only [Act.put, List.setIfInBounds_toArray, List.set_cons_zero, List.set_cons_succ]
              refine wpAnyH_take (i := 5) (v := ?xbqav6) (by simp only [List.getElem?_toArray, List.getElem?_cons_zero, List.getElem?_cons_succ]; rfl) (by kernel_rfl) (by kernel_rfl) (by kernel_rfl) (fun _ _ _ h => h) (Or.inl ⟨by rfl, ?xbqah6⟩) hHeld0 ?xbqaq6
              case xbqah6 => (intro w hSw; (try dsimp only at hSw); go_simp <;> with_reducible rfl)
              try simp only [Act.put, List.setIfInBounds_toArray, List.set_cons_zero, List.set_cons_succ]
              refine wpAnyH_take (i := 6) (v := ?xbqav7) (by simp only [List.getElem?_toArray, List.getElem?_cons_zero, List.getElem?_cons_succ]; rfl) (by kernel_rfl) (by kernel_rfl) (by kernel_rfl) (fun _ _ _ h => h) (Or.inl ⟨by rfl, ?xbqah7⟩) hHeld0 ?xbqaq7
              case xbqah7 => (intro w hSw; (try dsimp only at hSw); go_simp <;> with_reducible rfl)
              try simp only [Act.put, List.setIfInBounds_toArray, List.set_cons_zero, List.set_cons_succ]
              refine wpAnyH_take (i := 7) (v := ?xbqav8) (by simp only [List.getElem?_toArray, List.getElem?_cons_zero, List.getElem?_cons_succ]; rfl) (by kernel_rfl) (by kernel_rfl) (by kernel_rfl) (fun _ _ _ h => h) (Or.inl ⟨by rfl, ?xbqah8⟩) hHeld0 ?xbqaq8
              case xbqah8 => (intro w hSw; (try dsimp only at hSw); go_simp <;> with_reducible rfl)
              try simp only [Act.put, List.setIfInBounds_toArray, List.set_cons_zero, List.set_cons_succ]
              refine wpAnyH_take (i := 8) (v := ?xbqav9) (by simp only [List.getElem?_toArray, List.getElem?_cons_zero, List.getElem?_cons_succ]; rfl) (by kernel_rfl) (by kernel_rfl) (by kernel_rfl) (fun _ _ _ h => h) (Or.inl ⟨by rfl, ?xbqah9⟩) hHeld0 ?xbqaq9
              case xbqah9 => (intro w hSw; (try dsimp only at hSw); go_simp <;> with_reducible rfl)
              try simp only [Act.put, List.setIfInBounds_toArray, List.set_cons_zero, List.set_cons_succ]
              refine wpAnyH_take (i := 9) (v := ?xbqav10) (by simp only [List.getElem?_toArray, List.getElem?_cons_zero, List.getElem?_cons_succ]; rfl) (by kernel_rfl) (by kernel_rfl) (by kernel_rfl) (fun _ _ _ h => h) (Or.inl ⟨by rfl, ?xbqah10⟩) hHeld0 ?xbqaq10
              case xbqah10 => (intro w hSw; (try dsimp only at hSw); go_simp <;> with_reducible rfl)
              try simp only [Act.put, List.setIfInBounds_toArray, List.set_cons_zero, List.set_cons_succ]
              refine wpAnyH_take (i := 10) (v := ?xbqav11) (by simp only [List.getElem?_toArray, List.getElem?_cons_zero, List.getElem?_cons_succ]; rfl) (by kernel_rfl) (by kernel_rfl) (by kernel_rfl) (fun _ _ _ h => h) (Or.inl ⟨by rfl, ?xbqah11⟩) hHeld0 ?xbqaq11
              case xbqah11 => (intro w hSw; (try dsimp only at hSw); go_simp <;> with_reducible rfl)
              try simp only [Act.put, List.setIfInBounds_toArray, List.set_cons_zero, List.set_cons_succ]
              refine wpAnyH_take (i := 11) (v := ?xbqav12) (by simp only [List.getElem?_toArray, List.getElem?_cons_zero, List.getElem?_cons_succ]; rfl) (by kernel_rfl) (by kernel_rfl) (by kernel_rfl) (fun _ _ _ h => h) (Or.inl ⟨by rfl, ?xbqah12⟩) hHeld0 ?xbqaq12
              case xbqah12 => (intro w hSw; (try dsimp only at hSw); go_simp <;> with_reducible rfl)
              try simp only [Act.put, List.setIfInBounds_toArray, List.set_cons_zero, List.set_cons_succ]
              refine wpAnyH_take (i := 12) (v := ?xbqav13) (by simp only [List.getElem?_toArray, List.getElem?_cons_zero, List.getElem?_cons_succ]; rfl) (by kernel_rfl) (by kernel_rfl) (by kernel_rfl) (fun _ _ _ h => h) (Or.inl ⟨by rfl, ?xbqah13⟩) hHeld0 ?xbqaq13
              case xbqah13 => (intro w hSw; (try dsimp only at hSw); go_simp <;> with_reducible rfl)
              try simp only [Act.put, List.setIfInBounds_toArray, List.set_cons_zero, List.set_cons_succ]
              refine wpAnyH_take (i := 13) (v := ?xbqav14) (by simp only [List.getElem?_toArray, List.getElem?_cons_zero, List.getElem?_cons_succ]; rfl) (by kernel_rfl) (by kernel_rfl) (by kernel_rfl) (fun _ _ _ h => h) (Or.inl ⟨by rfl, ?xbqah14⟩) hHeld0 ?xbqaq14
              case xbqah14 => (intro w hSw; (try dsimp only at hSw); go_simp <;> with_reducible rfl)
              try simp only [Act.put, List.setIfInBounds_toArray, List.set_cons_zero, List.set_cons_succ]
              refine wpAnyH_take (i := 14) (v := ?xbqav15) (by simp only [List.getElem?_toArray, List.getElem?_cons_zero, List.getElem?_cons_succ]; rfl) (by kernel_rfl) (by kernel_rfl) (by kernel_rfl) (fun _ _ _ h => h) (Or.inl ⟨by rfl, ?xbqah15⟩) hHeld0 ?xbqaq15
              case xbqah15 => (intro w hSw; (try dsimp only at hSw); go_simp <;> with_reducible rfl)
              try simp only [Act.put, List.setIfInBounds_toArray, List.set_cons_zero, List.set_cons_succ]
              refine wpAnyH_take (i := 15) (v := ?xbqav16) (by simp only [List.getElem?_toArray, List.getElem?_cons_zero, List.getElem?_cons_succ]; rfl) (by kernel_rfl) (by kernel_rfl) (by kernel_rfl) (fun _ _ _ h => h) (Or.inl ⟨by rfl, ?xbqah16⟩) hHeld0 ?xbqaq16
              case xbqah16 => (intro w hSw; (try dsimp only at hSw); go_simp <;> with_reducible rfl)
              try simp only [Act.put, List.setIfInBounds_toArray, List.set_cons_zero, List.set_cons_succ]
              refine wpAnyH_take (i := 16) (v := ?xbqav17) (by simp only [List.getElem?_toArray, List.getElem?_cons_zero, List.getElem?_cons_succ]; rfl) (by kernel_rfl) (by kernel_rfl) (by kernel_rfl) (fun _ _ _ h => h) (Or.inl ⟨by rfl, ?xbqah17⟩) hHeld0 ?xbqaq17
              case xbqah17 => (intro w hSw; (try dsimp only at hSw); go_simp <;> with_reducible rfl)
              try simp only [Act.put, List.setIfInBounds_toArray, List.set_cons_zero, List.set_cons_succ]
              refine wpAnyH_take (i := 17) (v := ?xbqav18) (by simp only [List.getElem?_toArray, List.getElem?_cons_zero, List.getElem?_cons_succ]; rfl) (by kernel_rfl) (by kernel_rfl) (by kernel_rfl) (fun _ _ _ h => h) (Or.inl ⟨by rfl, ?xbqah18⟩) hHeld0 ?xbqaq18
              case xbqah18 => (intro w hSw; (try dsimp only at hSw); go_simp <;> with_reducible rfl)
              try simp only [Act.put, List.setIfInBounds_toArray, List.set_cons_zero, List.set_cons_succ]
              refine wpAnyH_take (i := 18) (v := ?xbqav19) (by simp only [List.getElem?_toArray, List.getElem?_cons_zero, List.getElem?_cons_succ]; rfl) (by kernel_rfl) (by kernel_rfl) (by kernel_rfl) (fun _ _ _ h => h) (Or.inl ⟨by rfl, ?xbqah19⟩) hHeld0 ?xbqaq19
              case xbqah19 => (intro w hSw; (try dsimp only at hSw); go_simp <;> with_reducible rfl)
              try simp only [Act.put, List.setIfInBounds_toArray, List.set_cons_zero, List.set_cons_succ]
              refine wpAnyH_take (i := 19) (v := ?xbqav20) (by simp only [List.getElem?_toArray, List.getElem?_cons_zero, List.getElem?_cons_succ]; rfl) (by kernel_rfl) (by kernel_rfl) (by kernel_rfl) (fun _ _ _ h => h) (Or.inl ⟨by rfl, ?xbqah20⟩) hHeld0 ?xbqaq20
              case xbqah20 => (intro w hSw; (try dsimp only at hSw); go_simp <;> with_reducible rfl)
              try simp only [Act.put, List.setIfInBounds_toArray, List.set_cons_zero, List.set_cons_succ]
              refine wpAnyH_take (i := 20) (v := ?xbqav21) (by simp only [List.getElem?_toArray, List.getElem?_cons_zero, List.getElem?_cons_succ]; rfl) (by kernel_rfl) (by kernel_rfl) (by kernel_rfl) (fun _ _ _ h => h) (Or.inl ⟨by rfl, ?xbqah21⟩) hHeld0 ?xbqaq21
              case xbqah21 => (intro w hSw; (try dsimp only at hSw); go_simp <;> with_reducible rfl)
              try simp only [Act.put, List.setIfInBounds_toArray, List.set_cons_zero, List.set_cons_succ]
              refine wpAnyH_take (i := 21) (v := ?xbqav22) (by simp only [List.getElem?_toArray, List.getElem?_cons_zero, List.getElem?_cons_succ]; rfl) (by kernel_rfl) (by kernel_rfl) (by kernel_rfl) (fun _ _ _ h => h) (Or.inl ⟨by rfl, ?xbqah22⟩) hHeld0 ?xbqaq22
              case xbqah22 => (intro w hSw; (try dsimp only at hSw); go_simp <;> with_reducible rfl)
              try simp only [Act.put, List.setIfInBounds_toArray, List.set_cons_zero, List.set_cons_succ]
              refine wpAnyH_take (i := 22) (v := ?xbqav23) (by simp only [List.getElem?_toArray, List.getElem?_cons_zero, List.getElem?_cons_succ]; rfl) (by kernel_rfl) (by kernel_rfl) (by kernel_rfl) (fun _ _ _ h => h) (Or.inl ⟨by rfl, ?xbqah23⟩) hHeld0 ?xbqaq23
              case xbqah23 => (intro w hSw; (try dsimp only at hSw); go_simp <;> with_reducible rfl)
              try simp only [Act.put, List.setIfInBounds_toArray, List.set_cons_zero, List.set_cons_succ]
              refine wpAnyH_take (i := 23) (v := ?xbqav24) (by simp only [List.getElem?_toArray, List.getElem?_cons_zero, List.getElem?_cons_succ]; rfl) (by kernel_rfl) (by kernel_rfl) (by kernel_rfl) (fun _ _ _ h => h) (Or.inl ⟨by rfl, ?xbqah24⟩) hHeld0 ?xbqaq24
              case xbqah24 => (intro w hSw; (try dsimp only at hSw); go_simp <;> with_reducible rfl)
              try simp only [Act.put, List.setIfInBounds_toArray, List.set_cons_zero, List.set_cons_succ]
              refine wpAnyH_ready (rs := [24]) (by kernel_rfl) (by simp) ?_
              refine AllReadyH.cons (by simp only [List.getElem?_toArray, List.getElem?_cons_zero, List.getElem?_cons_succ]; rfl) (fun K hK => ?_) AllReadyH.nil
              go_simp
              go_at_call 14
              refine (same17 ((j : Int) + 1) en bb A5 (some zad) c5 zc l W.drew HRA.out (ReadsInt.below HZR.out HBO.out)).mono ?_
              rintro e w7 ⟨rfl, hB7⟩
              have p0 := pw_cell_below hB7 f0
              have p1 := pw_cell_below hB7 f1
              have p2 := pw_cell_below hB7 f2
              have p3 := pw_cell_below hB7 f3
              have p4 := pw_cell_below hB7 f4
              have p5 := pw_cell_below hB7 e0
              have p6 := pw_cell_below hB7 e1
              have p7 := pw_cell_below hB7 e2
              have p8 := pw_cell_below hB7 e3
              have p9 := pw_cell_below hB7 e4
              have p10 := pw_cell_below hB7 e5
              have HB7 := Lib.hid (HBO.out.trans (hB7.mono HBO.out.size))
              clear hB7
              refine hK.out _ _ ?xbqas25 (fun hHeld1 => ?xbqaq25)
              case xbqas25 => (try dsimp only); exact ⟨p0, p1, p2, p3, p4, p5, p6, p7, p8, p9, p10⟩
              clear hK K
              try simp only [Act.put, List.setIfInBounds_toArray, List.set_cons_zero, List.set_cons_succ]
              refine wpAnyH_take (i := 25) (v := ?xbqav26) (by simp only [List.getElem?_toArray, List.getElem?_cons_zero, List.getElem?_cons_succ]; rfl) (by kernel_rfl) (by kernel_rfl) (by kernel_rfl) (fun _ _ _ h => h) (Or.inl ⟨by rfl, ?xbqah26⟩) hHeld1 ?xbqaq26
              case xbqah26 => (intro w hSw; (try dsimp only at hSw); go_simp <;> with_reducible rfl)
              try simp only [Act.put, List.setIfInBounds_toArray, List.set_cons_zero, List.set_cons_succ]
              refine wpAnyH_take (i := 26) (v := ?xbqav27) (by simp only [List.getElem?_toArray, List.getElem?_cons_zero, List.getElem?_cons_succ]; rfl) (by kernel_rfl) (by kernel_rfl) (by kernel_rfl) (fun _ _ _ h => h) (Or.inl ⟨by rfl, ?xbqah27⟩) hHeld1 ?xbqaq27
              case xbqah27 => (intro w hSw; (try dsimp only at hSw); go_simp <;> with_reducible rfl)
              try simp only [Act.put, List.setIfInBounds_toArray, List.set_cons_zero, List.set_cons_succ]
              refine wpAnyH_take (i := 27) (v := ?xbqav28) (by simp only [List.getElem?_toArray, List.getElem?_cons_zero, List.getElem?_cons_succ]; rfl) (by kernel_rfl) (by kernel_rfl) (by kernel_rfl) (fun _ _ _ h => h) (Or.inl ⟨by rfl, ?xbqah28⟩) hHeld1 ?xbqaq28
              case xbqah28 => (intro w hSw; (try dsimp only at hSw); go_simp <;> with_reducible rfl)
              try simp only [Act.put, List.setIfInBounds_toArray, List.set_cons_zero, List.set_cons_succ]
              refine wpAnyH_take (i := 28) (v := ?xbqav29) (by simp only [List.getElem?_toArray, List.getElem?_cons_zero, List.getElem?_cons_succ]; rfl) (by kernel_rfl) (by kernel_rfl) (by kernel_rfl) (fun _ _ _ h => h) (Or.inl ⟨by rfl, ?xbqah29⟩) hHeld1 ?xbqaq29
              case xbqah29 => (intro w hSw; (try dsimp only at hSw); go_simp <;> with_reducible rfl)
              try simp only [Act.put, List.setIfInBounds_toArray, List.set_cons_zero, List.set_cons_succ]
              refine wpAnyH_take (i := 29) (v := ?xbqav30) (by simp only [List.getElem?_toArray, List.getElem?_cons_zero, List.getElem?_cons_succ]; rfl) (by kernel_rfl) (by kernel_rfl) (by kernel_rfl) (fun _ _ _ h => h) (Or.inl ⟨by rfl, ?xbqah30⟩) hHeld1 ?xbqaq30
              case xbqah30 => (intro w hSw; (try dsimp only at hSw); go_simp <;> with_reducible rfl)
              try simp only [Act.put, List.setIfInBounds_toArray, List.set_cons_zero, List.set_cons_succ]
              refine wpAnyH_take (i := 30) (v := ?xbqav31) (by simp only [List.getElem?_toArray, List.getElem?_cons_zero, List.getElem?_cons_succ]; rfl) (by kernel_rfl) (by kernel_rfl) (by kernel_rfl) (fun _ _ _ h => h) (Or.inl ⟨by rfl, ?xbqah31⟩) hHeld1 ?xbqaq31
              case xbqah31 => (intro w hSw; (try dsimp only at hSw); go_simp <;> with_reducible rfl)
              try simp only [Act.put, List.setIfInBounds_toArray, List.set_cons_zero, List.set_cons_succ]
              refine wpAnyH_take (i := 31) (v := ?xbqav32) (by simp only [List.getElem?_toArray, List.getElem?_cons_zero, List.getElem?_cons_succ]; rfl) (by kernel_rfl) (by kernel_rfl) (by kernel_rfl) (fun _ _ _ h => h) (Or.inl ⟨by rfl, ?xbqah32⟩) hHeld1 ?xbqaq32
              case xbqah32 => (intro w hSw; (try dsimp only at hSw); go_simp <;> with_reducible rfl)
              try simp only [Act.put, List.setIfInBounds_toArray, List.set_cons_zero, List.set_cons_succ]
              refine wpAnyH_take (i := 32) (v := ?xbqav33) (by simp only [List.getElem?_toArray, List.getElem?_cons_zero, List.getElem?_cons_succ]; rfl) (by kernel_rfl) (by kernel_rfl) (by kernel_rfl) (fun _ _ _ h => h) (Or.inl ⟨by rfl, ?xbqah33⟩) hHeld1 ?xbqaq33
              case xbqah33 => (intro w hSw; (try dsimp only at hSw); go_simp <;> with_reducible rfl)
              try simp only [Act.put, List.setIfInBounds_toArray, List.set_cons_zero, List.set_cons_succ]
              refine wpAnyH_take (i := 33) (v := ?xbqav34) (by simp only [List.getElem?_toArray, List.getElem?_cons_zero, List.getElem?_cons_succ]; rfl) (by kernel_rfl) (by kernel_rfl) (by kernel_rfl) (fun _ _ _ h => h) (Or.inl ⟨by rfl, ?xbqah34⟩) hHeld1 ?xbqaq34
              case xbqah34 => (intro w hSw; (try dsimp only at hSw); go_simp <;> with_reducible rfl)
              try simp only [Act.put, List.setIfInBounds_toArray, List.set_cons_zero, List.set_cons_succ]
              refine wpAnyH_take (i := 34) (v := ?xbqav35) (by simp only [List.getElem?_toArray, List.getElem?_cons_zero, List.getElem?_cons_succ]; rfl) (by kernel_rfl) (by kernel_rfl) (by kernel_rfl) (fun _ _ _ h => h) (Or.inl ⟨by rfl, ?xbqah35⟩) hHeld1 ?xbqaq35
              case xbqah35 => (intro w hSw; (try dsimp only at hSw); go_simp <;> with_reducible rfl)
              try simp only [Act.put, List.setIfInBounds_toArray, List.set_cons_zero, List.set_cons_succ]
              refine wpAnyH_take (i := 35) (v := ?xbqav36) (by simp only [List.getElem?_toArray, List.getElem?_cons_zero, List.getElem?_cons_succ]; rfl) (by kernel_rfl) (by kernel_rfl) (by kernel_rfl) (fun _ _ _ h => h) (Or.inl ⟨by rfl, ?xbqah36⟩) hHeld1 ?xbqaq36
              case xbqah36 => (intro w hSw; (try dsimp only at hSw); go_simp <;> with_reducible rfl)
              try simp only [Act.put, List.setIfInBounds_toArray, List.set_cons_zero, List.set_cons_succ]
              refine wpAnyH_take (i := 36) (v := ?xbqav37) (by simp only [List.getElem?_toArray, List.getElem?_cons_zero, List.getElem?_cons_succ]; rfl) (by kernel_rfl) (by kernel_rfl) (by kernel_rfl) (fun _ _ _ h => h) (Or.inl ⟨by rfl, ?xbqah37⟩) hHeld1 ?xbqaq37
              case xbqah37 => (intro w hSw; (try dsimp only at hSw); go_simp <;> with_reducible rfl)
              try simp only [Act.put, List.setIfInBounds_toArray, List.set_cons_zero, List.set_cons_succ]
              refine wpAnyH_take (i := 37) (v := ?xbqav38) (by simp only [List.getElem?_toArray, List.getElem?_cons_zero, List.getElem?_cons_succ]; rfl) (by kernel_rfl) (by kernel_rfl) (by kernel_rfl) (fun _ _ _ h => h) (Or.inl ⟨by rfl, ?xbqah38⟩) hHeld1 ?xbqaq38
              case xbqah38 => (intro w hSw; (try dsimp only at hSw); go_simp <;> with_reducible rfl)
              try simp only [Act.put, List.setIfInBounds_toArray, List.set_cons_zero, List.set_cons_succ]
              refine wpAnyH_take (i := 38) (v := ?xbqav39) (by simp only [List.getElem?_toArray, List.getElem?_cons_zero, List.getElem?_cons_succ]; rfl) (by kernel_rfl) (by kernel_rfl) (by kernel_rfl) (fun _ _ _ h => h) (Or.inl ⟨by rfl, ?xbqah39⟩) hHeld1 ?xbqaq39
              case xbqah39 => (intro w hSw; (try dsimp only at hSw); go_simp <;> with_reducible rfl)
              try simp only [Act.put, List.setIfInBounds_toArray, List.set_cons_zero, List.set_cons_succ]
              refine wpAnyH_take (i := 39) (v := ?xbqav40) (by simp only [List.getElem?_toArray, List.getElem?_cons_zero, List.getElem?_cons_succ]; rfl) (by kernel_rfl) (by kernel_rfl) (by kernel_rfl) (fun _ _ _ h => h) (Or.inl ⟨by rfl, ?xbqah40⟩) hHeld1 ?xbqaq40
              case xbqah40 => (intro w hSw; (try dsimp only at hSw); go_simp <;> with_reducible rfl)
              try simp only [Act.put, List.setIfInBounds_toArray, List.set_cons_zero, List.set_cons_succ]
              refine wpAnyH_take (i := 40) (v := ?xbqav41) (by simp only [List.getElem?_toArray, List.getElem?_cons_zero, List.getElem?_cons_succ]; rfl) (by kernel_rfl) (by kernel_rfl) (by kernel_rfl) (fun _ _ _ h => h) (Or.inl ⟨by rfl, ?xbqah41⟩) hHeld1 ?xbqaq41
              case xbqah41 => (intro w hSw; (try dsimp only at hSw); go_simp <;> with_reducible rfl)
              try simp only [Act.put, List.setIfInBounds_toArray, List.set_cons_zero, List.set_cons_succ]
              refine wpAnyH_take (i := 41) (v := ?xbqav42) (by simp only [List.getElem?_toArray, List.getElem?_cons_zero, List.getElem?_cons_succ]; rfl) (by kernel_rfl) (by kernel_rfl) (by kernel_rfl) (fun _ _ _ h => h) (Or.inl ⟨by rfl, ?xbqah42⟩) hHeld1 ?xbqaq42
              case xbqah42 => (intro w hSw; (try dsimp only at hSw); go_simp <;> with_reducible rfl)
              try simp only [Act.put, List.setIfInBounds_toArray, List.set_cons_zero, List.set_cons_succ]
              refine wpAnyH_take (i := 42) (v := ?xbqav43) (by simp only [List.getElem?_toArray, List.getElem?_cons_zero, List.getElem?_cons_succ]; rfl) (by kernel_rfl) (by kernel_rfl) (by kernel_rfl) (fun _ _ _ h => h) (Or.inl ⟨by rfl, ?xbqah43⟩) hHeld1 ?xbqaq43
              case xbqah43 => (intro w hSw; (try dsimp only at hSw); go_simp <;> with_reducible rfl)
              try simp only [Act.put, List.setIfInBounds_toArray, List.set_cons_zero, List.set_cons_succ]
              refine wpAnyH_take (i := 43) (v := ?xbqav44) (by simp only [List.getElem?_toArray, List.getElem?_cons_zero, List.getElem?_cons_succ]; rfl) (by kernel_rfl) (by kernel_rfl) (by kernel_rfl) (fun _ _ _ h => h) (Or.inl ⟨by rfl, ?xbqah44⟩) hHeld1 ?xbqaq44
              case xbqah44 => (intro w hSw; (try dsimp only at hSw); go_simp <;> with_reducible rfl)
              try simp only [Act.put, List.setIfInBounds_toArray, List.set_cons_zero, List.set_cons_succ]
              refine wpAnyH_done (by kernel_rfl) ?_ _
              refine NoPanic.normal ?_
              go_wp2_with fail
              exact ⟨⟨n + 1, by omega, by omega, by push_cast; omega, by simp, HB7.out⟩, by simp [intOf]; omega⟩
            · have hlx : ¬ ((j : Int) + 1 < (m : Int)) := by omega
              have hlx2 : ¬ (j + 1 < m) := hjx
              refine wp_region_noPanic ?_
              refine wp_region_held_drew (S := (fun w' => w'.cell? ⟨pa, 0, none⟩ = some (.int .i64 ((j : Int) + 1)) ∧ w'.cell? ⟨pa, 1, none⟩ = some (.int .i64 en) ∧ w'.cell? ⟨pa, 2, none⟩ = some (.int .i64 bb) ∧ w'.cell? ⟨pa, 3, none⟩ = some (.slice none 0 0) ∧ w'.cell? ⟨pa, 4, none⟩ = some (.slice A5 l.length c5) ∧ w'.cell? ⟨g, j * 5, none⟩ = some (.int .i64 ((j : Int) + 1)) ∧ w'.cell? ⟨g, j * 5 + 1, none⟩ = some (.int .i64 en) ∧ w'.cell? ⟨g, j * 5 + 2, none⟩ = some (.int .i64 bb) ∧ w'.cell? ⟨g, j * 5 + 3, none⟩ = some (.slice none 0 0) ∧ w'.cell? ⟨g, j * 5 + 4, none⟩ = some (.slice (some zad) l.length zc))) (by kernel_rfl) ?xbqbs0 (fun hHeld0 => ?xbqbr0)
              case xbqbs0 => (try dsimp only); exact ⟨f0, f1, f2, f3, f4, e0, e1, e2, e3, e4⟩
              refine wpAnyH_take (i := 0) (v := ?xbqbv1) (by simp only [List.getElem?_toArray, List.getElem?_cons_zero, List.getElem?_cons_succ]; rfl) (by kernel_rfl) (by kernel_rfl) (by kernel_rfl) (fun _ _ _ h => h) (Or.inl ⟨by rfl, ?xbqbh1⟩) hHeld0 ?xbqbq1
              case xbqbh1 => (intro w hSw; (try dsimp only at hSw); go_simp <;> with_reducible rfl)
              try simp only [Act.put, List.setIfInBounds_toArray, List.set_cons_zero, List.set_cons_succ]
              refine wpAnyH_take (i := 1) (v := ?xbqbv2) (by simp only [List.getElem?_toArray, List.getElem?_cons_zero, List.getElem?_cons_succ]; rfl) (by kernel_rfl) (by kernel_rfl) (by kernel_rfl) (fun _ _ _ h => h) (Or.inl ⟨by rfl, ?xbqbh2⟩) hHeld0 ?xbqbq2
              case xbqbh2 => (intro w hSw; (try dsimp only at hSw); go_simp <;> with_reducible rfl)
              try simp only [Act.put, List.setIfInBounds_toArray, List.set_cons_zero, List.set_cons_succ]
              refine wpAnyH_take (i := 2) (v := ?xbqbv3) (by simp only [List.getElem?_toArray, List.getElem?_cons_zero, List.getElem?_cons_succ]; rfl) (by kernel_rfl) (by kernel_rfl) (by kernel_rfl) (fun _ _ _ h => h) (Or.inl ⟨by rfl, ?xbqbh3⟩) hHeld0 ?xbqbq3
              case xbqbh3 => (intro w hSw; (try dsimp only at hSw); go_simp <;> with_reducible rfl)
              try simp only [Act.put, List.setIfInBounds_toArray, List.set_cons_zero, List.set_cons_succ]
              refine wpAnyH_take (i := 3) (v := ?xbqbv4) (by simp only [List.getElem?_toArray, List.getElem?_cons_zero, List.getElem?_cons_succ]; rfl) (by kernel_rfl) (by kernel_rfl) (by kernel_rfl) (fun _ _ _ h => h) (Or.inl ⟨by rfl, ?xbqbh4⟩) hHeld0 ?xbqbq4
              case xbqbh4 => (intro w hSw; (try dsimp only at hSw); go_simp <;> with_reducible rfl)
              try simp only [Act.put, List.setIfInBounds_toArray, List.set_cons_zero, List.set_cons_succ]
              refine wpAnyH_take (i := 4) (v := ?xbqbv5) (by simp only [List.getElem?_toArray, List.getElem?_cons_zero, List.getElem?_cons_succ]; rfl) (by kernel_rfl) (by kernel_rfl) (by kernel_rfl) (fun _ _ _ h => h) (Or.inl ⟨by rfl, ?xbqbh5⟩) hHeld0 ?xbqbq5
              case xbqbh5 => (intro w hSw; (try dsimp only at hSw); go_simp <;> with_reducible rfl)
              try simp only [Act.put, List.setIfInBounds_toArray, List.set_cons_zero, List.set_cons_succ]
              refine wpAnyH_take (i := 5) (v := ?xbqbv6) (by simp only [List.getElem?_toArray, List.getElem?_cons_zero, List.getElem?_cons_succ]; rfl) (by kernel_rfl) (by kernel_rfl) (by kernel_rfl) (fun _ _ _ h => h) (Or.inl ⟨by rfl, ?xbqbh6⟩) hHeld0 ?xbqbq6
              case xbqbh6 => (intro w hSw; (try dsimp only at hSw); go_simp <;> with_reducible rfl)
              try simp only [Act.put, List.setIfInBounds_toArray, List.set_cons_zero, List.set_cons_succ]
              refine wpAnyH_take (i := 6) (v := ?xbqbv7) (by simp only [List.getElem?_toArray, List.getElem?_cons_zero, List.getElem?_cons_succ]; rfl) (by kernel_rfl) (by kernel_rfl) (by kernel_rfl) (fun _ _ _ h => h) (Or.inl ⟨by rfl, ?xbqbh7⟩) hHeld0 ?xbqbq7
              case xbqbh7 => (intro w hSw; (try dsimp only at hSw); go_simp <;> with_reducible rfl)
              try simp only [Act.put, List.setIfInBounds_toArray, List.set_cons_zero, List.set_cons_succ]
              refine wpAnyH_take (i := 7) (v := ?xbqbv8) (by simp only [List.getElem?_toArray, List.getElem?_cons_zero, List.getElem?_cons_succ]; rfl) (by kernel_rfl) (by kernel_rfl) (by kernel_rfl) (fun _ _ _ h => h) (Or.inl ⟨by rfl, ?xbqbh8⟩) hHeld0 ?xbqbq8
              case xbqbh8 => (intro w hSw; (try dsimp only at hSw); go_simp <;> with_reducible rfl)
              try simp only [Act.put, List.setIfInBounds_toArray, List.set_cons_zero, List.set_cons_succ]
              refine wpAnyH_take (i := 8) (v := ?xbqbv9) (by simp only [List.getElem?_toArray, List.getElem?_cons_zero, List.getElem?_cons_succ]; rfl) (by kernel_rfl) (by kernel_rfl) (by kernel_rfl) (fun _ _ _ h => h) (Or.inl ⟨by rfl, ?xbqbh9⟩) hHeld0 ?xbqbq9
              case xbqbh9 => (intro w hSw; (try dsimp only at hSw); go_simp <;> with_reducible rfl)
              try simp only [Act.put, List.setIfInBounds_toArray, List.set_cons_zero, List.set_cons_succ]
              refine wpAnyH_take (i := 9) (v := ?xbqbv10) (by simp only [List.getElem?_toArray, List.getElem?_cons_zero, List.getElem?_cons_succ]; rfl) (by kernel_rfl) (by kernel_rfl) (by kernel_rfl) (fun _ _ _ h => h) (Or.inl ⟨by rfl, ?xbqbh10⟩) hHeld0 ?xbqbq10
              case xbqbh10 => (intro w hSw; (try dsimp only at hSw); go_simp <;> with_reducible rfl)
              try simp only [Act.put, List.setIfInBounds_toArray, List.set_cons_zero, List.set_cons_succ]
              refine wpAnyH_take (i := 10) (v := ?xbqbv11) (by simp only [List.getElem?_toArray, List.getElem?_cons_zero, List.getElem?_cons_succ]; rfl) (by kernel_rfl) (by kernel_rfl) (by kernel_rfl) (fun _ _ _ h => h) (Or.inl ⟨by rfl, ?xbqbh11⟩) hHeld0 ?xbqbq11
              case xbqbh11 => (intro w hSw; (try dsimp only at hSw); go_simp <;> with_reducible rfl)
              try simp only [Act.put, List.setIfInBounds_toArray, List.set_cons_zero, List.set_cons_succ]
              refine wpAnyH_take (i := 11) (v := ?xbqbv12) (by simp only [List.getElem?_toArray, List.getElem?_cons_zero, List.getElem?_cons_succ]; rfl) (by kernel_rfl) (by kernel_rfl) (by kernel_rfl) (fun _ _ _ h => h) (Or.inl ⟨by rfl, ?xbqbh12⟩) hHeld0 ?xbqbq12
              case xbqbh12 => (intro w hSw; (try dsimp only at hSw); go_simp <;> with_reducible rfl)
              try simp only [Act.put, List.setIfInBounds_toArray, List.set_cons_zero, List.set_cons_succ]
              refine wpAnyH_take (i := 12) (v := ?xbqbv13) (by simp only [List.getElem?_toArray, List.getElem?_cons_zero, List.getElem?_cons_succ]; rfl) (by kernel_rfl) (by kernel_rfl) (by kernel_rfl) (fun _ _ _ h => h) (Or.inl ⟨by rfl, ?xbqbh13⟩) hHeld0 ?xbqbq13
              case xbqbh13 => (intro w hSw; (try dsimp only at hSw); go_simp <;> with_reducible rfl)
              try simp only [Act.put, List.setIfInBounds_toArray, List.set_cons_zero, List.set_cons_succ]
              refine wpAnyH_take (i := 13) (v := ?xbqbv14) (by simp only [List.getElem?_toArray, List.getElem?_cons_zero, List.getElem?_cons_succ]; rfl) (by kernel_rfl) (by kernel_rfl) (by kernel_rfl) (fun _ _ _ h => h) (Or.inl ⟨by rfl, ?xbqbh14⟩) hHeld0 ?xbqbq14
              case xbqbh14 => (intro w hSw; (try dsimp only at hSw); go_simp <;> with_reducible rfl)
              try simp only [Act.put, List.setIfInBounds_toArray, List.set_cons_zero, List.set_cons_succ]
              refine wpAnyH_take (i := 14) (v := ?xbqbv15) (by simp only [List.getElem?_toArray, List.getElem?_cons_zero, List.getElem?_cons_succ]; rfl) (by kernel_rfl) (by kernel_rfl) (by kernel_rfl) (fun _ _ _ h => h) (Or.inl ⟨by rfl, ?xbqbh15⟩) hHeld0 ?xbqbq15
              case xbqbh15 => (intro w hSw; (try dsimp only at hSw); go_simp <;> with_reducible rfl)
              try simp only [Act.put, List.setIfInBounds_toArray, List.set_cons_zero, List.set_cons_succ]
              refine wpAnyH_take (i := 15) (v := ?xbqbv16) (by simp only [List.getElem?_toArray, List.getElem?_cons_zero, List.getElem?_cons_succ]; rfl) (by kernel_rfl) (by kernel_rfl) (by kernel_rfl) (fun _ _ _ h => h) (Or.inl ⟨by rfl, ?xbqbh16⟩) hHeld0 ?xbqbq16
              case xbqbh16 => (intro w hSw; (try dsimp only at hSw); go_simp <;> with_reducible rfl)
              try simp only [Act.put, List.setIfInBounds_toArray, List.set_cons_zero, List.set_cons_succ]
              refine wpAnyH_take (i := 16) (v := ?xbqbv17) (by simp only [List.getElem?_toArray, List.getElem?_cons_zero, List.getElem?_cons_succ]; rfl) (by kernel_rfl) (by kernel_rfl) (by kernel_rfl) (fun _ _ _ h => h) (Or.inl ⟨by rfl, ?xbqbh17⟩) hHeld0 ?xbqbq17
              case xbqbh17 => (intro w hSw; (try dsimp only at hSw); go_simp <;> with_reducible rfl)
              try simp only [Act.put, List.setIfInBounds_toArray, List.set_cons_zero, List.set_cons_succ]
              refine wpAnyH_take (i := 17) (v := ?xbqbv18) (by simp only [List.getElem?_toArray, List.getElem?_cons_zero, List.getElem?_cons_succ]; rfl) (by kernel_rfl) (by kernel_rfl) (by kernel_rfl) (fun _ _ _ h => h) (Or.inl ⟨by rfl, ?xbqbh18⟩) hHeld0 ?xbqbq18
              case xbqbh18 => (intro w hSw; (try dsimp only at hSw); go_simp <;> with_reducible rfl)
              try simp only [Act.put, List.setIfInBounds_toArray, List.set_cons_zero, List.set_cons_succ]
              refine wpAnyH_take (i := 18) (v := ?xbqbv19) (by simp only [List.getElem?_toArray, List.getElem?_cons_zero, List.getElem?_cons_succ]; rfl) (by kernel_rfl) (by kernel_rfl) (by kernel_rfl) (fun _ _ _ h => h) (Or.inl ⟨by rfl, ?xbqbh19⟩) hHeld0 ?xbqbq19
              case xbqbh19 => (intro w hSw; (try dsimp only at hSw); go_simp <;> with_reducible rfl)
              try simp only [Act.put, List.setIfInBounds_toArray, List.set_cons_zero, List.set_cons_succ]
              refine wpAnyH_take (i := 19) (v := ?xbqbv20) (by simp only [List.getElem?_toArray, List.getElem?_cons_zero, List.getElem?_cons_succ]; rfl) (by kernel_rfl) (by kernel_rfl) (by kernel_rfl) (fun _ _ _ h => h) (Or.inl ⟨by rfl, ?xbqbh20⟩) hHeld0 ?xbqbq20
              case xbqbh20 => (intro w hSw; (try dsimp only at hSw); go_simp <;> with_reducible rfl)
              try simp only [Act.put, List.setIfInBounds_toArray, List.set_cons_zero, List.set_cons_succ]
              refine wpAnyH_take (i := 20) (v := ?xbqbv21) (by simp only [List.getElem?_toArray, List.getElem?_cons_zero, List.getElem?_cons_succ]; rfl) (by kernel_rfl) (by kernel_rfl) (by kernel_rfl) (fun _ _ _ h => h) (Or.inl ⟨by rfl, ?xbqbh21⟩) hHeld0 ?xbqbq21
              case xbqbh21 => (intro w hSw; (try dsimp only at hSw); go_simp <;> with_reducible rfl)
              try simp only [Act.put, List.setIfInBounds_toArray, List.set_cons_zero, List.set_cons_succ]
              refine wpAnyH_take (i := 21) (v := ?xbqbv22) (by simp only [List.getElem?_toArray, List.getElem?_cons_zero, List.getElem?_cons_succ]; rfl) (by kernel_rfl) (by kernel_rfl) (by kernel_rfl) (fun _ _ _ h => h) (Or.inl ⟨by rfl, ?xbqbh22⟩) hHeld0 ?xbqbq22
              case xbqbh22 => (intro w hSw; (try dsimp only at hSw); go_simp <;> with_reducible rfl)
              try simp only [Act.put, List.setIfInBounds_toArray, List.set_cons_zero, List.set_cons_succ]
              refine wpAnyH_take (i := 22) (v := ?xbqbv23) (by simp only [List.getElem?_toArray, List.getElem?_cons_zero, List.getElem?_cons_succ]; rfl) (by kernel_rfl) (by kernel_rfl) (by kernel_rfl) (fun _ _ _ h => h) (Or.inl ⟨by rfl, ?xbqbh23⟩) hHeld0 ?xbqbq23
              case xbqbh23 => (intro w hSw; (try dsimp only at hSw); go_simp <;> with_reducible rfl)
              try simp only [Act.put, List.setIfInBounds_toArray, List.set_cons_zero, List.set_cons_succ]
              refine wpAnyH_take (i := 23) (v := ?xbqbv24) (by simp only [List.getElem?_toArray, List.getElem?_cons_zero, List.getElem?_cons_succ]; rfl) (by kernel_rfl) (by kernel_rfl) (by kernel_rfl) (fun _ _ _ h => h) (Or.inl ⟨by rfl, ?xbqbh24⟩) hHeld0 ?xbqbq24
              case xbqbh24 => (intro w hSw; (try dsimp only at hSw); go_simp <;> with_reducible rfl)
              try simp only [Act.put, List.setIfInBounds_toArray, List.set_cons_zero, List.set_cons_succ]
              refine wpAnyH_ready (rs := [24]) (by kernel_rfl) (by simp) ?_
              refine AllReadyH.cons (by simp only [List.getElem?_toArray, List.getElem?_cons_zero, List.getElem?_cons_succ]; rfl) (fun K hK => ?_) AllReadyH.nil
              go_simp
              go_at_call 14
              refine (same17 ((j : Int) + 1) en bb A5 (some zad) c5 zc l W.drew HRA.out (ReadsInt.below HZR.out HBO.out)).mono ?_
              rintro e w7 ⟨rfl, hB7⟩
              have p0 := pw_cell_below hB7 f0
              have p1 := pw_cell_below hB7 f1
              have p2 := pw_cell_below hB7 f2
              have p3 := pw_cell_below hB7 f3
              have p4 := pw_cell_below hB7 f4
              have p5 := pw_cell_below hB7 e0
              have p6 := pw_cell_below hB7 e1
              have p7 := pw_cell_below hB7 e2
              have p8 := pw_cell_below hB7 e3
              have p9 := pw_cell_below hB7 e4
              have HB7 := Lib.hid (HBO.out.trans (hB7.mono HBO.out.size))
              clear hB7
              refine hK.out _ _ ?xbqbs25 (fun hHeld1 => ?xbqbq25)
              case xbqbs25 => (try dsimp only); exact ⟨p0, p1, p2, p3, p4, p5, p6, p7, p8, p9⟩
              clear hK K
              try simp only [Act.put, List.setIfInBounds_toArray, List.set_cons_zero, List.set_cons_succ]
              refine wpAnyH_take (i := 25) (v := ?xbqbv26) (by simp only [List.getElem?_toArray, List.getElem?_cons_zero, List.getElem?_cons_succ]; rfl) (by kernel_rfl) (by kernel_rfl) (by kernel_rfl) (fun _ _ _ h => h) (Or.inl ⟨by rfl, ?xbqbh26⟩) hHeld1 ?xbqbq26
              case xbqbh26 => (intro w hSw; (try dsimp only at hSw); go_simp <;> with_reducible rfl)
              try simp only [Act.put, List.setIfInBounds_toArray, List.set_cons_zero, List.set_cons_succ]
              refine wpAnyH_take (i := 26) (v := ?xbqbv27) (by simp only [List.getElem?_toArray, List.getElem?_cons_zero, List.getElem?_cons_succ]; rfl) (by kernel_rfl) (by kernel_rfl) (by kernel_rfl) (fun _ _ _ h => h) (Or.inl ⟨by rfl, ?xbqbh27⟩) hHeld1 ?xbqbq27
              case xbqbh27 => (intro w hSw; (try dsimp only at hSw); go_simp <;> with_reducible rfl)
              try simp only [Act.put, List.setIfInBounds_toArray, List.set_cons_zero, List.set_cons_succ]
              refine wpAnyH_take (i := 27) (v := ?xbqbv28) (by simp only [List.getElem?_toArray, List.getElem?_cons_zero, List.getElem?_cons_succ]; rfl) (by kernel_rfl) (by kernel_rfl) (by kernel_rfl) (fun _ _ _ h => h) (Or.inl ⟨by rfl, ?xbqbh28⟩) hHeld1 ?xbqbq28
              case xbqbh28 => (intro w hSw; (try dsimp only at hSw); go_simp <;> with_reducible rfl)
              try simp only [Act.put, List.setIfInBounds_toArray, List.set_cons_zero, List.set_cons_succ]
              refine wpAnyH_take (i := 28) (v := ?xbqbv29) (by simp only [List.getElem?_toArray, List.getElem?_cons_zero, List.getElem?_cons_succ]; rfl) (by kernel_rfl) (by kernel_rfl) (by kernel_rfl) (fun _ _ _ h => h) (Or.inl ⟨by rfl, ?xbqbh29⟩) hHeld1 ?xbqbq29
              case xbqbh29 => (intro w hSw; (try dsimp only at hSw); go_simp <;> with_reducible rfl)
              try simp only [Act.put, List.setIfInBounds_toArray, List.set_cons_zero, List.set_cons_succ]
              refine wpAnyH_take (i := 29) (v := ?xbqbv30) (by simp only [List.getElem?_toArray, List.getElem?_cons_zero, List.getElem?_cons_succ]; rfl) (by kernel_rfl) (by kernel_rfl) (by kernel_rfl) (fun _ _ _ h => h) (Or.inl ⟨by rfl, ?xbqbh30⟩) hHeld1 ?xbqbq30
              case xbqbh30 => (intro w hSw; (try dsimp only at hSw); go_simp <;> with_reducible rfl)
              try simp only [Act.put, List.setIfInBounds_toArray, List.set_cons_zero, List.set_cons_succ]
              refine wpAnyH_take (i := 30) (v := ?xbqbv31) (by simp only [List.getElem?_toArray, List.getElem?_cons_zero, List.getElem?_cons_succ]; rfl) (by kernel_rfl) (by kernel_rfl) (by kernel_rfl) (fun _ _ _ h => h) (Or.inl ⟨by rfl, ?xbqbh31⟩) hHeld1 ?xbqbq31
              case xbqbh31 => (intro w hSw; (try dsimp only at hSw); go_simp <;> with_reducible rfl)
              try simp only [Act.put, List.setIfInBounds_toArray, List.set_cons_zero, List.set_cons_succ]
              refine wpAnyH_take (i := 31) (v := ?xbqbv32) (by simp only [List.getElem?_toArray, List.getElem?_cons_zero, List.getElem?_cons_succ]; rfl) (by kernel_rfl) (by kernel_rfl) (by kernel_rfl) (fun _ _ _ h => h) (Or.inl ⟨by rfl, ?xbqbh32⟩) hHeld1 ?xbqbq32
              case xbqbh32 => (intro w hSw; (try dsimp only at hSw); go_simp <;> with_reducible rfl)
              try simp only [Act.put, List.setIfInBounds_toArray, List.set_cons_zero, List.set_cons_succ]
              refine wpAnyH_take (i := 32) (v := ?xbqbv33) (by simp only [List.getElem?_toArray, List.getElem?_cons_zero, List.getElem?_cons_succ]; rfl) (by kernel_rfl) (by kernel_rfl) (by kernel_rfl) (fun _ _ _ h => h) (Or.inl ⟨by rfl, ?xbqbh33⟩) hHeld1 ?xbqbq33
              case xbqbh33 => (intro w hSw; (try dsimp only at hSw); go_simp <;> with_reducible rfl)
              try simp only [Act.put, List.setIfInBounds_toArray, List.set_cons_zero, List.set_cons_succ]
              refine wpAnyH_take (i := 33) (v := ?xbqbv34) (by simp only [List.getElem?_toArray, List.getElem?_cons_zero, List.getElem?_cons_succ]; rfl) (by kernel_rfl) (by kernel_rfl) (by kernel_rfl) (fun _ _ _ h => h) (Or.inl ⟨by rfl, ?xbqbh34⟩) hHeld1 ?xbqbq34
              case xbqbh34 => (intro w hSw; (try dsimp only at hSw); go_simp <;> with_reducible rfl)
              try simp only [Act.put, List.setIfInBounds_toArray, List.set_cons_zero, List.set_cons_succ]
              refine wpAnyH_take (i := 34) (v := undef) (by simp only [List.getElem?_toArray, List.getElem?_cons_zero, List.getElem?_cons_succ]; rfl) (by kernel_rfl) (by kernel_rfl) (by kernel_rfl) (fun _ _ _ h => h) (Or.inr ⟨by rfl, rfl⟩) hHeld1 ?xbqbq35
              try simp only [Act.put, List.setIfInBounds_toArray, List.set_cons_zero, List.set_cons_succ]
              refine wpAnyH_take (i := 35) (v := undef) (by simp only [List.getElem?_toArray, List.getElem?_cons_zero, List.getElem?_cons_succ]; rfl) (by kernel_rfl) (by kernel_rfl) (by kernel_rfl) (fun _ _ _ h => h) (Or.inr ⟨by rfl, rfl⟩) hHeld1 ?xbqbq36
              try simp only [Act.put, List.setIfInBounds_toArray, List.set_cons_zero, List.set_cons_succ]
              refine wpAnyH_take (i := 36) (v := undef) (by simp only [List.getElem?_toArray, List.getElem?_cons_zero, List.getElem?_cons_succ]; rfl) (by kernel_rfl) (by kernel_rfl) (by kernel_rfl) (fun _ _ _ h => h) (Or.inr ⟨by rfl, rfl⟩) hHeld1 ?xbqbq37
              try simp only [Act.put, List.setIfInBounds_toArray, List.set_cons_zero, List.set_cons_succ]
              refine wpAnyH_take (i := 37) (v := undef) (by simp only [List.getElem?_toArray, List.getElem?_cons_zero, List.getElem?_cons_succ]; rfl) (by kernel_rfl) (by kernel_rfl) (by kernel_rfl) (fun _ _ _ h => h) (Or.inr ⟨by rfl, rfl⟩) hHeld1 ?xbqbq38
              try simp only [Act.put, List.setIfInBounds_toArray, List.set_cons_zero, List.set_cons_succ]
              refine wpAnyH_take (i := 38) (v := undef) (by simp only [List.getElem?_toArray, List.getElem?_cons_zero, List.getElem?_cons_succ]; rfl) (by kernel_rfl) (by kernel_rfl) (by kernel_rfl) (fun _ _ _ h => h) (Or.inr ⟨by rfl, rfl⟩) hHeld1 ?xbqbq39
              try simp only [Act.put, List.setIfInBounds_toArray, List.set_cons_zero, List.set_cons_succ]
              refine wpAnyH_take (i := 39) (v := undef) (by simp only [List.getElem?_toArray, List.getElem?_cons_zero, List.getElem?_cons_succ]; rfl) (by kernel_rfl) (by kernel_rfl) (by kernel_rfl) (fun _ _ _ h => h) (Or.inr ⟨by rfl, rfl⟩) hHeld1 ?xbqbq40
              try simp only [Act.put, List.setIfInBounds_toArray, List.set_cons_zero, List.set_cons_succ]
              refine wpAnyH_take (i := 40) (v := undef) (by simp only [List.getElem?_toArray, List.getElem?_cons_zero, List.getElem?_cons_succ]; rfl) (by kernel_rfl) (by kernel_rfl) (by kernel_rfl) (fun _ _ _ h => h) (Or.inr ⟨by rfl, rfl⟩) hHeld1 ?xbqbq41
              try simp only [Act.put, List.setIfInBounds_toArray, List.set_cons_zero, List.set_cons_succ]
              refine wpAnyH_take (i := 41) (v := undef) (by simp only [List.getElem?_toArray, List.getElem?_cons_zero, List.getElem?_cons_succ]; rfl) (by kernel_rfl) (by kernel_rfl) (by kernel_rfl) (fun _ _ _ h => h) (Or.inr ⟨by rfl, rfl⟩) hHeld1 ?xbqbq42
              try simp only [Act.put, List.setIfInBounds_toArray, List.set_cons_zero, List.set_cons_succ]
              refine wpAnyH_take (i := 42) (v := ?xbqbv43) (by simp only [List.getElem?_toArray, List.getElem?_cons_zero, List.getElem?_cons_succ]; rfl) (by kernel_rfl) (by kernel_rfl) (by kernel_rfl) (fun _ _ _ h => h) (Or.inl ⟨by rfl, ?xbqbh43⟩) hHeld1 ?xbqbq43
              case xbqbh43 => (intro w hSw; (try dsimp only at hSw); go_simp <;> with_reducible rfl)
              try simp only [Act.put, List.setIfInBounds_toArray, List.set_cons_zero, List.set_cons_succ]
              refine wpAnyH_take (i := 43) (v := ?xbqbv44) (by simp only [List.getElem?_toArray, List.getElem?_cons_zero, List.getElem?_cons_succ]; rfl) (by kernel_rfl) (by kernel_rfl) (by kernel_rfl) (fun _ _ _ h => h) (Or.inl ⟨by rfl, ?xbqbh44⟩) hHeld1 ?xbqbq44
              case xbqbh44 => (intro w hSw; (try dsimp only at hSw); go_simp <;> with_reducible rfl)
              try simp only [Act.put, List.setIfInBounds_toArray, List.set_cons_zero, List.set_cons_succ]
              refine wpAnyH_done (by kernel_rfl) ?_ _
              refine NoPanic.normal ?_
              go_wp2_with fail
              exact ⟨⟨n + 1, by omega, by omega, by push_cast; omega, by simp, HB7.out⟩, by simp [intOf]; omega⟩
          · have hle2 : ¬ ((n : Int) ≤ B + 3) := hle
            go_wp2_with (go_at_call 10; refine (now_lit wr base F b xs x (HGA.out.below HBQ.out) HX.out).mono ?_; rintro e w4 ⟨A4, c4, rfl, _, hB4⟩; rw [← HXB.out]; have HB4 := Lib.hid (HBQ.out.trans (hB4.mono HBQ.out.size)); clear hB4)
            go_wp2_with fail
            go_loopw [11] (fun iv wq => ∃ (i : Nat), i ≤ m ∧ iv = .int .i64 (i : Int) ∧ Below wA.heap.size wA wq) (fun iv _ => m - (intOf iv).toNat)
            case atStart => exact ⟨0, by omega, rfl, HB4.out⟩
            case round =>
              obtain ⟨i, hi, rfl, hbq⟩ := hrel
              have HBI := Lib.hid hbq
              clear hbq
              by_cases hii : (i : Int) < (m : Int)
              · obtain ⟨y, hy⟩ : ∃ y, xs[i]? = some y := ⟨_, List.getElem?_eq_getElem (by have := HMM.out.1; omega)⟩
                have hyi := (HS.out.ok i y hy).1
                obtain ⟨z, hz, hzg⟩ := gok_map HA.out.same hy
                have hgz := ge_get HA.out.row i (List.getElem?_eq_some_iff.1 hz).1
                have hrz := HA.out.rows z (List.mem_of_getElem? hz)
                rw [(List.getElem?_eq_some_iff.1 hz).2] at hgz
                have hpv : ∀ p, i = p + 1 → ∃ pb, pb < y.g.b ∧ wA.cell? ⟨g, p * 5 + 2, none⟩ = some (.int .i64 pb) := by
                  intro p hp
                  obtain ⟨y2, hy2⟩ : ∃ y2, xs[p]? = some y2 := ⟨_, List.getElem?_eq_getElem (by have := HMM.out.1; omega)⟩
                  obtain ⟨z2, hz2, hg2⟩ := gok_map HA.out.same hy2
                  have h2 := ge_get HA.out.row p (List.getElem?_eq_some_iff.1 hz2).1
                  rw [(List.getElem?_eq_some_iff.1 hz2).2] at h2
                  exact ⟨z2.g.b, by rw [hg2]; exact (HS.out.ok p y2 hy2).2.2.2 y (by rw [← hp]; exact hy), h2.2.2.1⟩
                obtain ⟨⟨yn, en, bb, l⟩, yA, yc⟩ := y
                obtain ⟨zg, zA, zc⟩ := z
                obtain rfl : zg = _ := hzg
                obtain rfl : yn = (i : Int) + 1 := hyi
                obtain ⟨g0, g1, g2, g3, g4⟩ := hgz
                obtain ⟨zad, hza, hzC⟩ := mem_row hrz.1 hrz.2.1
                obtain rfl : zA = some zad := hza
                have HZR := Lib.hid (ReadsInt.below (ri_of_C hzC) HBI.out.drew)
                have hl7 : l.length ≤ 7 := hrz.2.2
                have e0 : wr.drew.cell? ⟨g, i * 5, none⟩ = some (.int .i64 ((i : Int) + 1)) := pw_cell_below HBI.out.drew g0
                have e2 : wr.drew.cell? ⟨g, i * 5 + 2, none⟩ = some (.int .i64 bb) := pw_cell_below HBI.out.drew g2
                have e3 : wr.drew.cell? ⟨g, i * 5 + 3, none⟩ = some (.slice none 0 0) := pw_cell_below HBI.out.drew g3
                have e4 : wr.drew.cell? ⟨g, i * 5 + 4, none⟩ = some (.slice (some zad) l.length zc) := pw_cell_below HBI.out.drew g4
                have HE0 := Lib.hid g0
                have hi0 : (0 : Int) ≤ (i : Int) := by omega
                have hwi : IntKind.i64.wrap ((i : Int) + 1) = (i : Int) + 1 := IntWalk.i64_in _ (by omega)
                have HPV := Lib.hid hpv
                clear g0 g1 g2 g3 g4 hrz hz hzC hpv hy
                obtain ⟨fe, hfe⟩ : ∃ fe, fe = fenceE x.g.n ((i : Int) + 1) := ⟨_, rfl⟩
                have hft : (fe == 0) = ((i : Int) + 1 == (m : Int)) := by
                  have hmi := HMM.out.2.1
                  rw [hfe, HXN.out]
                  unfold fenceE
                  by_cases h1 : (i : Int) + 1 < (k : Int) + 1
                  · rw [if_pos h1, show ((i : Int) + 1 == (m : Int)) = false from beq_eq_false_iff_ne.mpr (by omega)]; rfl
                  · rw [if_neg h1, if_neg (by omega), show ((i : Int) + 1 == (m : Int)) = true from beq_iff_eq.mpr (by omega)]; rfl
                have HFE := Lib.hid hfe
                clear hfe
                by_cases hip : 0 < i
                · obtain ⟨p, hp⟩ : ∃ p, i = p + 1 := ⟨i - 1, by omega⟩
                  obtain ⟨pb, hpb, hpc⟩ := HPV.out p hp
                  have e5 : wr.drew.cell? ⟨g, p * 5 + 2, none⟩ = some (.int .i64 pb) := pw_cell_below HBI.out.drew hpc
                  have hgt : (0 : Int) < (i : Int) := by omega
                  have hwp : IntKind.i64.wrap ((i : Int) - 1) = (p : Int) := (IntWalk.i64_in _ (by omega)).trans (by omega)
                  have hp0 : (0 : Int) ≤ (p : Int) := by omega
                  have hpm : (p : Int) < (m : Int) := by omega
                  have HPP := Lib.hid hp
                  clear hp
                  have hpb2 : ¬ (bb ≤ pb) := by have : pb < bb := hpb; omega
                  have hpb2d : decide (bb ≤ pb) = false := decide_eq_false hpb2
                  clear hpc hpb
                  go_wp2_with fail
                  refine wp_region_noPanic ?_
                  refine wp_region_held_drew (S := (fun w' => w'.cell? ⟨g, i * 5, none⟩ = some (.int .i64 ((i : Int) + 1)) ∧ w'.cell? ⟨g, i * 5 + 2, none⟩ = some (.int .i64 bb) ∧ w'.cell? ⟨g, i * 5 + 3, none⟩ = some (.slice none 0 0) ∧ w'.cell? ⟨g, i * 5 + 4, none⟩ = some (.slice (some zad) l.length zc) ∧ w'.cell? ⟨g, p * 5 + 2, none⟩ = some (.int .i64 pb))) (by kernel_rfl) ?xbyas0 (fun hHeld0 => ?xbyar0)
                  case xbyas0 => (try dsimp only); exact ⟨e0, e2, e3, e4, e5⟩
                  refine wpAnyH_take (i := 0) (v := ?xbyav1) (by simp only [List.getElem?_toArray, List.getElem?_cons_zero, List.getElem?_cons_succ]; rfl) (by kernel_rfl) (by kernel_rfl) (by kernel_rfl) (fun _ _ _ h => h) (Or.inl ⟨by rfl, ?xbyah1⟩) hHeld0 ?xbyaq1
                  case xbyah1 => (intro w hSw; (try dsimp only at hSw); go_simp <;> with_reducible rfl)
                  try simp only [Act.put, List.setIfInBounds_toArray, List.set_cons_zero, List.set_cons_succ]
                  refine wpAnyH_take (i := 1) (v := ?xbyav2) (by simp only [List.getElem?_toArray, List.getElem?_cons_zero, List.getElem?_cons_succ]; rfl) (by kernel_rfl) (by kernel_rfl) (by kernel_rfl) (fun _ _ _ h => h) (Or.inl ⟨by rfl, ?xbyah2⟩) hHeld0 ?xbyaq2
                  case xbyah2 => (intro w hSw; (try dsimp only at hSw); go_simp <;> with_reducible rfl)
                  try simp only [Act.put, List.setIfInBounds_toArray, List.set_cons_zero, List.set_cons_succ]
                  refine wpAnyH_take (i := 2) (v := ?xbyav3) (by simp only [List.getElem?_toArray, List.getElem?_cons_zero, List.getElem?_cons_succ]; rfl) (by kernel_rfl) (by kernel_rfl) (by kernel_rfl) (fun _ _ _ h => h) (Or.inl ⟨by rfl, ?xbyah3⟩) hHeld0 ?xbyaq3
                  case xbyah3 => (intro w hSw; (try dsimp only at hSw); go_simp <;> with_reducible rfl)
                  try simp only [Act.put, List.setIfInBounds_toArray, List.set_cons_zero, List.set_cons_succ]
                  refine wpAnyH_take (i := 3) (v := ?xbyav4) (by simp only [List.getElem?_toArray, List.getElem?_cons_zero, List.getElem?_cons_succ]; rfl) (by kernel_rfl) (by kernel_rfl) (by kernel_rfl) (fun _ _ _ h => h) (Or.inl ⟨by rfl, ?xbyah4⟩) hHeld0 ?xbyaq4
                  case xbyah4 => (intro w hSw; (try dsimp only at hSw); go_simp <;> with_reducible rfl)
                  try simp only [Act.put, List.setIfInBounds_toArray, List.set_cons_zero, List.set_cons_succ]
                  refine wpAnyH_take (i := 4) (v := ?xbyav5) (by simp only [List.getElem?_toArray, List.getElem?_cons_zero, List.getElem?_cons_succ]; rfl) (by kernel_rfl) (by kernel_rfl) (by kernel_rfl) (fun _ _ _ h => h) (Or.inl ⟨by rfl, ?xbyah5⟩) hHeld0 ?xbyaq5
                  case xbyah5 => (intro w hSw; (try dsimp only at hSw); go_simp <;> with_reducible rfl)
                  try simp only [Act.put, List.setIfInBounds_toArray, List.set_cons_zero, List.set_cons_succ]
                  refine wpAnyH_take (i := 5) (v := ?xbyav6) (by simp only [List.getElem?_toArray, List.getElem?_cons_zero, List.getElem?_cons_succ]; rfl) (by kernel_rfl) (by kernel_rfl) (by kernel_rfl) (fun _ _ _ h => h) (Or.inl ⟨by rfl, ?xbyah6⟩) hHeld0 ?xbyaq6
                  case xbyah6 => (intro w hSw; (try dsimp only at hSw); go_simp <;> with_reducible rfl)
                  try simp only [Act.put, List.setIfInBounds_toArray, List.set_cons_zero, List.set_cons_succ]
                  refine wpAnyH_take (i := 6) (v := ?xbyav7) (by simp only [List.getElem?_toArray, List.getElem?_cons_zero, List.getElem?_cons_succ]; rfl) (by kernel_rfl) (by kernel_rfl) (by kernel_rfl) (fun _ _ _ h => h) (Or.inl ⟨by rfl, ?xbyah7⟩) hHeld0 ?xbyaq7
                  case xbyah7 => (intro w hSw; (try dsimp only at hSw); go_simp <;> with_reducible rfl)
                  try simp only [Act.put, List.setIfInBounds_toArray, List.set_cons_zero, List.set_cons_succ]
                  refine wpAnyH_take (i := 7) (v := ?xbyav8) (by simp only [List.getElem?_toArray, List.getElem?_cons_zero, List.getElem?_cons_succ]; rfl) (by kernel_rfl) (by kernel_rfl) (by kernel_rfl) (fun _ _ _ h => h) (Or.inl ⟨by rfl, ?xbyah8⟩) hHeld0 ?xbyaq8
                  case xbyah8 => (intro w hSw; (try dsimp only at hSw); go_simp <;> with_reducible rfl)
                  try simp only [Act.put, List.setIfInBounds_toArray, List.set_cons_zero, List.set_cons_succ]
                  refine wpAnyH_take (i := 8) (v := ?xbyav9) (by simp only [List.getElem?_toArray, List.getElem?_cons_zero, List.getElem?_cons_succ]; rfl) (by kernel_rfl) (by kernel_rfl) (by kernel_rfl) (fun _ _ _ h => h) (Or.inl ⟨by rfl, ?xbyah9⟩) hHeld0 ?xbyaq9
                  case xbyah9 => (intro w hSw; (try dsimp only at hSw); go_simp <;> with_reducible rfl)
                  try simp only [Act.put, List.setIfInBounds_toArray, List.set_cons_zero, List.set_cons_succ]
                  refine wpAnyH_take (i := 9) (v := ?xbyav10) (by simp only [List.getElem?_toArray, List.getElem?_cons_zero, List.getElem?_cons_succ]; rfl) (by kernel_rfl) (by kernel_rfl) (by kernel_rfl) (fun _ _ _ h => h) (Or.inl ⟨by rfl, ?xbyah10⟩) hHeld0 ?xbyaq10
                  case xbyah10 => (intro w hSw; (try dsimp only at hSw); go_simp <;> with_reducible rfl)
                  try simp only [Act.put, List.setIfInBounds_toArray, List.set_cons_zero, List.set_cons_succ]
                  refine wpAnyH_take (i := 10) (v := ?xbyav11) (by simp only [List.getElem?_toArray, List.getElem?_cons_zero, List.getElem?_cons_succ]; rfl) (by kernel_rfl) (by kernel_rfl) (by kernel_rfl) (fun _ _ _ h => h) (Or.inl ⟨by rfl, ?xbyah11⟩) hHeld0 ?xbyaq11
                  case xbyah11 => (intro w hSw; (try dsimp only at hSw); go_simp <;> with_reducible rfl)
                  try simp only [Act.put, List.setIfInBounds_toArray, List.set_cons_zero, List.set_cons_succ]
                  refine wpAnyH_take (i := 11) (v := ?xbyav12) (by simp only [List.getElem?_toArray, List.getElem?_cons_zero, List.getElem?_cons_succ]; rfl) (by kernel_rfl) (by kernel_rfl) (by kernel_rfl) (fun _ _ _ h => h) (Or.inl ⟨by rfl, ?xbyah12⟩) hHeld0 ?xbyaq12
                  case xbyah12 => (intro w hSw; (try dsimp only at hSw); go_simp <;> with_reducible rfl)
                  try simp only [Act.put, List.setIfInBounds_toArray, List.set_cons_zero, List.set_cons_succ]
                  refine wpAnyH_take (i := 12) (v := ?xbyav13) (by simp only [List.getElem?_toArray, List.getElem?_cons_zero, List.getElem?_cons_succ]; rfl) (by kernel_rfl) (by kernel_rfl) (by kernel_rfl) (fun _ _ _ h => h) (Or.inl ⟨by rfl, ?xbyah13⟩) hHeld0 ?xbyaq13
                  case xbyah13 => (intro w hSw; (try dsimp only at hSw); go_simp <;> with_reducible rfl)
                  try simp only [Act.put, List.setIfInBounds_toArray, List.set_cons_zero, List.set_cons_succ]
                  refine wpAnyH_take (i := 13) (v := ?xbyav14) (by simp only [List.getElem?_toArray, List.getElem?_cons_zero, List.getElem?_cons_succ]; rfl) (by kernel_rfl) (by kernel_rfl) (by kernel_rfl) (fun _ _ _ h => h) (Or.inl ⟨by rfl, ?xbyah14⟩) hHeld0 ?xbyaq14
                  case xbyah14 => (intro w hSw; (try dsimp only at hSw); go_simp <;> with_reducible rfl)
                  try simp only [Act.put, List.setIfInBounds_toArray, List.set_cons_zero, List.set_cons_succ]
                  refine wpAnyH_take (i := 14) (v := ?xbyav15) (by simp only [List.getElem?_toArray, List.getElem?_cons_zero, List.getElem?_cons_succ]; rfl) (by kernel_rfl) (by kernel_rfl) (by kernel_rfl) (fun _ _ _ h => h) (Or.inl ⟨by rfl, ?xbyah15⟩) hHeld0 ?xbyaq15
                  case xbyah15 => (intro w hSw; (try dsimp only at hSw); go_simp <;> with_reducible rfl)
                  try simp only [Act.put, List.setIfInBounds_toArray, List.set_cons_zero, List.set_cons_succ]
                  refine wpAnyH_take (i := 15) (v := ?xbyav16) (by simp only [List.getElem?_toArray, List.getElem?_cons_zero, List.getElem?_cons_succ]; rfl) (by kernel_rfl) (by kernel_rfl) (by kernel_rfl) (fun _ _ _ h => h) (Or.inl ⟨by rfl, ?xbyah16⟩) hHeld0 ?xbyaq16
                  case xbyah16 => (intro w hSw; (try dsimp only at hSw); go_simp <;> with_reducible rfl)
                  try simp only [Act.put, List.setIfInBounds_toArray, List.set_cons_zero, List.set_cons_succ]
                  refine wpAnyH_take (i := 16) (v := ?xbyav17) (by simp only [List.getElem?_toArray, List.getElem?_cons_zero, List.getElem?_cons_succ]; rfl) (by kernel_rfl) (by kernel_rfl) (by kernel_rfl) (fun _ _ _ h => h) (Or.inl ⟨by rfl, ?xbyah17⟩) hHeld0 ?xbyaq17
                  case xbyah17 => (intro w hSw; (try dsimp only at hSw); go_simp <;> with_reducible rfl)
                  try simp only [Act.put, List.setIfInBounds_toArray, List.set_cons_zero, List.set_cons_succ]
                  refine wpAnyH_take (i := 17) (v := ?xbyav18) (by simp only [List.getElem?_toArray, List.getElem?_cons_zero, List.getElem?_cons_succ]; rfl) (by kernel_rfl) (by kernel_rfl) (by kernel_rfl) (fun _ _ _ h => h) (Or.inl ⟨by rfl, ?xbyah18⟩) hHeld0 ?xbyaq18
                  case xbyah18 => (intro w hSw; (try dsimp only at hSw); go_simp <;> with_reducible rfl)
                  try simp only [Act.put, List.setIfInBounds_toArray, List.set_cons_zero, List.set_cons_succ]
                  refine wpAnyH_take (i := 18) (v := ?xbyav19) (by simp only [List.getElem?_toArray, List.getElem?_cons_zero, List.getElem?_cons_succ]; rfl) (by kernel_rfl) (by kernel_rfl) (by kernel_rfl) (fun _ _ _ h => h) (Or.inl ⟨by rfl, ?xbyah19⟩) hHeld0 ?xbyaq19
                  case xbyah19 => (intro w hSw; (try dsimp only at hSw); go_simp <;> with_reducible rfl)
                  try simp only [Act.put, List.setIfInBounds_toArray, List.set_cons_zero, List.set_cons_succ]
                  refine wpAnyH_take (i := 19) (v := ?xbyav20) (by simp only [List.getElem?_toArray, List.getElem?_cons_zero, List.getElem?_cons_succ]; rfl) (by kernel_rfl) (by kernel_rfl) (by kernel_rfl) (fun _ _ _ h => h) (Or.inl ⟨by rfl, ?xbyah20⟩) hHeld0 ?xbyaq20
                  case xbyah20 => (intro w hSw; (try dsimp only at hSw); go_simp <;> with_reducible rfl)
                  try simp only [Act.put, List.setIfInBounds_toArray, List.set_cons_zero, List.set_cons_succ]
                  refine wpAnyH_take (i := 20) (v := ?xbyav21) (by simp only [List.getElem?_toArray, List.getElem?_cons_zero, List.getElem?_cons_succ]; rfl) (by kernel_rfl) (by kernel_rfl) (by kernel_rfl) (fun _ _ _ h => h) (Or.inl ⟨by rfl, ?xbyah21⟩) hHeld0 ?xbyaq21
                  case xbyah21 => (intro w hSw; (try dsimp only at hSw); go_simp <;> with_reducible rfl)
                  try simp only [Act.put, List.setIfInBounds_toArray, List.set_cons_zero, List.set_cons_succ]
                  refine wpAnyH_take (i := 21) (v := ?xbyav22) (by simp only [List.getElem?_toArray, List.getElem?_cons_zero, List.getElem?_cons_succ]; rfl) (by kernel_rfl) (by kernel_rfl) (by kernel_rfl) (fun _ _ _ h => h) (Or.inl ⟨by rfl, ?xbyah22⟩) hHeld0 ?xbyaq22
                  case xbyah22 => (intro w hSw; (try dsimp only at hSw); go_simp <;> with_reducible rfl)
                  try simp only [Act.put, List.setIfInBounds_toArray, List.set_cons_zero, List.set_cons_succ]
                  refine wpAnyH_take (i := 22) (v := ?xbyav23) (by simp only [List.getElem?_toArray, List.getElem?_cons_zero, List.getElem?_cons_succ]; rfl) (by kernel_rfl) (by kernel_rfl) (by kernel_rfl) (fun _ _ _ h => h) (Or.inl ⟨by rfl, ?xbyah23⟩) hHeld0 ?xbyaq23
                  case xbyah23 => (intro w hSw; (try dsimp only at hSw); go_simp <;> with_reducible rfl)
                  try simp only [Act.put, List.setIfInBounds_toArray, List.set_cons_zero, List.set_cons_succ]
                  refine wpAnyH_take (i := 23) (v := ?xbyav24) (by simp only [List.getElem?_toArray, List.getElem?_cons_zero, List.getElem?_cons_succ]; rfl) (by kernel_rfl) (by kernel_rfl) (by kernel_rfl) (fun _ _ _ h => h) (Or.inl ⟨by rfl, ?xbyah24⟩) hHeld0 ?xbyaq24
                  case xbyah24 => (intro w hSw; (try dsimp only at hSw); go_simp <;> with_reducible rfl)
                  try simp only [Act.put, List.setIfInBounds_toArray, List.set_cons_zero, List.set_cons_succ]
                  refine wpAnyH_take (i := 24) (v := ?xbyav25) (by simp only [List.getElem?_toArray, List.getElem?_cons_zero, List.getElem?_cons_succ]; rfl) (by kernel_rfl) (by kernel_rfl) (by kernel_rfl) (fun _ _ _ h => h) (Or.inl ⟨by rfl, ?xbyah25⟩) hHeld0 ?xbyaq25
                  case xbyah25 => (intro w hSw; (try dsimp only at hSw); go_simp <;> with_reducible rfl)
                  try simp only [Act.put, List.setIfInBounds_toArray, List.set_cons_zero, List.set_cons_succ]
                  refine wpAnyH_take (i := 25) (v := ?xbyav26) (by simp only [List.getElem?_toArray, List.getElem?_cons_zero, List.getElem?_cons_succ]; rfl) (by kernel_rfl) (by kernel_rfl) (by kernel_rfl) (fun _ _ _ h => h) (Or.inl ⟨by rfl, ?xbyah26⟩) hHeld0 ?xbyaq26
                  case xbyah26 => (intro w hSw; (try dsimp only at hSw); go_simp <;> with_reducible rfl)
                  try simp only [Act.put, List.setIfInBounds_toArray, List.set_cons_zero, List.set_cons_succ]
                  refine wpAnyH_take (i := 26) (v := ?xbyav27) (by simp only [List.getElem?_toArray, List.getElem?_cons_zero, List.getElem?_cons_succ]; rfl) (by kernel_rfl) (by kernel_rfl) (by kernel_rfl) (fun _ _ _ h => h) (Or.inl ⟨by rfl, ?xbyah27⟩) hHeld0 ?xbyaq27
                  case xbyah27 => (intro w hSw; (try dsimp only at hSw); go_simp <;> with_reducible rfl)
                  try simp only [Act.put, List.setIfInBounds_toArray, List.set_cons_zero, List.set_cons_succ]
                  refine wpAnyH_take (i := 27) (v := ?xbyav28) (by simp only [List.getElem?_toArray, List.getElem?_cons_zero, List.getElem?_cons_succ]; rfl) (by kernel_rfl) (by kernel_rfl) (by kernel_rfl) (fun _ _ _ h => h) (Or.inl ⟨by rfl, ?xbyah28⟩) hHeld0 ?xbyaq28
                  case xbyah28 => (intro w hSw; (try dsimp only at hSw); go_simp <;> with_reducible rfl)
                  try simp only [Act.put, List.setIfInBounds_toArray, List.set_cons_zero, List.set_cons_succ]
                  refine wpAnyH_take (i := 28) (v := ?xbyav29) (by simp only [List.getElem?_toArray, List.getElem?_cons_zero, List.getElem?_cons_succ]; rfl) (by kernel_rfl) (by kernel_rfl) (by kernel_rfl) (fun _ _ _ h => h) (Or.inl ⟨by rfl, ?xbyah29⟩) hHeld0 ?xbyaq29
                  case xbyah29 => (intro w hSw; (try dsimp only at hSw); go_simp <;> with_reducible rfl)
                  try simp only [Act.put, List.setIfInBounds_toArray, List.set_cons_zero, List.set_cons_succ]
                  refine wpAnyH_take (i := 29) (v := ?xbyav30) (by simp only [List.getElem?_toArray, List.getElem?_cons_zero, List.getElem?_cons_succ]; rfl) (by kernel_rfl) (by kernel_rfl) (by kernel_rfl) (fun _ _ _ h => h) (Or.inl ⟨by rfl, ?xbyah30⟩) hHeld0 ?xbyaq30
                  case xbyah30 => (intro w hSw; (try dsimp only at hSw); go_simp <;> with_reducible rfl)
                  try simp only [Act.put, List.setIfInBounds_toArray, List.set_cons_zero, List.set_cons_succ]
                  refine wpAnyH_take (i := 30) (v := ?xbyav31) (by simp only [List.getElem?_toArray, List.getElem?_cons_zero, List.getElem?_cons_succ]; rfl) (by kernel_rfl) (by kernel_rfl) (by kernel_rfl) (fun _ _ _ h => h) (Or.inl ⟨by rfl, ?xbyah31⟩) hHeld0 ?xbyaq31
                  case xbyah31 => (intro w hSw; (try dsimp only at hSw); go_simp <;> with_reducible rfl)
                  try simp only [Act.put, List.setIfInBounds_toArray, List.set_cons_zero, List.set_cons_succ]
                  refine wpAnyH_take (i := 31) (v := ?xbyav32) (by simp only [List.getElem?_toArray, List.getElem?_cons_zero, List.getElem?_cons_succ]; rfl) (by kernel_rfl) (by kernel_rfl) (by kernel_rfl) (fun _ _ _ h => h) (Or.inl ⟨by rfl, ?xbyah32⟩) hHeld0 ?xbyaq32
                  case xbyah32 => (intro w hSw; (try dsimp only at hSw); go_simp <;> with_reducible rfl)
                  try simp only [Act.put, List.setIfInBounds_toArray, List.set_cons_zero, List.set_cons_succ]
                  refine wpAnyH_take (i := 32) (v := ?xbyav33) (by simp only [List.getElem?_toArray, List.getElem?_cons_zero, List.getElem?_cons_succ]; rfl) (by kernel_rfl) (by kernel_rfl) (by kernel_rfl) (fun _ _ _ h => h) (Or.inl ⟨by rfl, ?xbyah33⟩) hHeld0 ?xbyaq33
                  case xbyah33 => (intro w hSw; (try dsimp only at hSw); go_simp <;> with_reducible rfl)
                  try simp only [Act.put, List.setIfInBounds_toArray, List.set_cons_zero, List.set_cons_succ]
                  refine wpAnyH_take (i := 33) (v := ?xbyav34) (by simp only [List.getElem?_toArray, List.getElem?_cons_zero, List.getElem?_cons_succ]; rfl) (by kernel_rfl) (by kernel_rfl) (by kernel_rfl) (fun _ _ _ h => h) (Or.inl ⟨by rfl, ?xbyah34⟩) hHeld0 ?xbyaq34
                  case xbyah34 => (intro w hSw; (try dsimp only at hSw); go_simp <;> with_reducible rfl)
                  try simp only [Act.put, List.setIfInBounds_toArray, List.set_cons_zero, List.set_cons_succ]
                  refine wpAnyH_take (i := 34) (v := ?xbyav35) (by simp only [List.getElem?_toArray, List.getElem?_cons_zero, List.getElem?_cons_succ]; rfl) (by kernel_rfl) (by kernel_rfl) (by kernel_rfl) (fun _ _ _ h => h) (Or.inl ⟨by rfl, ?xbyah35⟩) hHeld0 ?xbyaq35
                  case xbyah35 => (intro w hSw; (try dsimp only at hSw); go_simp <;> with_reducible rfl)
                  try simp only [Act.put, List.setIfInBounds_toArray, List.set_cons_zero, List.set_cons_succ]
                  refine wpAnyH_take (i := 35) (v := ?xbyav36) (by simp only [List.getElem?_toArray, List.getElem?_cons_zero, List.getElem?_cons_succ]; rfl) (by kernel_rfl) (by kernel_rfl) (by kernel_rfl) (fun _ _ _ h => h) (Or.inl ⟨by rfl, ?xbyah36⟩) hHeld0 ?xbyaq36
                  case xbyah36 => (intro w hSw; (try dsimp only at hSw); go_simp <;> with_reducible rfl)
                  try simp only [Act.put, List.setIfInBounds_toArray, List.set_cons_zero, List.set_cons_succ]
                  refine wpAnyH_take (i := 36) (v := ?xbyav37) (by simp only [List.getElem?_toArray, List.getElem?_cons_zero, List.getElem?_cons_succ]; rfl) (by kernel_rfl) (by kernel_rfl) (by kernel_rfl) (fun _ _ _ h => h) (Or.inl ⟨by rfl, ?xbyah37⟩) hHeld0 ?xbyaq37
                  case xbyah37 => (intro w hSw; (try dsimp only at hSw); go_simp <;> with_reducible rfl)
                  try simp only [Act.put, List.setIfInBounds_toArray, List.set_cons_zero, List.set_cons_succ]
                  refine wpAnyH_take (i := 37) (v := ?xbyav38) (by simp only [List.getElem?_toArray, List.getElem?_cons_zero, List.getElem?_cons_succ]; rfl) (by kernel_rfl) (by kernel_rfl) (by kernel_rfl) (fun _ _ _ h => h) (Or.inl ⟨by rfl, ?xbyah38⟩) hHeld0 ?xbyaq38
                  case xbyah38 => (intro w hSw; (try dsimp only at hSw); go_simp <;> with_reducible rfl)
                  try simp only [Act.put, List.setIfInBounds_toArray, List.set_cons_zero, List.set_cons_succ]
                  refine wpAnyH_take (i := 38) (v := ?xbyav39) (by simp only [List.getElem?_toArray, List.getElem?_cons_zero, List.getElem?_cons_succ]; rfl) (by kernel_rfl) (by kernel_rfl) (by kernel_rfl) (fun _ _ _ h => h) (Or.inl ⟨by rfl, ?xbyah39⟩) hHeld0 ?xbyaq39
                  case xbyah39 => (intro w hSw; (try dsimp only at hSw); go_simp <;> with_reducible rfl)
                  try simp only [Act.put, List.setIfInBounds_toArray, List.set_cons_zero, List.set_cons_succ]
                  refine wpAnyH_ready (rs := [39]) (by kernel_rfl) (by simp) ?_
                  refine AllReadyH.cons (by simp only [List.getElem?_toArray, List.getElem?_cons_zero, List.getElem?_cons_succ]; rfl) (fun K hK => ?_) AllReadyH.nil
                  go_simp
                  go_at_call 15
                  refine (sameC_any (some zad) (some zad) zc zc l wr.drew HZR.out HZR.out).mono ?_
                  rintro e w7 ⟨rfl, hB7⟩
                  have p0 := pw_cell_below hB7 e0
                  have p1 := pw_cell_below hB7 e2
                  have p2 := pw_cell_below hB7 e3
                  have p3 := pw_cell_below hB7 e4
                  have p4 := pw_cell_below hB7 e5
                  have HB7 := Lib.hid (HBI.out.drew.trans (hB7.mono HBI.out.size))
                  clear hB7
                  refine hK.out _ _ ?xbyas40 (fun hHeld1 => ?xbyaq40)
                  case xbyas40 => (try dsimp only); exact ⟨p0, p1, p2, p3, p4⟩
                  clear hK K
                  try simp only [Act.put, List.setIfInBounds_toArray, List.set_cons_zero, List.set_cons_succ]
                  refine wpAnyH_take (i := 40) (v := ?xbyav41) (by simp only [List.getElem?_toArray, List.getElem?_cons_zero, List.getElem?_cons_succ]; rfl) (by kernel_rfl) (by kernel_rfl) (by kernel_rfl) (fun _ _ _ h => h) (Or.inl ⟨by rfl, ?xbyah41⟩) hHeld1 ?xbyaq41
                  case xbyah41 => (intro w hSw; (try dsimp only at hSw); go_simp <;> with_reducible rfl)
                  try simp only [Act.put, List.setIfInBounds_toArray, List.set_cons_zero, List.set_cons_succ]
                  refine wpAnyH_take (i := 41) (v := ?xbyav42) (by simp only [List.getElem?_toArray, List.getElem?_cons_zero, List.getElem?_cons_succ]; rfl) (by kernel_rfl) (by kernel_rfl) (by kernel_rfl) (fun _ _ _ h => h) (Or.inl ⟨by rfl, ?xbyah42⟩) hHeld1 ?xbyaq42
                  case xbyah42 => (intro w hSw; (try dsimp only at hSw); go_simp <;> with_reducible rfl)
                  try simp only [Act.put, List.setIfInBounds_toArray, List.set_cons_zero, List.set_cons_succ]
                  refine wpAnyH_done (by kernel_rfl) ?_ _
                  refine NoPanic.normal ?_
                  go_wp2_with (go_at_call 16; refine (fence_any _ w7 base F b xs x (HG.out.below (HBA.out.trans (HB7.out.mono HBA.out.size))) (HGA.out.below HB7.out) HX.out).mono ?_; rintro e w8 ⟨rfl, hB8⟩; rw [← HFE.out]; have HB8 := Lib.hid (HB7.out.trans (hB8.mono HB7.out.size)); clear hB8)
                  exact ⟨⟨i + 1, by omega, by simp, HB8.out⟩, by simp [intOf]; omega⟩
                · have hgt : ¬ ((0 : Int) < (i : Int)) := by omega
                  have hgtd : decide ((0 : Int) < (i : Int)) = false := decide_eq_false hgt
                  have hgtn : decide (0 < i) = false := decide_eq_false (by omega)
                  have hgtn2 : ¬ (0 < i) := by omega
                  clear hip
                  go_wp2_with fail
                  refine wp_region_noPanic ?_
                  refine wp_region_held_drew (S := (fun w' => w'.cell? ⟨g, i * 5, none⟩ = some (.int .i64 ((i : Int) + 1)) ∧ w'.cell? ⟨g, i * 5 + 2, none⟩ = some (.int .i64 bb) ∧ w'.cell? ⟨g, i * 5 + 3, none⟩ = some (.slice none 0 0) ∧ w'.cell? ⟨g, i * 5 + 4, none⟩ = some (.slice (some zad) l.length zc))) (by kernel_rfl) ?xbybs0 (fun hHeld0 => ?xbybr0)
                  case xbybs0 => (try dsimp only); exact ⟨e0, e2, e3, e4⟩
                  refine wpAnyH_take (i := 0) (v := ?xbybv1) (by simp only [List.getElem?_toArray, List.getElem?_cons_zero, List.getElem?_cons_succ]; rfl) (by kernel_rfl) (by kernel_rfl) (by kernel_rfl) (fun _ _ _ h => h) (Or.inl ⟨by rfl, ?xbybh1⟩) hHeld0 ?xbybq1
                  case xbybh1 => (intro w hSw; (try dsimp only at hSw); go_simp <;> with_reducible rfl)
                  try simp only [Act.put, List.setIfInBounds_toArray, List.set_cons_zero, List.set_cons_succ]
                  refine wpAnyH_take (i := 1) (v := ?xbybv2) (by simp only [List.getElem?_toArray, List.getElem?_cons_zero, List.getElem?_cons_succ]; rfl) (by kernel_rfl) (by kernel_rfl) (by kernel_rfl) (fun _ _ _ h => h) (Or.inl ⟨by rfl, ?xbybh2⟩) hHeld0 ?xbybq2
                  case xbybh2 => (intro w hSw; (try dsimp only at hSw); go_simp <;> with_reducible rfl)
                  try simp only [Act.put, List.setIfInBounds_toArray, List.set_cons_zero, List.set_cons_succ]
                  refine wpAnyH_take (i := 2) (v := ?xbybv3) (by simp only [List.getElem?_toArray, List.getElem?_cons_zero, List.getElem?_cons_succ]; rfl) (by kernel_rfl) (by kernel_rfl) (by kernel_rfl) (fun _ _ _ h => h) (Or.inl ⟨by rfl, ?xbybh3⟩) hHeld0 ?xbybq3
                  case xbybh3 => (intro w hSw; (try dsimp only at hSw); go_simp <;> with_reducible rfl)
                  try simp only [Act.put, List.setIfInBounds_toArray, List.set_cons_zero, List.set_cons_succ]
                  refine wpAnyH_take (i := 3) (v := ?xbybv4) (by simp only [List.getElem?_toArray, List.getElem?_cons_zero, List.getElem?_cons_succ]; rfl) (by kernel_rfl) (by kernel_rfl) (by kernel_rfl) (fun _ _ _ h => h) (Or.inl ⟨by rfl, ?xbybh4⟩) hHeld0 ?xbybq4
                  case xbybh4 => (intro w hSw; (try dsimp only at hSw); go_simp <;> with_reducible rfl)
                  try simp only [Act.put, List.setIfInBounds_toArray, List.set_cons_zero, List.set_cons_succ]
                  refine wpAnyH_take (i := 4) (v := ?xbybv5) (by simp only [List.getElem?_toArray, List.getElem?_cons_zero, List.getElem?_cons_succ]; rfl) (by kernel_rfl) (by kernel_rfl) (by kernel_rfl) (fun _ _ _ h => h) (Or.inl ⟨by rfl, ?xbybh5⟩) hHeld0 ?xbybq5
                  case xbybh5 => (intro w hSw; (try dsimp only at hSw); go_simp <;> with_reducible rfl)
                  try simp only [Act.put, List.setIfInBounds_toArray, List.set_cons_zero, List.set_cons_succ]
                  refine wpAnyH_take (i := 5) (v := ?xbybv6) (by simp only [List.getElem?_toArray, List.getElem?_cons_zero, List.getElem?_cons_succ]; rfl) (by kernel_rfl) (by kernel_rfl) (by kernel_rfl) (fun _ _ _ h => h) (Or.inl ⟨by rfl, ?xbybh6⟩) hHeld0 ?xbybq6
                  case xbybh6 => (intro w hSw; (try dsimp only at hSw); go_simp <;> with_reducible rfl)
                  try simp only [Act.put, List.setIfInBounds_toArray, List.set_cons_zero, List.set_cons_succ]
                  refine wpAnyH_take (i := 6) (v := ?xbybv7) (by simp only [List.getElem?_toArray, List.getElem?_cons_zero, List.getElem?_cons_succ]; rfl) (by kernel_rfl) (by kernel_rfl) (by kernel_rfl) (fun _ _ _ h => h) (Or.inl ⟨by rfl, ?xbybh7⟩) hHeld0 ?xbybq7
                  case xbybh7 => (intro w hSw; (try dsimp only at hSw); go_simp <;> with_reducible rfl)
                  try simp only [Act.put, List.setIfInBounds_toArray, List.set_cons_zero, List.set_cons_succ]
                  refine wpAnyH_take (i := 7) (v := ?xbybv8) (by simp only [List.getElem?_toArray, List.getElem?_cons_zero, List.getElem?_cons_succ]; rfl) (by kernel_rfl) (by kernel_rfl) (by kernel_rfl) (fun _ _ _ h => h) (Or.inl ⟨by rfl, ?xbybh8⟩) hHeld0 ?xbybq8
                  case xbybh8 => (intro w hSw; (try dsimp only at hSw); go_simp <;> with_reducible rfl)
                  try simp only [Act.put, List.setIfInBounds_toArray, List.set_cons_zero, List.set_cons_succ]
                  refine wpAnyH_take (i := 8) (v := ?xbybv9) (by simp only [List.getElem?_toArray, List.getElem?_cons_zero, List.getElem?_cons_succ]; rfl) (by kernel_rfl) (by kernel_rfl) (by kernel_rfl) (fun _ _ _ h => h) (Or.inl ⟨by rfl, ?xbybh9⟩) hHeld0 ?xbybq9
                  case xbybh9 => (intro w hSw; (try dsimp only at hSw); go_simp <;> with_reducible rfl)
                  try simp only [Act.put, List.setIfInBounds_toArray, List.set_cons_zero, List.set_cons_succ]
                  refine wpAnyH_take (i := 9) (v := ?xbybv10) (by simp only [List.getElem?_toArray, List.getElem?_cons_zero, List.getElem?_cons_succ]; rfl) (by kernel_rfl) (by kernel_rfl) (by kernel_rfl) (fun _ _ _ h => h) (Or.inl ⟨by rfl, ?xbybh10⟩) hHeld0 ?xbybq10
                  case xbybh10 => (intro w hSw; (try dsimp only at hSw); go_simp <;> with_reducible rfl)
                  try simp only [Act.put, List.setIfInBounds_toArray, List.set_cons_zero, List.set_cons_succ]
                  refine wpAnyH_take (i := 10) (v := ?xbybv11) (by simp only [List.getElem?_toArray, List.getElem?_cons_zero, List.getElem?_cons_succ]; rfl) (by kernel_rfl) (by kernel_rfl) (by kernel_rfl) (fun _ _ _ h => h) (Or.inl ⟨by rfl, ?xbybh11⟩) hHeld0 ?xbybq11
                  case xbybh11 => (intro w hSw; (try dsimp only at hSw); go_simp <;> with_reducible rfl)
                  try simp only [Act.put, List.setIfInBounds_toArray, List.set_cons_zero, List.set_cons_succ]
                  refine wpAnyH_take (i := 11) (v := ?xbybv12) (by simp only [List.getElem?_toArray, List.getElem?_cons_zero, List.getElem?_cons_succ]; rfl) (by kernel_rfl) (by kernel_rfl) (by kernel_rfl) (fun _ _ _ h => h) (Or.inl ⟨by rfl, ?xbybh12⟩) hHeld0 ?xbybq12
                  case xbybh12 => (intro w hSw; (try dsimp only at hSw); go_simp <;> with_reducible rfl)
                  try simp only [Act.put, List.setIfInBounds_toArray, List.set_cons_zero, List.set_cons_succ]
                  refine wpAnyH_take (i := 12) (v := undef) (by simp only [List.getElem?_toArray, List.getElem?_cons_zero, List.getElem?_cons_succ]; rfl) (by kernel_rfl) (by kernel_rfl) (by kernel_rfl) (fun _ _ _ h => h) (Or.inr ⟨by rfl, rfl⟩) hHeld0 ?xbybq13
                  try simp only [Act.put, List.setIfInBounds_toArray, List.set_cons_zero, List.set_cons_succ]
                  refine wpAnyH_take (i := 13) (v := undef) (by simp only [List.getElem?_toArray, List.getElem?_cons_zero, List.getElem?_cons_succ]; rfl) (by kernel_rfl) (by kernel_rfl) (by kernel_rfl) (fun _ _ _ h => h) (Or.inr ⟨by rfl, rfl⟩) hHeld0 ?xbybq14
                  try simp only [Act.put, List.setIfInBounds_toArray, List.set_cons_zero, List.set_cons_succ]
                  refine wpAnyH_take (i := 14) (v := undef) (by simp only [List.getElem?_toArray, List.getElem?_cons_zero, List.getElem?_cons_succ]; rfl) (by kernel_rfl) (by kernel_rfl) (by kernel_rfl) (fun _ _ _ h => h) (Or.inr ⟨by rfl, rfl⟩) hHeld0 ?xbybq15
                  try simp only [Act.put, List.setIfInBounds_toArray, List.set_cons_zero, List.set_cons_succ]
                  refine wpAnyH_take (i := 15) (v := undef) (by simp only [List.getElem?_toArray, List.getElem?_cons_zero, List.getElem?_cons_succ]; rfl) (by kernel_rfl) (by kernel_rfl) (by kernel_rfl) (fun _ _ _ h => h) (Or.inr ⟨by rfl, rfl⟩) hHeld0 ?xbybq16
                  try simp only [Act.put, List.setIfInBounds_toArray, List.set_cons_zero, List.set_cons_succ]
                  refine wpAnyH_take (i := 16) (v := undef) (by simp only [List.getElem?_toArray, List.getElem?_cons_zero, List.getElem?_cons_succ]; rfl) (by kernel_rfl) (by kernel_rfl) (by kernel_rfl) (fun _ _ _ h => h) (Or.inr ⟨by rfl, rfl⟩) hHeld0 ?xbybq17
                  try simp only [Act.put, List.setIfInBounds_toArray, List.set_cons_zero, List.set_cons_succ]
                  refine wpAnyH_take (i := 17) (v := undef) (by simp only [List.getElem?_toArray, List.getElem?_cons_zero, List.getElem?_cons_succ]; rfl) (by kernel_rfl) (by kernel_rfl) (by kernel_rfl) (fun _ _ _ h => h) (Or.inr ⟨by rfl, rfl⟩) hHeld0 ?xbybq18
                  try simp only [Act.put, List.setIfInBounds_toArray, List.set_cons_zero, List.set_cons_succ]
                  refine wpAnyH_take (i := 18) (v := undef) (by simp only [List.getElem?_toArray, List.getElem?_cons_zero, List.getElem?_cons_succ]; rfl) (by kernel_rfl) (by kernel_rfl) (by kernel_rfl) (fun _ _ _ h => h) (Or.inr ⟨by rfl, rfl⟩) hHeld0 ?xbybq19
                  try simp only [Act.put, List.setIfInBounds_toArray, List.set_cons_zero, List.set_cons_succ]
                  refine wpAnyH_take (i := 19) (v := undef) (by simp only [List.getElem?_toArray, List.getElem?_cons_zero, List.getElem?_cons_succ]; rfl) (by kernel_rfl) (by kernel_rfl) (by kernel_rfl) (fun _ _ _ h => h) (Or.inr ⟨by rfl, rfl⟩) hHeld0 ?xbybq20
                  try simp only [Act.put, List.setIfInBounds_toArray, List.set_cons_zero, List.set_cons_succ]
                  refine wpAnyH_take (i := 20) (v := undef) (by simp only [List.getElem?_toArray, List.getElem?_cons_zero, List.getElem?_cons_succ]; rfl) (by kernel_rfl) (by kernel_rfl) (by kernel_rfl) (fun _ _ _ h => h) (Or.inr ⟨by rfl, rfl⟩) hHeld0 ?xbybq21
                  try simp only [Act.put, List.setIfInBounds_toArray, List.set_cons_zero, List.set_cons_succ]
                  refine wpAnyH_take (i := 21) (v := undef) (by simp only [List.getElem?_toArray, List.getElem?_cons_zero, List.getElem?_cons_succ]; rfl) (by kernel_rfl) (by kernel_rfl) (by kernel_rfl) (fun _ _ _ h => h) (Or.inr ⟨by rfl, rfl⟩) hHeld0 ?xbybq22
                  try simp only [Act.put, List.setIfInBounds_toArray, List.set_cons_zero, List.set_cons_succ]
                  refine wpAnyH_take (i := 22) (v := undef) (by simp only [List.getElem?_toArray, List.getElem?_cons_zero, List.getElem?_cons_succ]; rfl) (by kernel_rfl) (by kernel_rfl) (by kernel_rfl) (fun _ _ _ h => h) (Or.inr ⟨by rfl, rfl⟩) hHeld0 ?xbybq23
                  try simp only [Act.put, List.setIfInBounds_toArray, List.set_cons_zero, List.set_cons_succ]
                  refine wpAnyH_take (i := 23) (v := undef) (by simp only [List.getElem?_toArray, List.getElem?_cons_zero, List.getElem?_cons_succ]; rfl) (by kernel_rfl) (by kernel_rfl) (by kernel_rfl) (fun _ _ _ h => h) (Or.inr ⟨by rfl, rfl⟩) hHeld0 ?xbybq24
                  try simp only [Act.put, List.setIfInBounds_toArray, List.set_cons_zero, List.set_cons_succ]
                  refine wpAnyH_take (i := 24) (v := ?xbybv25) (by simp only [List.getElem?_toArray, List.getElem?_cons_zero, List.getElem?_cons_succ]; rfl) (by kernel_rfl) (by kernel_rfl) (by kernel_rfl) (fun _ _ _ h => h) (Or.inl ⟨by rfl, ?xbybh25⟩) hHeld0 ?xbybq25
                  case xbybh25 => (intro w hSw; (try dsimp only at hSw); go_simp <;> with_reducible rfl)
                  try simp only [Act.put, List.setIfInBounds_toArray, List.set_cons_zero, List.set_cons_succ]
                  refine wpAnyH_take (i := 25) (v := ?xbybv26) (by simp only [List.getElem?_toArray, List.getElem?_cons_zero, List.getElem?_cons_succ]; rfl) (by kernel_rfl) (by kernel_rfl) (by kernel_rfl) (fun _ _ _ h => h) (Or.inl ⟨by rfl, ?xbybh26⟩) hHeld0 ?xbybq26
                  case xbybh26 => (intro w hSw; (try dsimp only at hSw); go_simp <;> with_reducible rfl)
                  try simp only [Act.put, List.setIfInBounds_toArray, List.set_cons_zero, List.set_cons_succ]
                  refine wpAnyH_take (i := 26) (v := ?xbybv27) (by simp only [List.getElem?_toArray, List.getElem?_cons_zero, List.getElem?_cons_succ]; rfl) (by kernel_rfl) (by kernel_rfl) (by kernel_rfl) (fun _ _ _ h => h) (Or.inl ⟨by rfl, ?xbybh27⟩) hHeld0 ?xbybq27
                  case xbybh27 => (intro w hSw; (try dsimp only at hSw); go_simp <;> with_reducible rfl)
                  try simp only [Act.put, List.setIfInBounds_toArray, List.set_cons_zero, List.set_cons_succ]
                  refine wpAnyH_take (i := 27) (v := ?xbybv28) (by simp only [List.getElem?_toArray, List.getElem?_cons_zero, List.getElem?_cons_succ]; rfl) (by kernel_rfl) (by kernel_rfl) (by kernel_rfl) (fun _ _ _ h => h) (Or.inl ⟨by rfl, ?xbybh28⟩) hHeld0 ?xbybq28
                  case xbybh28 => (intro w hSw; (try dsimp only at hSw); go_simp <;> with_reducible rfl)
                  try simp only [Act.put, List.setIfInBounds_toArray, List.set_cons_zero, List.set_cons_succ]
                  refine wpAnyH_take (i := 28) (v := ?xbybv29) (by simp only [List.getElem?_toArray, List.getElem?_cons_zero, List.getElem?_cons_succ]; rfl) (by kernel_rfl) (by kernel_rfl) (by kernel_rfl) (fun _ _ _ h => h) (Or.inl ⟨by rfl, ?xbybh29⟩) hHeld0 ?xbybq29
                  case xbybh29 => (intro w hSw; (try dsimp only at hSw); go_simp <;> with_reducible rfl)
                  try simp only [Act.put, List.setIfInBounds_toArray, List.set_cons_zero, List.set_cons_succ]
                  refine wpAnyH_take (i := 29) (v := ?xbybv30) (by simp only [List.getElem?_toArray, List.getElem?_cons_zero, List.getElem?_cons_succ]; rfl) (by kernel_rfl) (by kernel_rfl) (by kernel_rfl) (fun _ _ _ h => h) (Or.inl ⟨by rfl, ?xbybh30⟩) hHeld0 ?xbybq30
                  case xbybh30 => (intro w hSw; (try dsimp only at hSw); go_simp <;> with_reducible rfl)
                  try simp only [Act.put, List.setIfInBounds_toArray, List.set_cons_zero, List.set_cons_succ]
                  refine wpAnyH_take (i := 30) (v := ?xbybv31) (by simp only [List.getElem?_toArray, List.getElem?_cons_zero, List.getElem?_cons_succ]; rfl) (by kernel_rfl) (by kernel_rfl) (by kernel_rfl) (fun _ _ _ h => h) (Or.inl ⟨by rfl, ?xbybh31⟩) hHeld0 ?xbybq31
                  case xbybh31 => (intro w hSw; (try dsimp only at hSw); go_simp <;> with_reducible rfl)
                  try simp only [Act.put, List.setIfInBounds_toArray, List.set_cons_zero, List.set_cons_succ]
                  refine wpAnyH_take (i := 31) (v := ?xbybv32) (by simp only [List.getElem?_toArray, List.getElem?_cons_zero, List.getElem?_cons_succ]; rfl) (by kernel_rfl) (by kernel_rfl) (by kernel_rfl) (fun _ _ _ h => h) (Or.inl ⟨by rfl, ?xbybh32⟩) hHeld0 ?xbybq32
                  case xbybh32 => (intro w hSw; (try dsimp only at hSw); go_simp <;> with_reducible rfl)
                  try simp only [Act.put, List.setIfInBounds_toArray, List.set_cons_zero, List.set_cons_succ]
                  refine wpAnyH_take (i := 32) (v := ?xbybv33) (by simp only [List.getElem?_toArray, List.getElem?_cons_zero, List.getElem?_cons_succ]; rfl) (by kernel_rfl) (by kernel_rfl) (by kernel_rfl) (fun _ _ _ h => h) (Or.inl ⟨by rfl, ?xbybh33⟩) hHeld0 ?xbybq33
                  case xbybh33 => (intro w hSw; (try dsimp only at hSw); go_simp <;> with_reducible rfl)
                  try simp only [Act.put, List.setIfInBounds_toArray, List.set_cons_zero, List.set_cons_succ]
                  refine wpAnyH_take (i := 33) (v := ?xbybv34) (by simp only [List.getElem?_toArray, List.getElem?_cons_zero, List.getElem?_cons_succ]; rfl) (by kernel_rfl) (by kernel_rfl) (by kernel_rfl) (fun _ _ _ h => h) (Or.inl ⟨by rfl, ?xbybh34⟩) hHeld0 ?xbybq34
                  case xbybh34 => (intro w hSw; (try dsimp only at hSw); go_simp <;> with_reducible rfl)
                  try simp only [Act.put, List.setIfInBounds_toArray, List.set_cons_zero, List.set_cons_succ]
                  refine wpAnyH_take (i := 34) (v := ?xbybv35) (by simp only [List.getElem?_toArray, List.getElem?_cons_zero, List.getElem?_cons_succ]; rfl) (by kernel_rfl) (by kernel_rfl) (by kernel_rfl) (fun _ _ _ h => h) (Or.inl ⟨by rfl, ?xbybh35⟩) hHeld0 ?xbybq35
                  case xbybh35 => (intro w hSw; (try dsimp only at hSw); go_simp <;> with_reducible rfl)
                  try simp only [Act.put, List.setIfInBounds_toArray, List.set_cons_zero, List.set_cons_succ]
                  refine wpAnyH_take (i := 35) (v := ?xbybv36) (by simp only [List.getElem?_toArray, List.getElem?_cons_zero, List.getElem?_cons_succ]; rfl) (by kernel_rfl) (by kernel_rfl) (by kernel_rfl) (fun _ _ _ h => h) (Or.inl ⟨by rfl, ?xbybh36⟩) hHeld0 ?xbybq36
                  case xbybh36 => (intro w hSw; (try dsimp only at hSw); go_simp <;> with_reducible rfl)
                  try simp only [Act.put, List.setIfInBounds_toArray, List.set_cons_zero, List.set_cons_succ]
                  refine wpAnyH_take (i := 36) (v := ?xbybv37) (by simp only [List.getElem?_toArray, List.getElem?_cons_zero, List.getElem?_cons_succ]; rfl) (by kernel_rfl) (by kernel_rfl) (by kernel_rfl) (fun _ _ _ h => h) (Or.inl ⟨by rfl, ?xbybh37⟩) hHeld0 ?xbybq37
                  case xbybh37 => (intro w hSw; (try dsimp only at hSw); go_simp <;> with_reducible rfl)
                  try simp only [Act.put, List.setIfInBounds_toArray, List.set_cons_zero, List.set_cons_succ]
                  refine wpAnyH_take (i := 37) (v := ?xbybv38) (by simp only [List.getElem?_toArray, List.getElem?_cons_zero, List.getElem?_cons_succ]; rfl) (by kernel_rfl) (by kernel_rfl) (by kernel_rfl) (fun _ _ _ h => h) (Or.inl ⟨by rfl, ?xbybh38⟩) hHeld0 ?xbybq38
                  case xbybh38 => (intro w hSw; (try dsimp only at hSw); go_simp <;> with_reducible rfl)
                  try simp only [Act.put, List.setIfInBounds_toArray, List.set_cons_zero, List.set_cons_succ]
                  refine wpAnyH_take (i := 38) (v := ?xbybv39) (by simp only [List.getElem?_toArray, List.getElem?_cons_zero, List.getElem?_cons_succ]; rfl) (by kernel_rfl) (by kernel_rfl) (by kernel_rfl) (fun _ _ _ h => h) (Or.inl ⟨by rfl, ?xbybh39⟩) hHeld0 ?xbybq39
                  case xbybh39 => (intro w hSw; (try dsimp only at hSw); go_simp <;> with_reducible rfl)
                  try simp only [Act.put, List.setIfInBounds_toArray, List.set_cons_zero, List.set_cons_succ]
                  refine wpAnyH_ready (rs := [39]) (by kernel_rfl) (by simp) ?_
                  refine AllReadyH.cons (by simp only [List.getElem?_toArray, List.getElem?_cons_zero, List.getElem?_cons_succ]; rfl) (fun K hK => ?_) AllReadyH.nil
                  go_simp
                  go_at_call 15
                  refine (sameC_any (some zad) (some zad) zc zc l wr.drew HZR.out HZR.out).mono ?_
                  rintro e w7 ⟨rfl, hB7⟩
                  have p0 := pw_cell_below hB7 e0
                  have p1 := pw_cell_below hB7 e2
                  have p2 := pw_cell_below hB7 e3
                  have p3 := pw_cell_below hB7 e4
                  have HB7 := Lib.hid (HBI.out.drew.trans (hB7.mono HBI.out.size))
                  clear hB7
                  refine hK.out _ _ ?xbybs40 (fun hHeld1 => ?xbybq40)
                  case xbybs40 => (try dsimp only); exact ⟨p0, p1, p2, p3⟩
                  clear hK K
                  try simp only [Act.put, List.setIfInBounds_toArray, List.set_cons_zero, List.set_cons_succ]
                  refine wpAnyH_take (i := 40) (v := ?xbybv41) (by simp only [List.getElem?_toArray, List.getElem?_cons_zero, List.getElem?_cons_succ]; rfl) (by kernel_rfl) (by kernel_rfl) (by kernel_rfl) (fun _ _ _ h => h) (Or.inl ⟨by rfl, ?xbybh41⟩) hHeld1 ?xbybq41
                  case xbybh41 => (intro w hSw; (try dsimp only at hSw); go_simp <;> with_reducible rfl)
                  try simp only [Act.put, List.setIfInBounds_toArray, List.set_cons_zero, List.set_cons_succ]
                  refine wpAnyH_take (i := 41) (v := ?xbybv42) (by simp only [List.getElem?_toArray, List.getElem?_cons_zero, List.getElem?_cons_succ]; rfl) (by kernel_rfl) (by kernel_rfl) (by kernel_rfl) (fun _ _ _ h => h) (Or.inl ⟨by rfl, ?xbybh42⟩) hHeld1 ?xbybq42
                  case xbybh42 => (intro w hSw; (try dsimp only at hSw); go_simp <;> with_reducible rfl)
                  try simp only [Act.put, List.setIfInBounds_toArray, List.set_cons_zero, List.set_cons_succ]
                  refine wpAnyH_done (by kernel_rfl) ?_ _
                  refine NoPanic.normal ?_
                  go_wp2_with (go_at_call 16; refine (fence_any _ w7 base F b xs x (HG.out.below (HBA.out.trans (HB7.out.mono HBA.out.size))) (HGA.out.below HB7.out) HX.out).mono ?_; rintro e w8 ⟨rfl, hB8⟩; rw [← HFE.out]; have HB8 := Lib.hid (HB7.out.trans (hB8.mono HB7.out.size)); clear hB8)
                  exact ⟨⟨i + 1, by omega, by simp, HB8.out⟩, by simp [intOf]; omega⟩
              · have hii2 : ¬ (i < m) := by omega
                have hd1 : fenceE x.g.n ((m : Int) + 1) = 2 := by have hmi := HMM.out.2.1; rw [HXN.out]; unfold fenceE; rw [if_neg (by omega), if_pos (by omega)]
                have hd0 : fenceE x.g.n 0 = 18 := by rw [HXN.out]; unfold fenceE; rw [if_pos (by omega)]
                have HD1 := Lib.hid hd1
                have HD0 := Lib.hid hd0
                have hno : ∀ y ∈ xs, 0 ≤ y.g.b := by
                  intro y hy
                  obtain ⟨j, hj⟩ := List.mem_iff_getElem?.1 hy
                  have := (HS.out.ok j y hj).2.1
                  omega
                have HNO := Lib.hid hno
                clear hd1 hd0 hno
                go_wp2_with (first
                  | (have h8 := HB8.out
                     go_at_call 16
                     refine (fence_any 0 w8 base F b xs x (HG.out.below (HBA.out.trans (HB8.out.mono HBA.out.size))) (HGA.out.below HB8.out) HX.out).mono ?_
                     rintro e w9 ⟨rfl, hB9⟩
                     rw [HD0.out]
                     have HB9 := Lib.hid (HB8.out.trans (hB9.mono HB8.out.size))
                     clear hB9 h8)
                  | (go_at_call 16
                     refine (fence_any ((m : Int) + 1) wr base F b xs x (HG.out.below (HBA.out.trans (HBI.out.mono HBA.out.size))) (HGA.out.below HBI.out) HX.out).mono ?_
                     rintro e w8 ⟨rfl, hB8⟩
                     rw [HD1.out]
                     have HB8 := Lib.hid (HBI.out.trans (hB8.mono HBI.out.size))
                     clear hB8)
                  | (go_at_call 13
                     refine (at_zero w9 base F b xs 0 (HGA.out.below HB9.out) (by have := HS.out.len; omega) (by have := HS.out.len; omega) (fun y hy => Int.not_lt.mpr (HNO.out y hy))).mono ?_
                     rintro e w10 ⟨rfl, hB10⟩
                     have HB10 := Lib.hid (HB9.out.trans (hB10.mono HB9.out.size))
                     clear hB10))
                go_ret
                exact ⟨rfl, HBA.out.trans (HB10.out.mono HBA.out.size)⟩
theorem idx_row (a0 : Option Addr) (cap0 : Nat) (l0 : List Int) (a1 : Int) (w : World) (hg : Laid w) (hr0 : ReadsInt w .i64 a0 l0.length l0) (_ : l0.length ≤ cap0) (_ : l0.length * 8 ≤ 140737488351232) (_ : ∀ x ∈ l0, (Lit.int .i64 x).wf = true) (w1 : (Lit.int .i64 a1).wf = true) :
    Calls Tryd.prog 3 #[.slice a0 l0.length cap0, .int .i64 a1] w fun e w' => e = .returned (.bool true) ∧ Below w.heap.size w w' := idx_any a0 cap0 l0 a1 w hg hr0
end Go.Proofs.YtjgdglbfnjjmmaaDoor
