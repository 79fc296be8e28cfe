/- The walk of ClientPlaces. -/
import Derived.Test.YtacbebkaammcnaaDoorAsksL
set_option linter.unusedVariables false
set_option linter.unusedSimpArgs false
namespace Go.Proofs.YtacbebkaammcnaaDoor
open Go.RowKit Go.Proofs.YtacbebkaammcnaaDoorW.PrintWords Go.Proofs.Mine

/-- A table that was filled by Put alone: places and numbers rise together. -/
structure Risen (s : TSt) : Prop where
  pl0 : ∀ c q, 0 ≤ plN s c q ∧ plN s c q ≤ s.l.length
  plq : ∀ c q, 0 < plN s c q → 1 ≤ q ∧ q ≤ grN s c
  rise : ∀ c q q', q < q' → 0 < plN s c q → 0 < plN s c q' → plN s c q < plN s c q'
  gr0 : ∀ c, 0 ≤ grN s c
theorem plN0 (c q : Int) : plN tab0 c q = 0 := rfl
theorem risen0 : Risen tab0 := ⟨fun _ _ => ⟨Int.le_refl 0, Int.le_refl 0⟩, fun c q h => by rw [plN0] at h; omega, fun c q _ _ h => by rw [plN0] at h; omega, fun _ => Int.le_refl 0⟩
theorem posOr (x : Int) : 0 < x ∨ x ≤ 0 := by omega
theorem Risen.put {s : TSt} {x : Ent} (h : Risen s) (hok : okPut s x = true) : Risen (putT s x) := by
  obtain ⟨_, hc, hq, hg⟩ := okPut_true hok
  have hl : ((putT s x).l.length : Int) = s.l.length + 1 := by simp [putT]
  refine ⟨fun c q => ?_, fun c q hp => ?_, fun c q q' hlt hp hp' => ?_, fun c => ?_⟩
  · rw [plN_put, hl]
    have := h.pl0 c q
    split <;> omega
  · rw [plN_put] at hp
    rw [grN_put]
    split at hp
    · rename_i he
      have h1 : c = x.c ∧ q = x.q := by simpa using he
      rw [if_pos h1.1, h1.2]; omega
    · have h1 := h.plq c q hp
      split
      · rename_i he; subst he; omega
      · exact h1
  · rw [plN_put] at hp hp' ⊢
    rw [plN_put]
    by_cases h1 : (c, q) = (x.c, x.q)
    · have h1' : c = x.c ∧ q = x.q := by simpa using h1
      by_cases h2 : (c, q') = (x.c, x.q)
      · have h2' : c = x.c ∧ q' = x.q := by simpa using h2
        omega
      · rw [if_neg h2] at hp'
        have := h.plq c q' hp'
        rw [h1'.1] at this
        omega
    · rw [if_neg h1] at hp ⊢
      by_cases h2 : (c, q') = (x.c, x.q)
      · rw [if_pos h2]
        have := (h.pl0 c q).2
        omega
      · rw [if_neg h2] at hp' ⊢
        exact h.rise c q q' hlt hp hp'
  · rw [grN_put]
    split
    · omega
    · exact h.gr0 c
theorem Risen.puts {s : TSt} {x : Ent} (h : Risen s) : Risen (putS s x) := by
  unfold putS
  cases hok : okPut s x
  · exact h
  · exact h.put hok
/-- The law's own array, of three clients and nineteen numbers. -/
structure PlacesR (s : TSt) (k : Nat) (ats : List Int) : Prop where
  len : ats.length = 80
  at_ : ∀ c j : Nat, 1 ≤ c → c ≤ 3 → 1 ≤ j → j < 20 → ats.getD (c * 20 + j) 0 = plN s c j
  few : s.l.length ≤ k
  ris : Risen s
theorem placesR0 : PlacesR tab0 0 (List.replicate 80 0) := by
  refine ⟨by simp, fun c j _ _ _ _ => ?_, by decide, risen0⟩
  rw [List.getD_eq_getElem?_getD, List.getElem?_replicate, if_pos (by omega)]; rfl
theorem okPut_kind {s : TSt} {kd c q : Int} (hk : kd = 1 ∨ kd = 2 ∨ kd = 3) (hc : 1 ≤ c) (hq : 1 ≤ q) : okPut s (e0 kd c q) = decide (grN s c < q) := by
  rcases hk with rfl | rfl | rfl <;> simp [okPut, e0, hc, hq] <;> rfl
theorem PlacesR.put {s : TSt} {k : Nat} {ats : List Int} {kd : Int} {c q : Nat} (h : PlacesR s k ats) (hk : kd = 1 ∨ kd = 2 ∨ kd = 3) (hc : 1 ≤ c) (hc3 : c ≤ 3) (hq : 1 ≤ q) (hq2 : q < 20) (hg : grN s c < q) :
    PlacesR (putS s (e0 kd c q)) (k + 1) (ats.set (c * 20 + q) ((s.l.length : Int) + 1)) ∧ (putS s (e0 kd c q)).l.length = s.l.length + 1 ∧ plN s c q = 0 := by
  have hok : okPut s (e0 kd c q) = true := by rw [okPut_kind hk (by omega) (by omega)]; simpa using hg
  have hp : putS s (e0 kd c q) = putT s (e0 kd c q) := by unfold putS; rw [hok]; rfl
  rw [hp]
  refine ⟨⟨by rw [List.length_set]; exact h.len, fun c' j h1 h2 h3 h4 => ?_, by simp [putT]; exact h.few, h.ris.put hok⟩, by simp [putT], ?_⟩
  · rw [plN_put]
    by_cases he : c' = c ∧ j = q
    · obtain ⟨rfl, rfl⟩ := he
      have : c' * 20 + j < ats.length := by rw [h.len]; omega
      simp [e0, List.getD_eq_getElem?_getD, this]
    · have hn : c * 20 + q ≠ c' * 20 + j := by omega
      rw [if_neg (by simp [e0]; omega), ← h.at_ c' j h1 h2 h3 h4]
      simp [List.getD_eq_getElem?_getD, List.getElem?_set, hn]
  · have h1 := (h.ris.pl0 c q).1
    rcases posOr (plN s c q) with h2 | h2
    · have := (h.ris.plq c q h2).2; omega
    · omega
theorem PlacesR.stay {s : TSt} {kd : Int} {c q : Nat} (hk : kd = 1 ∨ kd = 2 ∨ kd = 3) (hc : 1 ≤ c) (hq : 1 ≤ q) (hg : ¬ grN s c < q) : putS s (e0 kd c q) = s ∧ okPut s (e0 kd c q) = false := by
  have hok : okPut s (e0 kd c q) = false := by rw [okPut_kind hk (by omega) (by omega)]; simpa using hg
  exact ⟨by unfold putS; rw [hok]; rfl, hok⟩
/-- What is asked of a table so filled. -/
theorem ask_cases {s : TSt} (h : Risen s) {c q : Nat} (hc : 1 ≤ c) (hq : 1 ≤ q) :
    (0 < plN s c q ∧ askE s c q = 0 ∧ askN s c q = plN s c q) ∨ (plN s c q = 0 ∧ askE s c q = 19 ∧ askN s c q = 0) ∨ (plN s c q = 0 ∧ askE s c q = 2 ∧ askN s c q = 0) := by
  have h1 := (h.pl0 c q).1
  by_cases p1 : 0 < plN s c q
  · have : askE s c q = 0 := by unfold askE; rw [if_neg (by omega), if_pos p1]
    exact .inl ⟨p1, this, by unfold askN; rw [this]; rfl⟩
  · by_cases p2 : (q : Int) < grN s c
    · have : askE s c q = 19 := by unfold askE; rw [if_neg (by omega), if_neg p1, if_pos p2]
      exact .inr (.inl ⟨by omega, this, by unfold askN; rw [this]; rfl⟩)
    · have : askE s c q = 2 := by unfold askE; rw [if_neg (by omega), if_neg p1, if_neg p2]
      exact .inr (.inr ⟨by omega, this, by unfold askN; rw [this]; rfl⟩)
/-- The greatest place of a client's numbers below j. -/
def LastIs (s : TSt) (c : Nat) (j : Nat) (last : Int) : Prop := 0 ≤ last ∧ last ≤ s.l.length ∧ (∀ i : Nat, 1 ≤ i → i < j → plN s c i ≤ last) ∧ (last = 0 ∨ ∃ i : Nat, 1 ≤ i ∧ i < j ∧ last = plN s c i)
theorem lastIs1 (s : TSt) (c : Nat) : LastIs s c 1 0 := ⟨by omega, by omega, fun i h1 h2 => by omega, .inl rfl⟩
theorem LastIs.next {s : TSt} {c j : Nat} {last : Int} (h : LastIs s c j last) (hs : Risen s) (hj : 1 ≤ j) : LastIs s c (j + 1) (max last (plN s c j)) ∧ (0 < plN s c j → last < plN s c j) := by
  obtain ⟨h0, hl, h1, h2⟩ := h
  have hp := hs.pl0 c j
  have key : 0 < plN s c j → last < plN s c j := by
    intro hpos
    rcases h2 with rfl | ⟨i, hi1, hi2, rfl⟩
    · exact hpos
    · rcases posOr (plN s c i) with hq | hq
      · exact hs.rise c i j (by omega) hq hpos
      · omega
  refine ⟨⟨by omega, by omega, fun i hi1 hi2 => ?_, ?_⟩, key⟩
  · by_cases he : i = j
    · subst he; omega
    · have := h1 i hi1 (by omega); omega
  · rcases posOr (plN s c j) with hq | hq
    · exact .inr ⟨j, hj, by omega, by have := key hq; omega⟩
    · rcases h2 with rfl | ⟨i, hi1, hi2, hi3⟩
      · exact .inl (by omega)
      · exact .inr ⟨i, hi1, by omega, by omega⟩
theorem within_quiet (a n : Int) (w : World) (hn : 0 < n) (hn2 : n ≤ 4611686018427387904) : Calls Tryd.prog 9 #[.int .i64 a, .int .i64 n] w fun e w' => e = .returned (.int .i64 (a % n)) ∧ w' = w :=
  (within_any a n w hn hn2).mono fun _ _ h => ⟨h.1, h.2.symm⟩
theorem zero37 (w : World) : (zeroValue 37).run Tryd.prog w = .ok (.agg (arrC (List.replicate 80 0))) w := by kernel_rfl
theorem mod3 (k : Nat) : (1 + (k : Int) % 3 = 1) ∨ (1 + (k : Int) % 3 = 2) ∨ (1 + (k : Int) % 3 = 3) := by omega
set_option maxRecDepth 100000 in
set_option maxHeartbeats 4000000 in
theorem clientPlaces_any (A : Option Addr) (cap : Nat) (cl : List Int) (A2 : Option Addr) (cap2 : Nat) (sq : List Int) (w : World) (hg : Laid w) (hr : ReadsInt w .i64 A cl.length cl) (hc : cl.length ≤ cap) (hr2 : ReadsInt w .i64 A2 sq.length sq) (hc2 : sq.length ≤ cap2) :
    Calls Tryd.prog 4 #[.slice A cl.length cap, .slice A2 sq.length cap2] w fun e w' => e = .returned (.bool true) ∧ Below w.heap.size w w' := by
  have HR := Lib.hid hr
  have HR2 := Lib.hid hr2
  have HG := Lib.hid hg
  have hmx := hr.2.1
  have hmx2 := hr2.2.1
  clear hr hr2 hg
  have hz37 := zero37
  go_enter Tryd.func4, Tryd.ntmps4
  go_wp2_with (first
    | (go_at_call 7; refine (known_any _ HG.out).mono ?_; rintro e w1 ⟨rfl, hB⟩; have HB1 := Lib.hid hB; clear hB)
    | (go_at_call 8; refine (new_tab _).mono ?_; rintro e w2 ⟨rfl, hw2⟩; have T2 := Lib.hid (tab_new HB1.out); rw [← hw2] at T2; have hz2 : w1.heap.size + 2 < w2.heap.size := (by rw [hw2]; simp); clear hw2))
  generalize hb : w1.heap.size + 2 = b at *
  generalize hW : w2.alloc _ = W
  have hh0 : W.heap[w2.heap.size]? = some (.cells (arrC (List.replicate 80 0)) 37 (0, 0)) := by rw [← hW]; exact heap_alloc_new w2 _
  obtain ⟨F0, T3, HNF⟩ : ∃ F, RowKit.Hid (TabIn w b tab0 W F) ∧ RowKit.Hid (¬ F w2.heap.size) := ⟨_, by rw [← hW]; exact T2.out.alloc _, fun h => by have h : w2.heap.size = w1.heap.size ∨ w2.heap.size = w1.heap.size + 1 ∨ w2.heap.size = b := h; omega⟩
  generalize hn : w2.heap.size = n at *
  have hnw : w.heap.size ≤ n := by have := HB1.out.size; omega
  have HH0 := Lib.hid hh0
  clear hh0 hW T2
  go_loopw [7] (fun iv wr => ∃ (k : Nat) (ats : List Int) (s : TSt) (F : Nat → Prop), k ≤ cl.length ∧ k ≤ sq.length ∧ k ≤ 80 ∧ iv = .int .i64 k ∧ PlacesR s k ats ∧ TabIn w b s wr F ∧ ¬ F n ∧ wr.heap[n]? = some (.cells (arrC ats) 37 (0, 0))) (fun iv _ => 80 - (intOf iv).toNat)
  case atStart => exact ⟨0, List.replicate 80 0, tab0, F0, by omega, by omega, by omega, rfl, placesR0, T3.out, HNF.out, HH0.out⟩
  case round =>
    obtain ⟨k, ats, s, F, hk, hk2, hk80, rfl, hA, hT, hNF, hH⟩ := hrel
    have HA := Lib.hid hA
    have HT := Lib.hid hT
    have HNF1 := Lib.hid hNF
    have HH := Lib.hid hH
    have hfew := hA.few
    clear hA hT hNF hH
    by_cases hin : k < cl.length ∧ k < sq.length ∧ k < 80
    · obtain ⟨hin1, hin2, hin3⟩ := hin
      obtain ⟨ad, rfl, hcell⟩ := HR.out.at_ k (by omega) (by omega)
      obtain ⟨ad2, rfl, hcell2⟩ := HR2.out.at_ k (by omega) (by omega)
      have hcell := pw_cell_below HT.out.2 hcell
      have hcell2 := pw_cell_below HT.out.2 hcell2
      rw [Int.toNat_natCast] at hcell hcell2
      generalize rd cl k = x at *
      generalize rd sq k = y at *
      have q1 : ∀ nq, (wr.drewN nq).cell? (ad.add k) = some (.int .i64 x) := fun _ => hcell
      have q2 : ∀ nq, (wr.drewN nq).cell? (ad2.add k) = some (.int .i64 y) := fun _ => hcell2
      have hx0 : 0 ≤ x % 3 := by omega
      have hx1 : x % 3 < 3 := by omega
      have hy0 : 0 ≤ y % 19 := by omega
      have hy1 : y % 19 < 19 := by omega
      have hin3' : (k : Int) < 80 := by omega
      have hin1' : (k : Int) < (cl.length : Int) := by omega
      have hin2' : (k : Int) < (sq.length : Int) := by omega
      have hk0 : (0 : Int) ≤ (k : Int) := by omega
      clear hcell hcell2
      go_wp2_with fail
      go_quiet (exact Calls.quiet_of_same (within_quiet _ _ _ (by decide) (by decide)))
      go_wp2_with fail
      obtain ⟨c, hcx⟩ : ∃ c : Nat, 1 + x % 3 = (c : Int) := ⟨(1 + x % 3).toNat, by omega⟩
      obtain ⟨q, hqy⟩ : ∃ q : Nat, 1 + y % 19 = (q : Int) := ⟨(1 + y % 19).toNat, by omega⟩
      have c1 : 1 ≤ c := by omega
      have c3 : c ≤ 3 := by omega
      have q1' : 1 ≤ q := by omega
      have q20 : q < 20 := by omega
      have hkd := mod3 k
      rw [hcx, hqy]
      generalize 1 + (k : Int) % 3 = kd at *
      have T4 := Lib.hid (HT.out.other ((Keep.refl _ wr).drewN nq))
      have H4 : RowKit.Hid ((wr.drewN nq).heap[n]? = some (.cells (arrC ats) 37 (0, 0))) := HH.out
      clear hcx hqy q1 q2 hx0 hx1 hy0 hy1 hin1' hin2' hk0 HT HH
      generalize wr.drewN nq = W4 at *
      have hp := put_lit kd (c : Int) (q : Int) T4.out (by omega)
      have hci : (c : Int) < 4 := by omega
      have hc0 : (0 : Int) ≤ (c : Int) := by omega
      have hqi : (q : Int) < 20 := by omega
      have hq0 : (0 : Int) ≤ (q : Int) := by omega
      by_cases hlt : grN s c < (q : Int)
      · have hok : okPut s (e0 kd c q) = true := by rw [okPut_kind hkd (by omega) (by omega)]; simpa using hlt
        obtain ⟨hA2, hlen2, hpl0⟩ := HA.out.put hkd c1 c3 q1' q20 hlt
        have hat0 := HA.out.at_ c q c1 c3 q1' q20
        rw [hpl0] at hat0
        rw [show putN s (e0 kd c q) = (s.l.length : Int) + 1 from by unfold putN; rw [hok]; rfl, hok] at hp
        have HA2 := Lib.hid hA2
        have HL2 := Lib.hid hlen2
        have HAT := Lib.hid hat0
        clear hok hA2 hlen2 hpl0 hat0 hkd hlt
        generalize putS s (e0 kd c q) = s2 at *
        refine hp.mono ?_
        rintro e w5 ⟨rfl, F5, hT5, hF5, hK5⟩
        have hH5 := hK5.blk H4.out HNF1.out
        have hNF5 : ¬ F5 n := fun hF => by
          rcases hF5 n hF with h | h
          · exact HNF1.out h
          · have := blk_lt H4.out; omega
        have hf5 := blk_frozen hH5 (c * 20 + q)
        have hc5 : w5.cell? ⟨n, c * 20 + q, none⟩ = some (.int .i64 0) := by
          have := (blk_cell hH5 (c * 20 + q)).trans (arrC_get ats _ (by rw [HA.out.len]; omega))
          rwa [HAT.out] at this
        have hset := blk_set hH5 (c * 20 + q) (.int .i64 ((s.l.length : Int) + 1))
        rw [arrC_set] at hset
        have hT6 := hT5.keep (G := fun k => k = n) ((Keep.refl _ w5).setCell ⟨n, c * 20 + q, none⟩ (.int .i64 ((s.l.length : Int) + 1)) (.inl rfl)) (fun k hk => by subst hk; exact ⟨hnw, hNF5⟩)
        have HT5 := Lib.hid hT5
        have HSET := Lib.hid hset
        have HT6 := Lib.hid hT6
        have HNF5 := Lib.hid hNF5
        clear hp hT5 hF5 hK5 hH5 hNF5 hset hT6
        go_wp2_with (go_at_call 12; refine (len_any _ w.heap.size F5 b s2 HT5.out.1).mono ?_; rintro e w7 ⟨rfl, rfl⟩; rw [HL2.out])
        have hlen2 := HL2.out
        generalize w5.setCell _ _ = W6 at *
        generalize ats.set _ _ = ats2 at *
        clear hf5 hc5 hlen2
        go_loopw [12] (fun kv wx => ∃ c' : Nat, 1 ≤ c' ∧ c' ≤ 4 ∧ kv = .int .i64 c' ∧ Below W6.heap.size W6 wx) (fun kv _ => 4 - (intOf kv).toNat)
        case atStart => exact ⟨1, by omega, by omega, rfl, Below.refl _ _⟩
        case round =>
          obtain ⟨c', k1, k4, rfl, hBx⟩ := hrel
          have HBX := Lib.hid hBx
          clear hBx
          by_cases h3 : c' ≤ 3
          · obtain ⟨wa, rfl⟩ : ∃ wa, wa = wr := ⟨_, rfl⟩
            have h3' : (c' : Int) ≤ 3 := by omega
            go_wp2_with fail
            go_loopw [13, 14] (fun lv jv wx => ∃ (j : Nat) (last : Int), 1 ≤ j ∧ j ≤ 20 ∧ jv = .int .i64 j ∧ lv = .int .i64 last ∧ LastIs s2 c' j last ∧ Below W6.heap.size W6 wx) (fun _ jv _ => 20 - (intOf jv).toNat)
            case atStart => exact ⟨1, 0, by omega, by omega, rfl, rfl, lastIs1 _ _, HBX.out⟩
            case round =>
              obtain ⟨j, last, j1, j20, rfl, rfl, hLast, hBy⟩ := hrel
              have HBY := Lib.hid hBy
              have hl0 := hLast.1
              have hl1 := hLast.2.1
              have HLAST := Lib.hid hLast
              clear hBy hLast
              by_cases hj : j < 20
              · have hT7 := HT6.out.below HBY.out
                have hcell := (blk_cell (blk_below HSET.out HBY.out) (c' * 20 + j)).trans (arrC_get ats2 _ (by rw [HA2.out.len]; omega))
                rw [HA2.out.at_ c' j k1 h3 j1 hj] at hcell
                have hlen := HA2.out.few
                obtain ⟨hnext, hgt⟩ := HLAST.out.next HA2.out.ris j1
                have hplb := HA2.out.ris.pl0 c' j
                have hask := ask_in (c' : Int) (j : Int) (hT7.laid HG.out) hT7
                have hcases := ask_cases HA2.out.ris k1 j1
                have HASK := Lib.hid hask
                have HNX := Lib.hid hnext
                have hci : (c' : Int) < 4 := by omega
                have hc0 : (0 : Int) ≤ (c' : Int) := by omega
                have hji : (j : Int) < 20 := by omega
                have hj0 : (0 : Int) ≤ (j : Int) := by omega
                have HCELL := Lib.hid hcell
                clear hT7 hask hnext hcell
                generalize plN s2 c' j = p at *
                rcases hcases with ⟨hp, hE, hN⟩ | ⟨hp, hE, hN⟩ | ⟨hp, hE, hN⟩
                all_goals
                  have hgt' := hgt
                  have HE := Lib.hid hE
                  have HN := Lib.hid hN
                  clear hE hN hgt
                · have hlp : last < p := hgt' hp
                  have hle : ¬ p ≤ last := by omega
                  have hmax : max last p = p := by omega
                  have HMX := Lib.hid hmax
                  have HGT := Lib.hid hgt'
                  clear hgt' hmax
                  go_wp2_with (go_at_call 11; refine HASK.out.mono ?_; rintro e wz ⟨rfl, _, hBz, _⟩; rw [HE.out, HN.out]; have hcz := pw_cell_below hBz HCELL.out; have HBZ := Lib.hid (below_then HBY.out HBY.out.size hBz); clear hBz)
                  exact ⟨⟨j + 1, p, by omega, by omega, by simp, rfl, by have := HNX.out; rwa [HMX.out] at this, HBZ.out⟩, by simp [intOf]; omega⟩
                all_goals
                  subst hp
                  have hmax : max last 0 = last := by omega
                  have HMX := Lib.hid hmax
                  clear hgt' hmax
                  go_wp2_with (go_at_call 11; refine HASK.out.mono ?_; rintro e wz ⟨rfl, _, hBz, _⟩; rw [HE.out, HN.out]; have hcz := pw_cell_below hBz HCELL.out; have HBZ := Lib.hid (below_then HBY.out HBY.out.size hBz); clear hBz)
                  exact ⟨⟨j + 1, last, by omega, by omega, by simp, rfl, by have := HNX.out; rwa [HMX.out] at this, HBZ.out⟩, by simp [intOf]; omega⟩
              · go_wp2_with fail
                exact ⟨⟨c' + 1, by omega, by omega, by simp, HBY.out⟩, by simp [intOf]; omega⟩
          · go_wp2_with fail
            exact ⟨⟨k + 1, ats2, s2, F5, by omega, by omega, by omega, by simp, HA2.out, HT6.out.below HBX.out, HNF5.out, blk_below HSET.out HBX.out⟩, by simp [intOf]; omega⟩
      · obtain ⟨hst, hok⟩ := PlacesR.stay (kd := kd) hkd c1 q1' hlt
        rw [show putN s (e0 kd c q) = 0 from by unfold putN; rw [hok]; rfl, hok, hst] at hp
        have hA := HA.out
        have HA2 : RowKit.Hid (PlacesR s (k + 1) ats) := ⟨hA.len, hA.at_, by omega, hA.ris⟩
        clear hok hst hA hkd hlt
        refine hp.mono ?_
        rintro e W6 ⟨rfl, F5, hT5, hF5, hK5⟩
        have HSET := Lib.hid (hK5.blk H4.out HNF1.out)
        have HNF5 : RowKit.Hid (¬ F5 n) := fun hF => by
          rcases hF5 n hF with h | h
          · exact HNF1.out h
          · have := blk_lt H4.out; omega
        have HT6 := Lib.hid hT5
        clear hp hT5 hF5 hK5
        obtain ⟨s2, rfl⟩ : ∃ s2, s2 = s := ⟨_, rfl⟩
        obtain ⟨ats2, rfl⟩ : ∃ a2, a2 = ats := ⟨_, rfl⟩
        go_wp2_with fail
        go_loopw [12] (fun kv wx => ∃ c' : Nat, 1 ≤ c' ∧ c' ≤ 4 ∧ kv = .int .i64 c' ∧ Below W6.heap.size W6 wx) (fun kv _ => 4 - (intOf kv).toNat)
        case atStart => exact ⟨1, by omega, by omega, rfl, Below.refl _ _⟩
        case round =>
          obtain ⟨c', k1, k4, rfl, hBx⟩ := hrel
          have HBX := Lib.hid hBx
          clear hBx
          by_cases h3 : c' ≤ 3
          · obtain ⟨wa, rfl⟩ : ∃ wa, wa = wr := ⟨_, rfl⟩
            have h3' : (c' : Int) ≤ 3 := by omega
            go_wp2_with fail
            go_loopw [13, 14] (fun lv jv wx => ∃ (j : Nat) (last : Int), 1 ≤ j ∧ j ≤ 20 ∧ jv = .int .i64 j ∧ lv = .int .i64 last ∧ LastIs s2 c' j last ∧ Below W6.heap.size W6 wx) (fun _ jv _ => 20 - (intOf jv).toNat)
            case atStart => exact ⟨1, 0, by omega, by omega, rfl, rfl, lastIs1 _ _, HBX.out⟩
            case round =>
              obtain ⟨j, last, j1, j20, rfl, rfl, hLast, hBy⟩ := hrel
              have HBY := Lib.hid hBy
              have hl0 := hLast.1
              have hl1 := hLast.2.1
              have HLAST := Lib.hid hLast
              clear hBy hLast
              by_cases hj : j < 20
              · have hT7 := HT6.out.below HBY.out
                have hcell := (blk_cell (blk_below HSET.out HBY.out) (c' * 20 + j)).trans (arrC_get ats2 _ (by rw [HA2.out.len]; omega))
                rw [HA2.out.at_ c' j k1 h3 j1 hj] at hcell
                have hlen := HA2.out.few
                obtain ⟨hnext, hgt⟩ := HLAST.out.next HA2.out.ris j1
                have hplb := HA2.out.ris.pl0 c' j
                have hask := ask_in (c' : Int) (j : Int) (hT7.laid HG.out) hT7
                have hcases := ask_cases HA2.out.ris k1 j1
                have HASK := Lib.hid hask
                have HNX := Lib.hid hnext
                have hci : (c' : Int) < 4 := by omega
                have hc0 : (0 : Int) ≤ (c' : Int) := by omega
                have hji : (j : Int) < 20 := by omega
                have hj0 : (0 : Int) ≤ (j : Int) := by omega
                have HCELL := Lib.hid hcell
                clear hT7 hask hnext hcell
                generalize plN s2 c' j = p at *
                rcases hcases with ⟨hp, hE, hN⟩ | ⟨hp, hE, hN⟩ | ⟨hp, hE, hN⟩
                all_goals
                  have hgt' := hgt
                  have HE := Lib.hid hE
                  have HN := Lib.hid hN
                  clear hE hN hgt
                · have hlp : last < p := hgt' hp
                  have hle : ¬ p ≤ last := by omega
                  have hmax : max last p = p := by omega
                  have HMX := Lib.hid hmax
                  have HGT := Lib.hid hgt'
                  clear hgt' hmax
                  go_wp2_with (go_at_call 11; refine HASK.out.mono ?_; rintro e wz ⟨rfl, _, hBz, _⟩; rw [HE.out, HN.out]; have hcz := pw_cell_below hBz HCELL.out; have HBZ := Lib.hid (below_then HBY.out HBY.out.size hBz); clear hBz)
                  exact ⟨⟨j + 1, p, by omega, by omega, by simp, rfl, by have := HNX.out; rwa [HMX.out] at this, HBZ.out⟩, by simp [intOf]; omega⟩
                all_goals
                  subst hp
                  have hmax : max last 0 = last := by omega
                  have HMX := Lib.hid hmax
                  clear hgt' hmax
                  go_wp2_with (go_at_call 11; refine HASK.out.mono ?_; rintro e wz ⟨rfl, _, hBz, _⟩; rw [HE.out, HN.out]; have hcz := pw_cell_below hBz HCELL.out; have HBZ := Lib.hid (below_then HBY.out HBY.out.size hBz); clear hBz)
                  exact ⟨⟨j + 1, last, by omega, by omega, by simp, rfl, by have := HNX.out; rwa [HMX.out] at this, HBZ.out⟩, by simp [intOf]; omega⟩
              · go_wp2_with fail
                exact ⟨⟨c' + 1, by omega, by omega, by simp, HBY.out⟩, by simp [intOf]; omega⟩
          · go_wp2_with fail
            exact ⟨⟨k + 1, ats2, s2, F5, by omega, by omega, by omega, by simp, HA2.out, HT6.out.below HBX.out, HNF5.out, blk_below HSET.out HBX.out⟩, by simp [intOf]; omega⟩
    · have HB := Lib.hid HT.out.2
      by_cases h1 : k < cl.length <;> by_cases h2 : k < sq.length
      all_goals
        go_wp2
        go_ret
        exact ⟨rfl, HB.out⟩
theorem clientPlaces_row (A : Option Addr) (cap : Nat) (cl : List Int) (A2 : Option Addr) (cap2 : Nat) (sq : List Int) (w : World) (hg : Laid w) (hr : ReadsInt w .i64 A cl.length cl) (hc : cl.length ≤ cap) (_ : cl.length * 8 ≤ 140737488351232) (_ : ∀ x ∈ cl, (Lit.int .i64 x).wf = true) (hr2 : ReadsInt w .i64 A2 sq.length sq) (hc2 : sq.length ≤ cap2) (_ : sq.length * 8 ≤ 140737488351232) (_ : ∀ x ∈ sq, (Lit.int .i64 x).wf = true) :
    Calls Tryd.prog 4 #[.slice A cl.length cap, .slice A2 sq.length cap2] w fun e w' => e = .returned (.bool true) ∧ Below w.heap.size w w' := clientPlaces_any A cap cl A2 cap2 sq w hg hr hc hr2 hc2
end Go.Proofs.YtacbebkaammcnaaDoor
