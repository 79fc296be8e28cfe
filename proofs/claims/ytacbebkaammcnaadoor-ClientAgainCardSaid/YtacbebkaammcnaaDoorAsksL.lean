/- The walk of ClientAsks. -/
import Derived.Test.YtacbebkaammcnaaDoorLawC
import Derived.Deep.DeepCutAuto
set_option linter.unusedVariables false
set_option linter.unusedSimpArgs false
namespace Go.Proofs.YtacbebkaammcnaaDoor
open Go.RowKit Go.Proofs.YtacbebkaammcnaaDoorW.PrintWords Go.Proofs.Mine

/-- What the law knows of the table: one client's numbers, where each stands, the greatest. -/
structure AsksR (s : TSt) (k : Nat) (has : List Int) (top : Int) : Prop where
  len : has.length = 60
  at_ : ∀ j : Nat, j < 60 → has.getD j 0 = plN s 4 j
  topE : top = grN s 4
  top0 : 0 ≤ top
  topl : top ≤ 59
  other : ∀ c q, c ≠ 4 → plN s c q = 0
  others : ∀ c, c ≠ 4 → grN s c = 0
  few : s.l.length ≤ k
theorem plN_put (s : TSt) (x : Ent) (c q : Int) : plN (putT s x) c q = if (c, q) = (x.c, x.q) then (s.l.length : Int) + 1 else plN s c q := by
  unfold plN putT updG
  simp only
  split <;> rfl
theorem grN_put (s : TSt) (x : Ent) (c : Int) : grN (putT s x) c = if c = x.c then x.q else grN s c := by
  unfold grN putT updI
  simp only
  split <;> rfl
theorem okPut_asks {s : TSt} {k : Nat} {has : List Int} {top n : Int} (h : AsksR s k has top) (hn : 1 ≤ n) : okPut s (e0 1 4 n) = decide (top < n) := by
  rw [h.topE]
  simp [okPut, e0, hn]
  rfl
theorem AsksR.put {s : TSt} {k : Nat} {has : List Int} {top : Int} {n : Nat} (h : AsksR s k has top) (hn : 1 ≤ n) (hn2 : n < 60) (ht : top < n) : AsksR (putS s (e0 1 4 n)) (k + 1) (has.set n ((s.l.length : Int) + 1)) n := by
  have hok : okPut s (e0 1 4 n) = true := by rw [okPut_asks h (by omega)]; simpa using ht
  unfold putS
  rw [hok]
  simp only [if_true]
  refine ⟨by rw [List.length_set]; exact h.len, fun j hj => ?_, ?_, by omega, by omega, fun c q hc => ?_, fun c hc => ?_, ?_⟩
  · rw [plN_put]
    by_cases he : j = n
    · subst he
      simp [e0, List.getD_eq_getElem?_getD, h.len, hj]
    · rw [if_neg (by simp [e0]; omega), ← h.at_ j hj]
      simp [List.getD_eq_getElem?_getD, List.getElem?_set, Ne.symm he]
  · rw [grN_put]; simp [e0]
  · rw [plN_put, if_neg (by simp [e0]; intro h'; exact absurd h' hc)]; exact h.other c q hc
  · rw [grN_put, if_neg (by simpa [e0] using hc)]; exact h.others c hc
  · simp [putT]; exact h.few
theorem AsksR.stay {s : TSt} {k : Nat} {has : List Int} {top : Int} {n : Nat} (h : AsksR s k has top) (hn : 1 ≤ n) (ht : ¬ top < n) : putS s (e0 1 4 n) = s := by
  unfold putS
  rw [okPut_asks h (by omega)]
  simp [ht]
theorem asksR0 : AsksR tab0 0 (List.replicate 60 0) 0 := by
  refine ⟨by simp, fun j hj => ?_, rfl, by decide, by decide, fun _ _ _ => rfl, fun _ _ => rfl, by decide⟩
  rw [List.getD_eq_getElem?_getD, List.getElem?_replicate, if_pos hj]; rfl
/-- What is asked of a client whose numbers stand so. -/
theorem AsksR.ask {s : TSt} {k : Nat} {has : List Int} {top : Int} {n : Nat} (h : AsksR s k has top) (hn : 1 ≤ n) (hn2 : n < 60) :
    askE s 4 n = (if 0 < has.getD n 0 then 0 else if (n : Int) < top then 19 else 2) ∧ askN s 4 n = (if 0 < has.getD n 0 then has.getD n 0 else 0) ∧ askE s 5 n = 2 ∧ askE s 0 n = 1 ∧ askE s 4 0 = 1 := by
  have h1 := h.at_ n hn2
  have e1 : askE s 4 n = (if 0 < has.getD n 0 then 0 else if (n : Int) < top then 19 else 2) := by
    unfold askE; rw [if_neg (by omega), h1, h.topE]
  refine ⟨e1, ?_, ?_, ?_, ?_⟩
  · unfold askN
    rw [e1, ← h1]
    split <;> split <;> simp_all
  · unfold askE; rw [if_neg (by omega), h.other 5 n (by decide), h.others 5 (by decide)]; simp
  · unfold askE; rw [if_pos (by omega)]
  · unfold askE; rw [if_pos (by omega)]
/-- The cells of an array of numbers. -/
def arrC (l : List Int) : Array Value := (nums .i64 l).toArray
theorem arrC_set (l : List Int) (n : Nat) (v : Int) : (arrC l).setIfInBounds n (.int .i64 v) = arrC (l.set n v) := by
  unfold arrC nums
  rw [List.map_set, List.setIfInBounds_toArray]
theorem arrC_get (l : List Int) (n : Nat) (h : n < l.length) : (arrC l)[n]? = some (.int .i64 (l.getD n 0)) := by
  simp [arrC, nums, h]
set_option maxRecDepth 100000 in
set_option maxHeartbeats 4000000 in
theorem clientAsks_any (A : Option Addr) (cap : Nat) (seqs : List Int) (ask : Int) (w : World) (hg : Laid w) (hr : ReadsInt w .i64 A seqs.length seqs) (hc : seqs.length ≤ cap) :
    Calls Tryd.prog 3 #[.slice A seqs.length cap, .int .i64 ask] w fun e w' => e = .returned (.bool true) ∧ Below w.heap.size w w' := by
  have HR := Lib.hid hr
  have HG := Lib.hid hg
  have hmx := hr.2.1
  clear hr hg
  go_enter Tryd.func3, Tryd.ntmps3
  go_wp2_with (first
    | (go_at_call 7; refine (known_any _ HG.out).mono ?_; rintro e w1 ⟨rfl, hB⟩; have HB1 := Lib.hid hB; clear hB)
    | (go_at_call 8; refine (new_tab _).mono ?_; rintro e w2 ⟨rfl, hw2⟩; have T2 := Lib.hid (tab_new HB1.out); rw [← hw2] at T2; have hz2 : w1.heap.size + 2 < w2.heap.size := (by rw [hw2]; simp); clear hw2))
  generalize hb : w1.heap.size + 2 = b at *
  generalize hW : w2.alloc _ = W
  have hh0 : W.heap[w2.heap.size]? = some (.cells (arrC (List.replicate 60 0)) 26 (0, 0)) := by rw [← hW]; exact heap_alloc_new w2 _
  obtain ⟨F0, T3, HNF⟩ : ∃ F, RowKit.Hid (TabIn w b tab0 W F) ∧ RowKit.Hid (¬ F w2.heap.size) := ⟨_, by rw [← hW]; exact T2.out.alloc _, fun h => by have h : w2.heap.size = w1.heap.size ∨ w2.heap.size = w1.heap.size + 1 ∨ w2.heap.size = b := h; omega⟩
  generalize hn : w2.heap.size = n at *
  have hnw : w.heap.size ≤ n := by have := HB1.out.size; omega
  have HH0 := Lib.hid hh0
  clear hh0 hW T2
  go_loopw [7, 8] (fun tv iv wr => ∃ (k : Nat) (has : List Int) (top : Int) (s : TSt) (F : Nat → Prop), k ≤ seqs.length ∧ k ≤ 30 ∧ iv = .int .i64 k ∧ tv = .int .i64 top ∧ AsksR s k has top ∧ TabIn w b s wr F ∧ ¬ F n ∧ wr.heap[n]? = some (.cells (arrC has) 26 (0, 0))) (fun _ iv _ => 30 - (intOf iv).toNat)
  case atStart => exact ⟨0, List.replicate 60 0, 0, tab0, F0, by omega, by omega, rfl, rfl, asksR0, T3.out, HNF.out, HH0.out⟩
  case round =>
    obtain ⟨k, has, top, s, F, hk, hk30, rfl, rfl, hA, hT, hNF, hH⟩ := hrel
    have HA := Lib.hid hA
    have HT := Lib.hid hT
    have HNF1 := Lib.hid hNF
    have HH := Lib.hid hH
    have ht0 := hA.top0
    have ht1 := hA.topl
    have hfew := hA.few
    clear hA hT hNF hH
    by_cases hin : k < seqs.length ∧ k < 30
    · obtain ⟨hin1, hin2⟩ := hin
      obtain ⟨ad, rfl, hcell⟩ := HR.out.at_ k (by omega) (by omega)
      have hcell0 := pw_cell_below HT.out.2 hcell
      rw [Int.toNat_natCast] at hcell0
      generalize rd seqs k = x at *
      clear hcell
      go_wp2_with (go_at_call 9; refine (within_any x 59 _ (by decide) (by decide)).mono ?_; rintro e W' ⟨rfl, rfl⟩; have hx0 : 0 ≤ x % 59 := (by omega); have hx1 : x % 59 < 59 := (by omega))
      obtain ⟨m, hm⟩ : ∃ m : Nat, 1 + x % 59 = (m : Int) := ⟨(1 + x % 59).toNat, by omega⟩
      have hm1 : 1 ≤ m := by omega
      have hm2 : m < 60 := by omega
      rw [hm]
      clear hm hcell0 hx0 hx1
      have hp := put_lit 1 4 (m : Int) HT.out (by omega)
      by_cases hlt : top < (m : Int)
      · have hok : okPut s (e0 1 4 m) = true := by rw [okPut_asks HA.out (by omega)]; simpa using hlt
        have hA2 := HA.out.put (n := m) hm1 hm2 hlt
        rw [show putN s (e0 1 4 m) = (s.l.length : Int) + 1 from by unfold putN; rw [hok]; rfl, hok] at hp
        have HA2 := Lib.hid hA2
        clear hok hA2
        generalize putS s (e0 1 4 m) = s2 at *
        refine hp.mono ?_
        rintro e w5 ⟨rfl, F5, hT5, hF5, hK5⟩
        have hH5 := hK5.blk HH.out HNF1.out
        have hNF5 : ¬ F5 n := fun hF => by
          rcases hF5 n hF with h | h
          · exact HNF1.out h
          · have := blk_lt HH.out; omega
        have hf5 := blk_frozen hH5 m
        have hc5 : w5.cell? ⟨n, m, none⟩ = some (.int .i64 (has.getD m 0)) := (blk_cell hH5 m).trans (arrC_get _ m (by rw [HA.out.len]; exact hm2))
        have hset := blk_set hH5 m (.int .i64 ((s.l.length : Int) + 1))
        rw [arrC_set] at hset
        have hT6 := hT5.keep (G := fun k => k = n) ((Keep.refl _ w5).setCell ⟨n, m, none⟩ (.int .i64 ((s.l.length : Int) + 1)) (.inl rfl)) (fun k hk => by subst hk; exact ⟨hnw, hNF5⟩)
        have HSET := Lib.hid hset
        have HT6 := Lib.hid hT6
        have HNF5 := Lib.hid hNF5
        have hmi : (m : Int) < 60 := by omega
        have hm0 : (0 : Int) ≤ (m : Int) := by omega
        clear hp hT5 hF5 hK5 hH5 hNF5 hset hT6
        go_wp2_with fail
        exact ⟨⟨k + 1, _, m, s2, F5, by omega, by omega, by simp, rfl, HA2.out, HT6.out, HNF5.out, HSET.out⟩, by simp [intOf]; omega⟩
      · have hok : okPut s (e0 1 4 m) = false := by rw [okPut_asks HA.out (by omega)]; simpa using hlt
        rw [show putN s (e0 1 4 m) = 0 from by unfold putN; rw [hok]; rfl, hok, HA.out.stay hm1 hlt] at hp
        clear hok
        refine hp.mono ?_
        rintro e w5 ⟨rfl, F5, hT5, hF5, hK5⟩
        have HH5 := Lib.hid (hK5.blk HH.out HNF1.out)
        have HNF5 : RowKit.Hid (¬ F5 n) := fun hF => by
          rcases hF5 n hF with h | h
          · exact HNF1.out h
          · have := blk_lt HH.out; omega
        have HT5 := Lib.hid hT5
        clear hp hT5 hF5 hK5
        go_wp2_with fail
        have hA := HA.out
        exact ⟨⟨k + 1, has, top, s, F5, by omega, by omega, by simp, rfl, ⟨hA.len, hA.at_, hA.topE, hA.top0, hA.topl, hA.other, hA.others, by omega⟩, HT5.out, HNF5.out, HH5.out⟩, by simp [intOf]; omega⟩
    · have HL := Lib.hid hmx
      by_cases he : k < seqs.length
      all_goals
        go_wp2_with (go_at_call 9; refine (within_any ask 59 _ (by decide) (by decide)).mono ?_; rintro e W' ⟨rfl, rfl⟩; have hx0 : 0 ≤ ask % 59 := (by omega); have hx1 : ask % 59 < 59 := (by omega))
        obtain ⟨m, hm⟩ : ∃ m : Nat, 1 + ask % 59 = (m : Int) := ⟨(1 + ask % 59).toNat, by omega⟩
        have hm1 : 1 ≤ m := by omega
        have hm2 : m < 60 := by omega
        rw [hm]
        clear hm hx0 hx1
        obtain ⟨r1, r2, r3, r4, r5⟩ := HA.out.ask hm1 hm2
        have hcell := arrC_get has m (by rw [HA.out.len]; exact hm2)
        generalize has.getD m 0 = v at *
        have HCL := Lib.hid hcell
        have R3 := Lib.hid r3
        have R4 := Lib.hid r4
        have R5 := Lib.hid r5
        have hmi : (m : Int) < 60 := by omega
        have hm0 : (0 : Int) ≤ (m : Int) := by omega
        clear r3 r4 r5 hcell
        have key : (0 < v ∧ askE s 4 m = 0 ∧ askN s 4 m = v) ∨ (¬ 0 < v ∧ (m : Int) < top ∧ askE s 4 m = 19 ∧ askN s 4 m = 0) ∨ (¬ 0 < v ∧ ¬ (m : Int) < top ∧ askE s 4 m = 2 ∧ askN s 4 m = 0) := by
          by_cases p1 : 0 < v
          · rw [if_pos p1] at r1 r2; exact .inl ⟨p1, r1, r2⟩
          · rw [if_neg p1] at r1 r2
            by_cases p2 : (m : Int) < top
            · rw [if_pos p2] at r1; exact .inr (.inl ⟨p1, p2, r1, r2⟩)
            · rw [if_neg p2] at r1; exact .inr (.inr ⟨p1, p2, r1, r2⟩)
        clear r1 r2
        rcases key with ⟨p1, r1, r2⟩ | ⟨p1, p2, r1, r2⟩ | ⟨p1, p2, r1, r2⟩
        all_goals
          refine (ask_in 4 (m : Int) (HT.out.laid HG.out) HT.out).mono ?_
          rintro e W1 ⟨rfl, hT1, hB1, hG1⟩
          have HT1 := Lib.hid hT1
          have HG1 := Lib.hid hG1
          have HH1 := Lib.hid ((Keep.of_below hB1 (fun _ => False)).blk HH.out (fun h => h))
          clear hT1 hB1 hG1
          rw [r1, r2]
          clear r1 r2
          go_wp2_with fail
          refine (ask_in 5 (m : Int) HG1.out HT1.out).mono ?_
          rintro e W2 ⟨rfl, hT2, hB2, hG2⟩
          have HT2 := Lib.hid hT2
          have HG2 := Lib.hid hG2
          have HH2 := Lib.hid ((Keep.of_below hB2 (fun _ => False)).blk HH1.out (fun h => h))
          clear hT2 hB2 hG2
          rw [R3.out]
          go_wp2_with fail
          refine (ask_in 0 (m : Int) HG2.out HT2.out).mono ?_
          rintro e W3 ⟨rfl, hT3, hB3, hG3⟩
          have HT3 := Lib.hid hT3
          have HG3 := Lib.hid hG3
          have HH3 := Lib.hid ((Keep.of_below hB3 (fun _ => False)).blk HH2.out (fun h => h))
          clear hT3 hB3 hG3
          rw [R4.out]
          go_wp2_with fail
          refine (ask_in 4 0 HG3.out HT3.out).mono ?_
          rintro e W4 ⟨rfl, hT4, hB4, hG4⟩
          have HT4 := Lib.hid hT4
          have hc4 : W4.cell? ⟨n, m, none⟩ = some (.int .i64 v) := (blk_cell ((Keep.of_below hB4 (fun _ => False)).blk HH3.out (fun h => h)) m).trans HCL.out
          clear hT4 hB4 hG4
          rw [R5.out]
          go_wp2
          go_ret
          exact ⟨rfl, HT4.out.2⟩
theorem clientAsks_row (A : Option Addr) (cap : Nat) (seqs : List Int) (ask : Int) (w : World) (hg : Laid w) (hr : ReadsInt w .i64 A seqs.length seqs) (hc : seqs.length ≤ cap) (_ : seqs.length * 8 ≤ 140737488351232) (_ : ∀ x ∈ seqs, (Lit.int .i64 x).wf = true) (_ : (Lit.int .i64 ask).wf = true) :
    Calls Tryd.prog 3 #[.slice A seqs.length cap, .int .i64 ask] w fun e w' => e = .returned (.bool true) ∧ Below w.heap.size w w' := clientAsks_any A cap seqs ask w hg hr hc
end Go.Proofs.YtacbebkaammcnaaDoor
