/- The walk of ClientFillers. -/
import Derived.Test.YtacbebkaammcnaaDoorFillP
import Derived.Deep.DeepCutAuto
set_option linter.unusedVariables false
set_option linter.unusedSimpArgs false
namespace Go.Proofs.YtacbebkaammcnaaDoor
open Go.RowKit Go.Proofs.YtacbebkaammcnaaDoorW.PrintWords Go.Proofs.Mine

set_option maxRecDepth 100000 in
set_option maxHeartbeats 4000000 in
theorem clientFillers_any (A : Option Addr) (cap : Nat) (ks : List Int) (c0 q0 : Int) (w : World) (hg : Laid w) (hr : ReadsInt w .i64 A ks.length ks) (hc : ks.length ≤ cap) :
    Calls Tryd.prog 6 #[.slice A ks.length cap, .int .i64 c0, .int .i64 q0] w fun e w' => e = .returned (.bool true) ∧ Below w.heap.size w w' := by
  have HR := Lib.hid hr
  have HG := Lib.hid hg
  have hmx := hr.2.1
  clear hr hg
  go_enter Tryd.func6, Tryd.ntmps6
  go_wp2_with (first
    | (go_at_call 7; refine (known_any _ HG.out).mono ?_; rintro e w1 ⟨rfl, hB⟩; have HB1 := Lib.hid hB; clear hB)
    | (go_at_call 8; refine (new_tab _).mono ?_; rintro e w2 ⟨rfl, hw2⟩; have T2 := Lib.hid (tab_new HB1.out); rw [← hw2] at T2; clear hw2))
  generalize hb : w1.heap.size + 2 = b at *
  clear hb
  go_loopw [8, 9] (fun nv iv wr => ∃ (k : Nat) (s : TSt) (F : Nat → Prop), k ≤ ks.length ∧ k ≤ 40 ∧ iv = .int .i64 k ∧ nv = .int .i64 s.l.length ∧ Filled s k ∧ TabIn w b s wr F) (fun _ iv _ => 40 - (intOf iv).toNat)
  case atStart => exact ⟨0, tab0, _, by omega, by omega, rfl, rfl, filled0, T2.out⟩
  case round =>
    obtain ⟨k, s, F, hk, hk40, rfl, rfl, hA, hT⟩ := hrel
    have HA := Lib.hid hA
    have HT := Lib.hid hT
    clear hA hT
    by_cases hin : k < ks.length ∧ k < 40
    · obtain ⟨hin1, hin2⟩ := hin
      obtain ⟨ad, rfl, hcell⟩ := HR.out.at_ k (by omega) (by omega)
      have hcell0 := pw_cell_below HT.out.2 hcell
      rw [Int.toNat_natCast] at hcell0
      generalize rd ks k = x at *
      clear hcell
      obtain ⟨kd, hkd⟩ : ∃ kd : Int, x % 7 - 1 = kd := ⟨_, rfl⟩
      have hx0 : 0 ≤ x % 7 := by omega
      have hx1 : x % 7 < 7 := by omega
      have hin2' : (k : Int) < 40 := by omega
      by_cases h5 : (k : Int) % 5 = 4 <;> by_cases h7 : (k : Int) % 7 = 6
      all_goals
        first
          | (have t5 : ((k : Int) % 5 == 4) = true := by simp [h5])
          | (have t5 : ((k : Int) % 5 == 4) = false := by simp [h5])
        first
          | (have t7 : ((k : Int) % 7 == 6) = true := by simp [h7])
          | (have t7 : ((k : Int) % 7 == 6) = false := by simp [h7])
        clear h5 h7
        go_wp2_with (go_at_call 9; refine (within_any _ _ _ (by decide) (by decide)).mono ?_; rintro e W' ⟨rfl, rfl⟩)
        generalize hW : wr.alloc _ = W
        have hTW : TabIn w b s W F := by rw [← hW]; exact HT.out.alloc _
        obtain ⟨c, q, hblk⟩ : ∃ c q : Int, W.heap[wr.heap.size]? = some (.cells #[.int .i64 kd, .int .i64 c, .int .i64 q, .string ByteArray.empty, .slice none 0 0, .int .i64 0] 31 (0, 0)) := ⟨_, _, by rw [← hW]; exact heap_alloc_new _ _⟩
        refine (all_any W w.heap.size F b s hTW.1 (by have := HA.out.few; omega) HA.out.mem).mono ?_
        rintro e w5 ⟨v, rfl, hR, hB⟩
        have hT5 := hTW.below hB
        have hb5 := blk_below hblk hB
        have hnF : ¬ F wr.heap.size := fun h => by have := (HT.out.1.2.1 _ h).2; omega
        clear hW hTW hblk HT
        generalize wr.heap.size = m at *
        have HNF := Lib.hid hnF
        have HT5 := Lib.hid hT5
        have HB5 := Lib.hid hb5
        obtain ⟨A2, c2, rfl⟩ := Kd.R_slice hR
        have HRR := Lib.hid (Kd.R_reads' hR).2.2
        clear hnF hT5 hb5 hR hB
        go_wp2_with fail
        go_loopw [11, 13] (fun lv jv wq => ∃ j : Nat, j ≤ s.l.length ∧ jv = .int .i64 j ∧ lv = .int .i64 (lastN (s.l.take j) c) ∧ Below w5.heap.size w5 wq) (fun _ jv _ => s.l.length - (intOf jv).toNat)
        case atStart => exact ⟨0, by omega, rfl, rfl, Below.refl _ _⟩
        case round =>
          obtain ⟨j, hj, rfl, rfl, hBq⟩ := hrel
          have HBQ := Lib.hid hBq
          clear hBq
          have hfew := HA.out.few
          by_cases hlt : j < s.l.length
          · obtain ⟨y, hy⟩ : ∃ y, s.l[j]? = some y := ⟨_, List.getElem?_eq_getElem hlt⟩
            obtain ⟨ad2, rfl, hE⟩ := entAt_of HRR.out hy
            have HTK := Lib.hid (lastN_take hy c)
            obtain ⟨Ax, cx, e0_, e1, e2, e3, e4, e5, e6, e7⟩ := hE.below HBQ.out
            have hb6 := blk_below HB5.out HBQ.out
            have b1 : wr.cell? ⟨m, 1, none⟩ = some (.int .i64 c) := blk_cell hb6 1
            have p1 : ∀ nq, (wr.drewN nq).cell? ⟨(ad2.add (j * 6)).block, (ad2.add (j * 6)).off + 1, none⟩ = some (.int .i64 y.c) := fun _ => e1
            have p2 : ∀ nq, (wr.drewN nq).cell? ⟨(ad2.add (j * 6)).block, (ad2.add (j * 6)).off + 2, none⟩ = some (.int .i64 y.q) := fun _ => e2
            have p3 : ∀ nq, (wr.drewN nq).cell? ⟨m, 1, none⟩ = some (.int .i64 c) := fun _ => b1
            clear hE hy e0_ e3 e4 e5 e6 e7 hb6
            generalize lastN (s.l.take j) c = la at *
            have hlt' : (j : Int) < (s.l.length : Int) := by omega
            have hj0 : (0 : Int) ≤ (j : Int) := by omega
            generalize hea : ad2.add (j * 6) = ea at *
            cases hyc : (y.c == c)
            · have hne : y.c ≠ c := by simpa using hyc
              rw [show (if y.c = c then max la y.q else la) = la from if_neg hne] at HTK
              clear hne
              go_wp2_with fail
              go_quiet (fail)
              go_wp2_with fail
              exact ⟨⟨j + 1, by omega, by simp, by rw [HTK.out], pw_below_drewN HBQ.out _⟩, by simp [intOf]; omega⟩
            · have hne : y.c = c := by simpa using hyc
              rw [show (if y.c = c then max la y.q else la) = max la y.q from if_pos hne] at HTK
              clear hne
              go_wp2_with fail
              go_quiet (fail)
              go_wp2_with fail
              have hmm : (if la < y.q then y.q else la) = max la y.q := by split <;> omega
              exact ⟨⟨j + 1, by omega, by simp, by rw [HTK.out, hmm], pw_below_drewN HBQ.out _⟩, by simp [intOf]; omega⟩
          · obtain rfl : j = s.l.length := by omega
            have hla : lastN (s.l.take s.l.length) c = grN s c := by rw [List.take_length]; exact HA.out.last c
            rw [hla]
            have hw := ok_want HA.out kd c q
            generalize grN s c = la at *
            have key : (decide (1 ≤ kd) = false ∧ okPut s (e0 kd c q) = false) ∨ (decide (1 ≤ kd) = true ∧ decide (kd ≤ 3) = false ∧ okPut s (e0 kd c q) = false) ∨ (decide (1 ≤ kd) = true ∧ decide (kd ≤ 3) = true ∧ decide (1 ≤ c) = false ∧ okPut s (e0 kd c q) = false) ∨ (decide (1 ≤ kd) = true ∧ decide (kd ≤ 3) = true ∧ decide (1 ≤ c) = true ∧ decide (la < q) = false ∧ okPut s (e0 kd c q) = false) ∨ (decide (1 ≤ kd) = true ∧ decide (kd ≤ 3) = true ∧ decide (1 ≤ c) = true ∧ decide (la < q) = true ∧ okPut s (e0 kd c q) = true) := by
              rw [hw]
              cases decide (1 ≤ kd) <;> cases decide (kd ≤ 3) <;> cases decide (1 ≤ c) <;> cases decide (la < q) <;> simp
            have HTq := Lib.hid (HT5.out.below HBQ.out)
            have hb6 := blk_below HB5.out HBQ.out
            have b0 : wr.cell? ⟨m, 0, none⟩ = some (.int .i64 kd) := blk_cell hb6 0
            have b1 : wr.cell? ⟨m, 1, none⟩ = some (.int .i64 c) := blk_cell hb6 1
            have b2 : wr.cell? ⟨m, 2, none⟩ = some (.int .i64 q) := blk_cell hb6 2
            have b3 : wr.cell? ⟨m, 3, none⟩ = some (.string ByteArray.empty) := blk_cell hb6 3
            have b4 : wr.cell? ⟨m, 4, none⟩ = some (.slice none 0 0) := blk_cell hb6 4
            have b5 : wr.cell? ⟨m, 5, none⟩ = some (.int .i64 0) := blk_cell hb6 5
            have hput := put_lit kd c q HTq.out (by omega)
            obtain ⟨hf2, hl2⟩ := HA.out.put kd c q
            have HF2 := Lib.hid hf2
            clear hla hw hb6 hf2
            rcases key with ⟨g1, ok⟩ | ⟨g1, g2, ok⟩ | ⟨g1, g2, g3, ok⟩ | ⟨g1, g2, g3, g4, ok⟩ | ⟨g1, g2, g3, g4, ok⟩
            all_goals
              rw [show putN s (e0 kd c q) = if okPut s (e0 kd c q) = true then (s.l.length : Int) + 1 else 0 from rfl, ok] at hput
              rw [ok] at hl2
              simp only [Bool.false_eq_true, if_true, if_false] at hput hl2
              have HL2 := Lib.hid hl2
              have HP := Lib.hid hput
              generalize putS s (e0 kd c q) = s2 at *
              clear hput hl2 ok
              go_wp2_with (first
                | (go_at_call 10; refine HP.out.mono ?_; rintro e w6 ⟨rfl, F6, hT6, _, _⟩; have HT6 := Lib.hid hT6; clear hT6)
                | (go_at_call 12; refine (len_any _ w.heap.size F6 b s2 HT6.out.1).mono ?_; rintro e w7 ⟨rfl, rfl⟩; rw [HL2.out]))
              exact ⟨⟨k + 1, s2, F6, by omega, by omega, by simp, by rw [HL2.out], HF2.out, HT6.out⟩, by simp [intOf]; omega⟩
    · have HL := Lib.hid hmx
      by_cases he : k < ks.length
      all_goals
        go_wp2
        go_ret
        exact ⟨rfl, HT.out.2⟩
theorem clientFillers_row (A : Option Addr) (cap : Nat) (ks : List Int) (c0 q0 : Int) (w : World) (hg : Laid w) (hr : ReadsInt w .i64 A ks.length ks) (hc : ks.length ≤ cap) (_ : ks.length * 8 ≤ 140737488351232) (_ : ∀ x ∈ ks, (Lit.int .i64 x).wf = true) (_ : (Lit.int .i64 c0).wf = true) (_ : (Lit.int .i64 q0).wf = true) :
    Calls Tryd.prog 6 #[.slice A ks.length cap, .int .i64 c0, .int .i64 q0] w fun e w' => e = .returned (.bool true) ∧ Below w.heap.size w w' := clientFillers_any A cap ks c0 q0 w hg hr hc
end Go.Proofs.YtacbebkaammcnaaDoor
