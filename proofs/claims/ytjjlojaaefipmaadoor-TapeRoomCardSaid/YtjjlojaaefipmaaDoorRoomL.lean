/- The walk of TapeRoom. -/
import Derived.Test.YtjjlojaaefipmaaDoorFrontsL
set_option linter.unusedVariables false
set_option linter.unusedSimpArgs false
namespace Go.Proofs.YtjjlojaaefipmaaDoor
open Go.RowKit Go.Proofs.YtjjlojaaefipmaaDoorW.PrintWords Go.Proofs.Mine

theorem mk_by (x : Int) (n : Nat) (hx : x = (n : Int)) (hn : n ≤ 1000) : ∀ W : World, (Instr.makeSlice 22 (.int .i64 x) (.int .i64 x)).run Tryd.prog W = .ok (.slice (some ⟨W.heap.size, 0, none⟩) n n) (W.alloc (.cells (madeCells #[.int .u8 0] n) 5)) := by
  subst hx; exact print_make (P := Tryd.prog) 22 5 .u8 1 Tryd.underlying22 info5 (by decide) n (by omega)
theorem made_reads (W : World) (n : Nat) (hn : n ≤ 1000) : ReadsInt (W.alloc (.cells (madeCells #[.int .u8 0] n) 5)) .u8 (some ⟨W.heap.size, 0, none⟩) n (List.replicate n 0) :=
  own_reads' (own_made W W.heap.size 5 .u8 n (Nat.le_refl _) (by omega))
theorem in_alloc {w0 w : World} {b : Nat} {s : TS} {F : Nat → Prop} (h : TapeIn w0 b s w F) (o : Obj) : TapeIn w0 b s (w.alloc o) F := h.to ((Below.refl _ _).alloc (Nat.le_refl _) o)
/-- make([]byte, n), appended, put in the place of all. -/
theorem append_made (n : Nat) (w0 w : World) (b : Nat) (F : Nat → Prop) (s : TS) (h : TapeIn w0 b s w F) (ho : s.ops < 1000000000) (hn : n ≤ 1000) :
    Calls Tryd.prog 10 #[.pointer (some ⟨b, 0, none⟩), .slice (some ⟨w.heap.size, 0, none⟩) n n] (w.alloc (.cells (madeCells #[.int .u8 0] n) 5)) fun r w' => r = .returned (.int .i64 (appendE s (List.replicate n 0))) ∧ ∃ F', TapeIn w0 b (appendS s (List.replicate n 0)) w' F' := by
  have hc := append_in (some ⟨w.heap.size, 0, none⟩) n (List.replicate n 0) w0 _ b F s (in_alloc h (.cells (madeCells #[.int .u8 0] n) 5)) ho (by rw [List.length_replicate]; exact made_reads w n hn) (fun _ a e hf => by injection e with e; subst e; have := (h.at_.2.1 _ hf).2; simp at this) (by rw [List.length_replicate]; omega)
  rw [List.length_replicate] at hc
  refine hc.mono ?_
  rintro r w' ⟨rfl, F', hT, _, _⟩
  exact ⟨rfl, F', hT⟩
theorem replace_made (n : Nat) (w0 w : World) (b : Nat) (F : Nat → Prop) (s : TS) (h : TapeIn w0 b s w F) (ho : s.ops < 1000000000) (hn : n ≤ 1000) :
    Calls Tryd.prog 15 #[.pointer (some ⟨b, 0, none⟩), .slice (some ⟨w.heap.size, 0, none⟩) n n] (w.alloc (.cells (madeCells #[.int .u8 0] n) 5)) fun r w' => r = .returned (.int .i64 (replaceE s (List.replicate n 0))) ∧ ∃ F', TapeIn w0 b (replaceS s (List.replicate n 0)) w' F' := by
  have hc := replace_in (some ⟨w.heap.size, 0, none⟩) n (List.replicate n 0) w0 _ b F s (in_alloc h (.cells (madeCells #[.int .u8 0] n) 5)) ho (by rw [List.length_replicate]; exact made_reads w n hn) (fun _ a e hf => by injection e with e; subst e; have := (h.at_.2.1 _ hf).2; simp at this)
  rw [List.length_replicate] at hc
  refine hc.mono ?_
  rintro r w' ⟨rfl, F', hT, _, _⟩
  exact ⟨rfl, F', hT⟩
set_option maxRecDepth 100000 in
set_option maxHeartbeats 2000000 in
theorem room_any (a0 : Int) (A1 : Option Addr) (cap1 : Nat) (ps : List Int) (w : World) (hg0 : Laid w) (hr1 : ReadsInt w .i64 A1 ps.length ps) :
    Calls Tryd.prog 5 #[.int .i64 a0, .slice A1 ps.length cap1] w fun e w' => e = .returned (.bool true) ∧ Below w.heap.size w w' := by
  have HG := Lib.hid hg0
  have R1 := Lib.hid hr1
  have hm1 := hr1.2.1
  clear hg0 hr1
  obtain ⟨d, hd⟩ : ∃ d, d = a0 % 200 := ⟨_, rfl⟩
  obtain ⟨rN, hrN⟩ : ∃ n : Nat, (1 : Int) + d = (n : Int) := ⟨(1 + d).toNat, by omega⟩
  have hr0 : 1 ≤ rN := by omega
  have hr2 : rN ≤ 200 := by omega
  have hd0 : 0 ≤ d := by omega
  have hd1 : d ≤ 199 := by omega
  have HD := Lib.hid hd
  clear hd
  have mkR := mk_by (rN : Int) rN rfl (by omega)
  have mkR1 := mk_by ((rN : Int) + 1) (rN + 1) (by omega) (by omega)
  go_enter Tryd.func5, Tryd.ntmps5
  go_wp2_with (first
    | (go_at_call 8; refine (known_any w HG.out).mono ?_; rintro e w1 ⟨rfl, hB⟩; have HB1 := Lib.hid hB; clear hB)
    | (go_at_call 14; refine (within_any a0 200 _ (by decide) (by decide)).mono ?_; rintro e w2 ⟨rfl, rfl⟩; rw [← HD.out])
    | (go_at_call 9; refine (new_ok (rN : Int) w1 (by omega) (by omega)).mono ?_; rintro r w2 ⟨rfl, hw2⟩; have HI := in_new HG.out HB1.out (rN : Int) (by omega) (by omega); rw [← hw2] at HI; have HT2 := Lib.hid HI; clear HI hw2; generalize w1.heap.size = b at *))
  go_loopw [7, 8, 9, 10] (fun nv iv _ _ wr => ∃ (j : Nat) (L : List Int) (ops : Int) (F : Nat → Prop), j ≤ 30 ∧ j ≤ ps.length ∧ iv = .int .i64 (j : Int) ∧ nv = .int .i64 (L.length : Int) ∧ 0 ≤ ops ∧ ops ≤ j ∧ TapeIn w b ⟨(rN : Int), L, 0, 0, false, ops⟩ wr F) (fun _ iv _ _ _ => 30 - (intOf iv).toNat)
  case atStart => exact ⟨0, [], 0, _, by omega, by omega, rfl, rfl, by decide, by decide, HT2.out⟩
  case round =>
    obtain ⟨j, L, ops, F, hj30, hjp, rfl, rfl, ho0, ho1, hT⟩ := hrel
    have hLr : (L.length : Int) ≤ (rN : Int) := hT.ok.len
    have HT := Lib.hid hT
    clear hT HT2
    by_cases hlt : j < ps.length ∧ j < 30
    · obtain ⟨adp, rfl, hcp⟩ := R1.out.at_ j (by omega) (by omega)
      rw [Int.toNat_natCast] at hcp
      have q1 : wr.cell? (adp.add j) = some (.int .i64 (rd ps j)) := pw_cell_below HT.out.below hcp
      clear hcp
      generalize rd ps j = q at *
      obtain ⟨kN, hk⟩ : ∃ n : Nat, q % 60 = (n : Int) := ⟨(q % 60).toNat, by omega⟩
      have hk60 : kN < 60 := by omega
      have HK := Lib.hid hk
      clear hk
      have mkK := mk_by (kN : Int) kN rfl (by omega)
      have hlt1 : (j : Int) < (ps.length : Int) := by omega
      have hlt2 : (j : Int) < 30 := by omega
      have hj0 : (0 : Int) ≤ (j : Int) := by omega
      by_cases hfit : (L.length : Int) + (kN : Int) ≤ (rN : Int)
      · obtain ⟨L2, hL2⟩ : ∃ z, z = L ++ List.replicate kN 0 := ⟨_, rfl⟩
        have hl2 : L2.length = L.length + kN := by rw [hL2, List.length_append, List.length_replicate]
        have HL2 := Lib.hid hL2
        clear hL2
        go_wp2_with (first
          | (go_at_call 14; refine (within_any q 60 _ (by decide) (by decide)).mono ?_; rintro e w2 ⟨rfl, rfl⟩; rw [HK.out])
          | (go_at_call 10
             refine (append_made kN w wr b F _ HT.out (by show ops < 1000000000; omega) (by omega)).mono ?_
             rintro r w3 ⟨rfl, F3, hT3⟩
             obtain ⟨e3, s3⟩ := apd_plain (rN : Int) ops L (List.replicate kN 0) 0 (by rw [List.length_replicate]; exact hfit)
             rw [s3, ← HL2.out] at hT3
             rw [e3]
             have HT3 := Lib.hid hT3
             clear hT3 e3 s3)
          | (go_at_call 13
             refine (bytes_in w w3 b F3 _ HT3.out).mono ?_
             rintro r w4 ⟨A4, c4, rfl, hT4, _, _⟩
             have HT4 := Lib.hid hT4
             clear hT4))
        exact ⟨⟨j + 1, L2, ops + 1, F3, by omega, by omega, by simp, by rw [hl2]; simp, by omega, by push_cast; omega, HT4.out⟩, by simp [intOf]; omega⟩
      · have hfull : (rN : Int) < (L.length : Int) + (kN : Int) := by omega
        go_wp2_with (first
          | (go_at_call 14; refine (within_any q 60 _ (by decide) (by decide)).mono ?_; rintro e w2 ⟨rfl, rfl⟩; rw [HK.out])
          | (go_at_call 10
             refine (append_made kN w wr b F _ HT.out (by show ops < 1000000000; omega) (by omega)).mono ?_
             rintro r w3 ⟨rfl, F3, hT3⟩
             obtain ⟨e3, s3⟩ := apd_full (rN : Int) ops L (List.replicate kN 0) 0 (by rw [List.length_replicate]; exact hfull)
             rw [s3] at hT3
             rw [e3]
             have HT3 := Lib.hid hT3
             clear hT3 e3 s3)
          | (go_at_call 13
             refine (bytes_in w w3 b F3 _ HT3.out).mono ?_
             rintro r w4 ⟨A4, c4, rfl, hT4, _, _⟩
             have HT4 := Lib.hid hT4
             clear hT4))
        exact ⟨⟨j + 1, L, ops, F3, by omega, by omega, by simp, rfl, by omega, by push_cast; omega, HT4.out⟩, by simp [intOf]; omega⟩
    · have ht : decide ((j : Int) < (ps.length : Int)) = false ∨ ((j : Int) < (ps.length : Int) ∧ decide ((j : Int) < 30) = false) := by
        by_cases h1 : j < ps.length
        · exact .inr ⟨by omega, by simp; omega⟩
        · exact .inl (by simp; omega)
      rcases ht with ht | ⟨ht0, ht⟩
      all_goals
        go_wp2_with (first
          | (have hx := HT4.out
             go_at_call 15
             refine (replace_in none 0 [] w w4 b F3 _ hx (by show ops < 1000000000; omega) ⟨rfl, by decide, fun h => absurd h (by decide)⟩ (fun h => absurd h (by decide))).mono ?_
             rintro r w5 ⟨rfl, F5, hT5, _, _⟩
             obtain ⟨e5, s5⟩ := rep_plain (rN : Int) ops L [] 0 (by show ((0 : Nat) : Int) ≤ (rN : Int); omega)
             rw [s5] at hT5
             rw [e5]
             have HT5 := Lib.hid hT5
             clear hT5 e5 s5)
          | (go_at_call 15
             refine (replace_made (rN + 1) w wr b F _ HT.out (by show ops < 1000000000; omega) (by omega)).mono ?_
             rintro r w3 ⟨rfl, F3, hT3⟩
             obtain ⟨e3, s3⟩ := rep_full (rN : Int) ops L (List.replicate (rN + 1) 0) 0 (by rw [List.length_replicate]; omega)
             rw [s3] at hT3
             rw [e3]
             have HT3 := Lib.hid hT3
             clear hT3 e3 s3)
          | (go_at_call 13
             refine (bytes_in w w3 b F3 _ HT3.out).mono ?_
             rintro r w4 ⟨A4, c4, rfl, hT4, _, _⟩
             have HT4 := Lib.hid hT4
             clear hT4)
          | (go_at_call 10
             refine (append_made rN w w5 b F5 _ HT5.out (by show ops + 1 < 1000000000; omega) (by omega)).mono ?_
             rintro r w6 ⟨rfl, F6, hT6⟩
             obtain ⟨e6, s6⟩ := apd_plain (rN : Int) (ops + 1) [] (List.replicate rN 0) 0 (by rw [List.length_replicate]; show ((0 : Nat) : Int) + (rN : Int) ≤ (rN : Int); omega)
             rw [show appendE ⟨(rN : Int), [], ([] : List Int).length, 0, false, ops + 1⟩ (List.replicate rN 0) = 0 from e6]
             have HT6 := Lib.hid hT6.below
             clear hT6 e6 s6))
        all_goals
          go_ret
          exact ⟨rfl, HT6.out⟩
theorem room_row (a0 : Int) (a1 : Option Addr) (cap1 : Nat) (l1 : List Int) (w : World) (hg : Laid w) (_ : (Lit.int .i64 a0).wf = true) (hr1 : ReadsInt w .i64 a1 l1.length l1) (_ : l1.length ≤ cap1) (_ : l1.length * 8 ≤ 140737488351232) (_ : ∀ x ∈ l1, (Lit.int .i64 x).wf = true) :
    Calls Tryd.prog 5 #[.int .i64 a0, .slice a1 l1.length cap1] w fun e w' => e = .returned (.bool true) ∧ Below w.heap.size w w' := room_any a0 a1 cap1 l1 w hg hr1
end Go.Proofs.YtjjlojaaefipmaaDoor
