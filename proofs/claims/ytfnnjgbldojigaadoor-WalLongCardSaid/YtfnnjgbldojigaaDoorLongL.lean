/- WalLong. -/
import Derived.Test.YtfnnjgbldojigaaDoorGrdW
set_option linter.unusedVariables false
set_option linter.unusedSimpArgs false
namespace Go.Proofs.YtfnnjgbldojigaaDoor
open Go.RowKit Go.Proofs.YtfnnjgbldojigaaDoorW.PrintWords Go.Proofs.Mine Go.Proofs.Mine.Crc

def zs (n : Nat) : List UInt8 := List.replicate n 0
theorem zs_len (n : Nat) : (zs n).length = n := List.length_replicate
def by_C (n : Nat) : Array Value := (encs b8 (zs n)).toArray
theorem made_by (n : Nat) : madeCells #[Value.int .u8 0] n = by_C n := by
  apply Array.ext'
  show _ = (encs b8 (zs n)).toArray.toList
  rw [List.toList_toArray]
  apply List.ext_getElem
  · simp [encs, zs, madeCells]
  · intro i h1 h2
    simp [encs, zs, madeCells, Nat.mod_one, b8]
theorem mk_by (x : Int) (n : Nat) (hx : x = (n : Int)) (hn : n ≤ 1000000) : ∀ W : World, (Instr.makeSlice 32 (.int .i64 x) (.int .i64 x)).run Tryd.prog W = .ok (.slice (some ⟨W.heap.size, 0, none⟩) n n) (W.alloc (.cells (by_C n) 5)) := by
  subst hx
  rw [← made_by]
  exact print_make (P := Tryd.prog) 32 5 .u8 1 Tryd.underlying32 Tryd.info5 (by decide) n (by omega)
theorem by_reads (W : World) (n : Nat) (hn : n ≤ 1000000) : Bytes (W.alloc (.cells (by_C n) 5)) (some ⟨W.heap.size, 0, none⟩) (zs n) := lit_reads8' W 5 (0, 0) (zs n) _ _ rfl rfl (by rw [zs_len]; omega)
theorem zs_append (n : Nat) (w0 w : World) (bt bl : Nat) (room ops : Int) (rs : List (List UInt8)) (sy : Nat) (F : Nat → Prop) (h : WalIn w0 bt bl (gs room rs sy ops) (gl rs) w F) (ho : ops < 1000000000) (hn : n ≤ 65536) (hr : rs.length ≤ 1000000) (hroom : ((framesOf rs).length : Int) + (n : Int) + 8 ≤ room) :
    Calls Tryd.prog 18 #[.pointer (some ⟨bl, 0, none⟩), .slice (some ⟨w.heap.size, 0, none⟩) n n] (w.alloc (.cells (by_C n) 5)) fun r w' => r = .returned (.int .i64 0) ∧ WalOut w0 bt bl (gs room (rs ++ [zs n]) sy (ops + 1)) (gl (rs ++ [zs n])) (w.alloc (.cells (by_C n) 5)) F w' := by
  have h1 := cal_append (some ⟨w.heap.size, 0, none⟩) n (zs n) w0 (w.alloc (.cells (by_C n) 5)) bt bl room ops rs sy F (h.to ((Below.refl _ _).alloc (Nat.le_refl _) _)) ho (by_reads w n (by omega)) (by rw [zs_len]; exact hn) (fresh_out h) hr (by rw [zs_len]; exact hroom)
  rw [zs_len] at h1
  exact h1
theorem zs_long (n : Nat) (w : World) (bl : Nat) (hg : Laid w) (hn : 65536 < n) :
    Calls Tryd.prog 18 #[.pointer (some ⟨bl, 0, none⟩), .slice (some ⟨w.heap.size, 0, none⟩) n n] (w.alloc (.cells (by_C n) 5)) fun r w' => r = .returned (.int .i64 5) ∧ Below w.heap.size w w' := by
  have hB : Below w.heap.size w (w.alloc (.cells (by_C n) 5)) := (Below.refl _ _).alloc (Nat.le_refl _) _
  have h1 := wlappend_long (some ⟨w.heap.size, 0, none⟩) n (zs n) (w.alloc (.cells (by_C n) 5)) bl (hg.below hB) (by rw [zs_len]; exact hn)
  rw [zs_len] at h1
  exact h1.mono (fun r w' h => ⟨h.1, hB.trans (h.2.mono hB.size)⟩)
theorem zs_full (n : Nat) (w0 w : World) (bt bl : Nat) (room ops : Int) (F : Nat → Prop) (h : WalIn w0 bt bl (gs room [] 0 ops) (gl []) w F) (ho : ops < 1000000000) (hn : n ≤ 65536) (hroom : room < (n : Int) + 8) :
    Calls Tryd.prog 18 #[.pointer (some ⟨bl, 0, none⟩), .slice (some ⟨w.heap.size, 0, none⟩) n n] (w.alloc (.cells (by_C n) 5)) fun r w' => r = .returned (.int .i64 14) ∧ WalOut w0 bt bl (gs room [] 0 ops) (gl []) (w.alloc (.cells (by_C n) 5)) F w' := by
  have e0 : mayE (gs room [] 0 ops) (((gs room [] 0 ops).l.length : Int) + ((n8 (frameOf (zs n))).length : Int)) = 14 := by
    have e1 : (n8 (frameOf (zs n))).length = n + 8 := by rw [n8_len, frameOf_length, zs_len]
    unfold mayE
    rw [if_neg (by show ¬ (false = true); decide), if_pos (by rw [e1]; show room < ((n8 (framesOf [])).length : Int) + _; rw [n8_len]; simp only [framesOf, List.flatMap_nil, List.length_nil]; push_cast; omega)]
  have e2 : appendE (gs room [] 0 ops) (n8 (frameOf (zs n))) = 14 := by unfold appendE; rw [e0]; rfl
  have e3 : appendS (gs room [] 0 ops) (n8 (frameOf (zs n))) = gs room [] 0 ops := by unfold appendS; rw [e0]; rfl
  have h1 := wlappend_any (some ⟨w.heap.size, 0, none⟩) n (zs n) w0 (w.alloc (.cells (by_C n) 5)) bt bl _ _ F (h.to ((Below.refl _ _).alloc (Nat.le_refl _) _)) ho (by_reads w n (by omega)) (by rw [zs_len]; exact hn) (fresh_out h) (by show 0 ≤ _; omega) (by show (framesOf []).length ≤ _; simp [framesOf])
  rw [zs_len, e2, e3] at h1
  exact h1.mono (fun r w' h => ⟨h.1, h.2.2 (by decide)⟩)
set_option maxRecDepth 100000 in
set_option maxHeartbeats 2000000 in
theorem long_any (x0 x1 : Int) (w : World) (hg0 : Laid w) :
    Calls Tryd.prog 4 #[.int .i64 x0, .int .i64 x1] w fun e w' => e = .returned (.bool true) ∧ Below w.heap.size w w' := by
  have HG := Lib.hid hg0
  clear hg0
  have kc := fun (w : World) (C : Array Value) (n c : Nat) => Lib.run_convert_bytes_const (P := Tryd.prog) w 32 5 C n c Tryd.underlying32 Tryd.underlying5
  obtain ⟨m, hm⟩ : ∃ m : Nat, x0 % 4 = (m : Int) := ⟨(x0 % 4).toNat, by omega⟩
  obtain ⟨r4, hr⟩ : ∃ r : Nat, x1 % 40 = (r : Int) := ⟨(x1 % 40).toNat, by omega⟩
  have hm4 : m < 4 := by omega
  have hr40 : r4 < 40 := by omega
  have HM := Lib.hid hm
  have HR := Lib.hid hr
  clear hm hr
  obtain ⟨n1, hn1⟩ : ∃ n1, n1 = 65535 + m := ⟨_, rfl⟩
  have mk1 := mk_by (65535 + (m : Int)) n1 (by omega) (by omega)
  have mk20 := mk_by 20 20 rfl (by decide)
  have HFL := Lib.hid (show (framesOf [[102, 105, 114, 115, 116]]).length = 13 from by simp [framesOf, frameOf_length])
  by_cases hlong : 1 < m
  · have hlong2 : (1 : Int) < (m : Int) := by omega
    have hnl : 65536 < n1 := by omega
    have HN1 := Lib.hid hn1
    clear hn1
    by_cases hfit : 28 ≤ 1 + (r4 : Int)
    · go_enter Tryd.func4, Tryd.ntmps4
      go_wp2_with (first
        | (go_at_call 21; refine (cal_all w6 w10 _ bl2 _ [] F8 HN10.out (by decide) (by simp)).mono ?_; rintro r w11 ⟨v11, rfl, hv11, hB11⟩
           obtain ⟨A11, c11, rfl⟩ := Kd.R_slice hv11
           rw [show ([] : List (List UInt8)).length = 0 from rfl]
           have HB11 := Lib.hid hB11
           clear hv11 hB11)
        | (go_at_call 21; refine (cal_all w w8 bt bl _ [[102, 105, 114, 115, 116]] F5 HW8.out (show 1 ≤ 1000000 by decide) (fun r hr => by rw [List.mem_singleton.1 hr]; decide)).mono ?_; rintro r w10 ⟨v10, rfl, hv10, hB10⟩
           obtain ⟨A10, c10, rfl⟩ := Kd.R_slice hv10
           rw [show ([[102, 105, 114, 115, 116]] : List (List UInt8)).length = 1 from rfl]
           have HB10 := Lib.hid hB10
           have HN10 := Lib.hid (HN8.out.to hB10)
           clear hv10 hB10)
        | (go_at_call 18; refine (zs_append 20 w6 w9 _ bl2 (1 + (r4 : Int)) o9 [] 0 F9 HN9.out (by omega) (by decide) (by decide) (by simp [framesOf]; omega)).mono ?_; rintro r w8 ⟨rfl, F8, hW8, hF8, hK8⟩
           have HN8 := Lib.hid hW8
           have HW8 := Lib.hid (HW6.out.to hW8.below)
           clear hW8 hF8 hK8)
        | (go_at_call 15; refine (cal_open w6 w7 _ (1 + (r4 : Int)) 0 [] 0 _ HI7.out (by decide) (by simp) (by simp [framesOf])).mono ?_
           rintro r w9 ⟨bl2, F9, o9, rfl, hW9, ho9, ho9', hF9, hK9⟩
           have HN9 := Lib.hid hW9
           clear hW9 hF9 hK9)
        | (go_at_call 14; refine (new_ok (1 + (r4 : Int)) w6 (by omega) (by omega)).mono ?_; rintro r w7 ⟨rfl, hw7⟩
           have HI7 := Lib.hid (wal_start HW6.out.lw (Below.refl _ _) (1 + (r4 : Int)) (by omega) (by omega) hw7)
           clear hw7
           generalize w6.heap.size = bt2 at *)
        | (go_at_call 23; have HQ2 := HQ; refine (within4_any x1 40 w8 (by decide) (by decide)).mono ?_; rintro r w7 ⟨rfl, rfl⟩; rw [HR.out])
        | (go_at_call 23; refine (within4_any x1 40 w6 (by decide) (by decide)).mono ?_; rintro r w7 ⟨rfl, rfl⟩; rw [HR.out]; have HQ := Lib.hid (Below.refl w.heap.size w6))
        | (go_at_call 18; refine (zs_long n1 w5 bl HW5.out.lw (by omega)).mono ?_; rintro r w6 ⟨rfl, hB6⟩
           have HW6 := Lib.hid (HW5.out.to hB6)
           clear hB6)
        | (go_at_call 18; refine (cal_append _ _ [102, 105, 114, 115, 116] w _ bt bl 131072 o4 [] _ F4 (HW4.out.to ((Below.refl _ _).alloc (Nat.le_refl _) _)) (by omega) (lit_reads8' w4 5 (5, 6) [102, 105, 114, 115, 116] _ 5 rfl rfl (by decide)) (by decide) (fresh_out HW4.out) (by decide) (by simp [framesOf])).mono ?_
           rintro r w5 ⟨rfl, F5, hW5, hF5, hK5⟩
           have HW5 := Lib.hid hW5
           clear hW5 hF5 hK5)
        | (go_at_call 15; refine (cal_open w w3 bt 131072 0 [] 0 _ HI.out (by decide) (by simp) (by simp [framesOf])).mono ?_
           rintro r w4 ⟨bl, F4, o4, rfl, hW4, ho4, ho4', hF4, hK4⟩
           have HW4 := Lib.hid hW4
           clear hW4 hF4 hK4)
        | (go_at_call 14; refine (new_ok 131072 w1 (by decide) (by decide)).mono ?_; rintro r w3 ⟨rfl, hw3⟩
           have HI := Lib.hid (wal_start HG.out HB1.out 131072 (by decide) (by decide) hw3)
           clear hw3
           generalize w1.heap.size = bt at *)
        | (go_at_call 23; refine (within4_any x0 4 w1 (by decide) (by decide)).mono ?_; rintro r w2 ⟨rfl, rfl⟩; rw [HM.out])
        | (go_at_call 13; refine (known4_any w HG.out).mono ?_; rintro r w1 ⟨rfl, hB⟩; have HB1 := Lib.hid hB; clear hB))
      go_ret
      exact ⟨rfl, (HW8.out.to HB10.out).below⟩

    · have hfitd : decide (28 ≤ 1 + (r4 : Int)) = false := decide_eq_false hfit
      go_enter Tryd.func4, Tryd.ntmps4
      go_wp2_with (first
        | (go_at_call 21; refine (cal_all w6 w10 _ bl2 _ [] F8 HN10.out (by decide) (by simp)).mono ?_; rintro r w11 ⟨v11, rfl, hv11, hB11⟩
           obtain ⟨A11, c11, rfl⟩ := Kd.R_slice hv11
           rw [show ([] : List (List UInt8)).length = 0 from rfl]
           have HB11 := Lib.hid hB11
           clear hv11 hB11)
        | (go_at_call 21; refine (cal_all w w8 bt bl _ [[102, 105, 114, 115, 116]] F5 HW8.out (show 1 ≤ 1000000 by decide) (fun r hr => by rw [List.mem_singleton.1 hr]; decide)).mono ?_; rintro r w10 ⟨v10, rfl, hv10, hB10⟩
           obtain ⟨A10, c10, rfl⟩ := Kd.R_slice hv10
           rw [show ([[102, 105, 114, 115, 116]] : List (List UInt8)).length = 1 from rfl]
           have HB10 := Lib.hid hB10
           have HN10 := Lib.hid (HN8.out.to hB10)
           clear hv10 hB10)
        | (go_at_call 18; refine (zs_full 20 w6 w9 _ bl2 (1 + (r4 : Int)) o9 F9 HN9.out (by omega) (by decide) (by push_cast; omega)).mono ?_; rintro r w8 ⟨rfl, F8, hW8, hF8, hK8⟩
           have HN8 := Lib.hid hW8
           have HW8 := Lib.hid (HW6.out.to hW8.below)
           clear hW8 hF8 hK8)
        | (go_at_call 15; refine (cal_open w6 w7 _ (1 + (r4 : Int)) 0 [] 0 _ HI7.out (by decide) (by simp) (by simp [framesOf])).mono ?_
           rintro r w9 ⟨bl2, F9, o9, rfl, hW9, ho9, ho9', hF9, hK9⟩
           have HN9 := Lib.hid hW9
           clear hW9 hF9 hK9)
        | (go_at_call 14; refine (new_ok (1 + (r4 : Int)) w6 (by omega) (by omega)).mono ?_; rintro r w7 ⟨rfl, hw7⟩
           have HI7 := Lib.hid (wal_start HW6.out.lw (Below.refl _ _) (1 + (r4 : Int)) (by omega) (by omega) hw7)
           clear hw7
           generalize w6.heap.size = bt2 at *)
        | (go_at_call 23; have HQ2 := HQ; refine (within4_any x1 40 w8 (by decide) (by decide)).mono ?_; rintro r w7 ⟨rfl, rfl⟩; rw [HR.out])
        | (go_at_call 23; refine (within4_any x1 40 w6 (by decide) (by decide)).mono ?_; rintro r w7 ⟨rfl, rfl⟩; rw [HR.out]; have HQ := Lib.hid (Below.refl w.heap.size w6))
        | (go_at_call 18; refine (zs_long n1 w5 bl HW5.out.lw (by omega)).mono ?_; rintro r w6 ⟨rfl, hB6⟩
           have HW6 := Lib.hid (HW5.out.to hB6)
           clear hB6)
        | (go_at_call 18; refine (cal_append _ _ [102, 105, 114, 115, 116] w _ bt bl 131072 o4 [] _ F4 (HW4.out.to ((Below.refl _ _).alloc (Nat.le_refl _) _)) (by omega) (lit_reads8' w4 5 (5, 6) [102, 105, 114, 115, 116] _ 5 rfl rfl (by decide)) (by decide) (fresh_out HW4.out) (by decide) (by simp [framesOf])).mono ?_
           rintro r w5 ⟨rfl, F5, hW5, hF5, hK5⟩
           have HW5 := Lib.hid hW5
           clear hW5 hF5 hK5)
        | (go_at_call 15; refine (cal_open w w3 bt 131072 0 [] 0 _ HI.out (by decide) (by simp) (by simp [framesOf])).mono ?_
           rintro r w4 ⟨bl, F4, o4, rfl, hW4, ho4, ho4', hF4, hK4⟩
           have HW4 := Lib.hid hW4
           clear hW4 hF4 hK4)
        | (go_at_call 14; refine (new_ok 131072 w1 (by decide) (by decide)).mono ?_; rintro r w3 ⟨rfl, hw3⟩
           have HI := Lib.hid (wal_start HG.out HB1.out 131072 (by decide) (by decide) hw3)
           clear hw3
           generalize w1.heap.size = bt at *)
        | (go_at_call 23; refine (within4_any x0 4 w1 (by decide) (by decide)).mono ?_; rintro r w2 ⟨rfl, rfl⟩; rw [HM.out])
        | (go_at_call 13; refine (known4_any w HG.out).mono ?_; rintro r w1 ⟨rfl, hB⟩; have HB1 := Lib.hid hB; clear hB))
      go_ret
      exact ⟨rfl, ((HW8.out.to HB10.out).to HB11.out).below⟩

  · have hlong2 : ¬ ((1 : Int) < (m : Int)) := by omega
    have hnl : n1 ≤ 65536 := by omega
    have HN1 := Lib.hid hn1
    clear hn1
    by_cases hfit : 28 ≤ 1 + (r4 : Int)
    · go_enter Tryd.func4, Tryd.ntmps4
      go_wp2_with (first
        | (go_at_call 21; refine (cal_all w6 w10 _ bl2 _ [] F8 HN10.out (by decide) (by simp)).mono ?_; rintro r w11 ⟨v11, rfl, hv11, hB11⟩
           obtain ⟨A11, c11, rfl⟩ := Kd.R_slice hv11
           rw [show ([] : List (List UInt8)).length = 0 from rfl]
           have HB11 := Lib.hid hB11
           clear hv11 hB11)
        | (go_at_call 21; refine (cal_all w w8 bt bl _ ([[102, 105, 114, 115, 116]] ++ [zs n1]) F6 HW8.out (show 2 ≤ 1000000 by decide) (fun r hr => (List.mem_append.1 hr).elim (fun e => by rw [List.mem_singleton.1 e]; decide) (fun hr => by rw [List.mem_singleton.1 hr, zs_len]; omega))).mono ?_; rintro r w10 ⟨v10, rfl, hv10, hB10⟩
           obtain ⟨A10, c10, rfl⟩ := Kd.R_slice hv10
           rw [show (([[102, 105, 114, 115, 116]] ++ [zs n1]) : List (List UInt8)).length = 2 from rfl]
           have HB10 := Lib.hid hB10
           have HN10 := Lib.hid (HN8.out.to hB10)
           clear hv10 hB10)
        | (go_at_call 18; refine (zs_append 20 w6 w9 _ bl2 (1 + (r4 : Int)) o9 [] 0 F9 HN9.out (by omega) (by decide) (by decide) (by simp [framesOf]; omega)).mono ?_; rintro r w8 ⟨rfl, F8, hW8, hF8, hK8⟩
           have HN8 := Lib.hid hW8
           have HW8 := Lib.hid (HW6.out.to hW8.below)
           clear hW8 hF8 hK8)
        | (go_at_call 15; refine (cal_open w6 w7 _ (1 + (r4 : Int)) 0 [] 0 _ HI7.out (by decide) (by simp) (by simp [framesOf])).mono ?_
           rintro r w9 ⟨bl2, F9, o9, rfl, hW9, ho9, ho9', hF9, hK9⟩
           have HN9 := Lib.hid hW9
           clear hW9 hF9 hK9)
        | (go_at_call 14; refine (new_ok (1 + (r4 : Int)) w6 (by omega) (by omega)).mono ?_; rintro r w7 ⟨rfl, hw7⟩
           have HI7 := Lib.hid (wal_start HW6.out.lw (Below.refl _ _) (1 + (r4 : Int)) (by omega) (by omega) hw7)
           clear hw7
           generalize w6.heap.size = bt2 at *)
        | (go_at_call 23; have HQ2 := HQ; refine (within4_any x1 40 w8 (by decide) (by decide)).mono ?_; rintro r w7 ⟨rfl, rfl⟩; rw [HR.out])
        | (go_at_call 23; refine (within4_any x1 40 w6 (by decide) (by decide)).mono ?_; rintro r w7 ⟨rfl, rfl⟩; rw [HR.out]; have HQ := Lib.hid (Below.refl w.heap.size w6))
        | (go_at_call 18; refine (zs_append n1 w w5 bt bl 131072 (o4 + 1) [[102, 105, 114, 115, 116]] 0 F5 HW5.out (by omega) (by omega) (by decide) (by rw [HFL.out]; push_cast; omega)).mono ?_; rintro r w6 ⟨rfl, F6, hW6, hF6, hK6⟩
           have HW6 := Lib.hid hW6
           clear hW6 hF6 hK6)
        | (go_at_call 18; refine (cal_append _ _ [102, 105, 114, 115, 116] w _ bt bl 131072 o4 [] _ F4 (HW4.out.to ((Below.refl _ _).alloc (Nat.le_refl _) _)) (by omega) (lit_reads8' w4 5 (5, 6) [102, 105, 114, 115, 116] _ 5 rfl rfl (by decide)) (by decide) (fresh_out HW4.out) (by decide) (by simp [framesOf])).mono ?_
           rintro r w5 ⟨rfl, F5, hW5, hF5, hK5⟩
           have HW5 := Lib.hid hW5
           clear hW5 hF5 hK5)
        | (go_at_call 15; refine (cal_open w w3 bt 131072 0 [] 0 _ HI.out (by decide) (by simp) (by simp [framesOf])).mono ?_
           rintro r w4 ⟨bl, F4, o4, rfl, hW4, ho4, ho4', hF4, hK4⟩
           have HW4 := Lib.hid hW4
           clear hW4 hF4 hK4)
        | (go_at_call 14; refine (new_ok 131072 w1 (by decide) (by decide)).mono ?_; rintro r w3 ⟨rfl, hw3⟩
           have HI := Lib.hid (wal_start HG.out HB1.out 131072 (by decide) (by decide) hw3)
           clear hw3
           generalize w1.heap.size = bt at *)
        | (go_at_call 23; refine (within4_any x0 4 w1 (by decide) (by decide)).mono ?_; rintro r w2 ⟨rfl, rfl⟩; rw [HM.out])
        | (go_at_call 13; refine (known4_any w HG.out).mono ?_; rintro r w1 ⟨rfl, hB⟩; have HB1 := Lib.hid hB; clear hB))
      go_ret
      exact ⟨rfl, (HW8.out.to HB10.out).below⟩

    · have hfitd : decide (28 ≤ 1 + (r4 : Int)) = false := decide_eq_false hfit
      go_enter Tryd.func4, Tryd.ntmps4
      go_wp2_with (first
        | (go_at_call 21; refine (cal_all w6 w10 _ bl2 _ [] F8 HN10.out (by decide) (by simp)).mono ?_; rintro r w11 ⟨v11, rfl, hv11, hB11⟩
           obtain ⟨A11, c11, rfl⟩ := Kd.R_slice hv11
           rw [show ([] : List (List UInt8)).length = 0 from rfl]
           have HB11 := Lib.hid hB11
           clear hv11 hB11)
        | (go_at_call 21; refine (cal_all w w8 bt bl _ ([[102, 105, 114, 115, 116]] ++ [zs n1]) F6 HW8.out (show 2 ≤ 1000000 by decide) (fun r hr => (List.mem_append.1 hr).elim (fun e => by rw [List.mem_singleton.1 e]; decide) (fun hr => by rw [List.mem_singleton.1 hr, zs_len]; omega))).mono ?_; rintro r w10 ⟨v10, rfl, hv10, hB10⟩
           obtain ⟨A10, c10, rfl⟩ := Kd.R_slice hv10
           rw [show (([[102, 105, 114, 115, 116]] ++ [zs n1]) : List (List UInt8)).length = 2 from rfl]
           have HB10 := Lib.hid hB10
           have HN10 := Lib.hid (HN8.out.to hB10)
           clear hv10 hB10)
        | (go_at_call 18; refine (zs_full 20 w6 w9 _ bl2 (1 + (r4 : Int)) o9 F9 HN9.out (by omega) (by decide) (by push_cast; omega)).mono ?_; rintro r w8 ⟨rfl, F8, hW8, hF8, hK8⟩
           have HN8 := Lib.hid hW8
           have HW8 := Lib.hid (HW6.out.to hW8.below)
           clear hW8 hF8 hK8)
        | (go_at_call 15; refine (cal_open w6 w7 _ (1 + (r4 : Int)) 0 [] 0 _ HI7.out (by decide) (by simp) (by simp [framesOf])).mono ?_
           rintro r w9 ⟨bl2, F9, o9, rfl, hW9, ho9, ho9', hF9, hK9⟩
           have HN9 := Lib.hid hW9
           clear hW9 hF9 hK9)
        | (go_at_call 14; refine (new_ok (1 + (r4 : Int)) w6 (by omega) (by omega)).mono ?_; rintro r w7 ⟨rfl, hw7⟩
           have HI7 := Lib.hid (wal_start HW6.out.lw (Below.refl _ _) (1 + (r4 : Int)) (by omega) (by omega) hw7)
           clear hw7
           generalize w6.heap.size = bt2 at *)
        | (go_at_call 23; have HQ2 := HQ; refine (within4_any x1 40 w8 (by decide) (by decide)).mono ?_; rintro r w7 ⟨rfl, rfl⟩; rw [HR.out])
        | (go_at_call 23; refine (within4_any x1 40 w6 (by decide) (by decide)).mono ?_; rintro r w7 ⟨rfl, rfl⟩; rw [HR.out]; have HQ := Lib.hid (Below.refl w.heap.size w6))
        | (go_at_call 18; refine (zs_append n1 w w5 bt bl 131072 (o4 + 1) [[102, 105, 114, 115, 116]] 0 F5 HW5.out (by omega) (by omega) (by decide) (by rw [HFL.out]; push_cast; omega)).mono ?_; rintro r w6 ⟨rfl, F6, hW6, hF6, hK6⟩
           have HW6 := Lib.hid hW6
           clear hW6 hF6 hK6)
        | (go_at_call 18; refine (cal_append _ _ [102, 105, 114, 115, 116] w _ bt bl 131072 o4 [] _ F4 (HW4.out.to ((Below.refl _ _).alloc (Nat.le_refl _) _)) (by omega) (lit_reads8' w4 5 (5, 6) [102, 105, 114, 115, 116] _ 5 rfl rfl (by decide)) (by decide) (fresh_out HW4.out) (by decide) (by simp [framesOf])).mono ?_
           rintro r w5 ⟨rfl, F5, hW5, hF5, hK5⟩
           have HW5 := Lib.hid hW5
           clear hW5 hF5 hK5)
        | (go_at_call 15; refine (cal_open w w3 bt 131072 0 [] 0 _ HI.out (by decide) (by simp) (by simp [framesOf])).mono ?_
           rintro r w4 ⟨bl, F4, o4, rfl, hW4, ho4, ho4', hF4, hK4⟩
           have HW4 := Lib.hid hW4
           clear hW4 hF4 hK4)
        | (go_at_call 14; refine (new_ok 131072 w1 (by decide) (by decide)).mono ?_; rintro r w3 ⟨rfl, hw3⟩
           have HI := Lib.hid (wal_start HG.out HB1.out 131072 (by decide) (by decide) hw3)
           clear hw3
           generalize w1.heap.size = bt at *)
        | (go_at_call 23; refine (within4_any x0 4 w1 (by decide) (by decide)).mono ?_; rintro r w2 ⟨rfl, rfl⟩; rw [HM.out])
        | (go_at_call 13; refine (known4_any w HG.out).mono ?_; rintro r w1 ⟨rfl, hB⟩; have HB1 := Lib.hid hB; clear hB))
      go_ret
      exact ⟨rfl, ((HW8.out.to HB10.out).to HB11.out).below⟩

theorem long_row (x0 x1 : Int) (w : World) (hg0 : Laid w) (_ : (Lit.int .i64 x0).wf = true) (_ : (Lit.int .i64 x1).wf = true) :
    Calls Tryd.prog 4 #[.int .i64 x0, .int .i64 x1] w fun e w' => e = .returned (.bool true) ∧ Below w.heap.size w w' := long_any x0 x1 w hg0
end Go.Proofs.YtfnnjgbldojigaaDoor
