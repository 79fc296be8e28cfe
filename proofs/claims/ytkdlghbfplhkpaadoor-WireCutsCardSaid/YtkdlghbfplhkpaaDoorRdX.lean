/- The row that wire reads from: texts, rows of numbers, its end. -/
import Derived.Test.YtkdlghbfplhkpaaDoorRdW
set_option linter.unusedVariables false
set_option linter.unusedSimpArgs false
namespace Go.Proofs.YtkdlghbfplhkpaaDoor
open Go.RowKit Go.Proofs.YtkdlghbfplhkpaaDoorW.PrintWords Go.Proofs.Mine

/-- The error's cell of a reading row. -/
theorem rd_err {w : World} {base b : Nat} {F : Nat → Prop} {s : St} (h : RdAt w base F b s) : ∃ ev, w.cell? ⟨b, 1, none⟩ = some ev ∧ ((s.2 = 0 ∧ ev = .nilIface) ∨ (s.2 ≠ 0 ∧ ∃ b2, ev = .iface 108 (.pointer (some ⟨b2, 0, none⟩)) ∧ w.cell? ⟨b2, 1, none⟩ = some (.iface 33 (.int .i64 s.2)))) := by
  obtain ⟨h1, h2, hb, A, c, ev, h3, h4, h5, h6, h7⟩ := h
  refine ⟨ev, blk_cell h3 1, ?_⟩
  rcases h7 with h7 | ⟨h7, b2, _, _, h8, h9⟩
  · exact .inl h7
  · exact .inr ⟨h7, b2, h8, h9⟩
theorem rd_row {w : World} {base b : Nat} {F : Nat → Prop} {s : St} (h : RdAt w base F b s) : ∃ A c, w.cell? ⟨b, 0, none⟩ = some (.slice A s.1.length c) := by
  obtain ⟨h1, h2, hb, A, c, ev, h3, h4, h5, h6, h7⟩ := h
  exact ⟨A, c, blk_cell h3 0⟩
set_option maxRecDepth 100000 in
set_option maxHeartbeats 2000000 in
theorem str_any (w : World) (base b : Nat) (F : Nat → Prop) (s : St) (h : RdAt w base F b s) :
    Calls Tryd.prog 62 #[.pointer (some ⟨b, 0, none⟩)] w fun r w' => r = .returned (.string (strOfNums (strV s))) ∧ Rd' w base F b (strS s) w' := by
  have HH := Lib.hid h
  have hv := oneV_byte h.2.2.1
  obtain ⟨y, hy⟩ : ∃ y, y = oneV s := ⟨_, rfl⟩
  have HY := Lib.hid hy
  have hy0 : 0 ≤ y := by omega
  unfold strV strS
  rw [← hy]
  clear hy h hv
  by_cases hm : 16 < y
  · rw [if_pos hm, if_pos hm]
    have he : strOfNums [] = (⟨#[]⟩ : ByteArray) := rfl
    rw [he]
    clear he
    go_enter Tryd.func62, Tryd.ntmps62
    go_wp2_with (first
      | (go_at_call 38; refine (one_any w base b F s HH.out).mono ?_; rintro r w1 ⟨rfl, F1, h1, hF1, hK1⟩; rw [← HY.out]; have H1 := Lib.hid h1; clear h1)
      | (go_at_call 39; refine (rfail_any _ 5 w1 base b F1 _ H1.out (by decide)).mono ?_; rintro r w2 ⟨rfl, h2⟩; have HR := Lib.hid (Rd'.after hF1 hK1 h2); clear h2 hF1 hK1))
    go_ret
    exact ⟨rfl, HR.out⟩
  · rw [if_neg hm, if_neg hm]
    obtain ⟨n, hn⟩ := Int.eq_ofNat_of_zero_le hy0
    have hn16 : n ≤ 16 := by omega
    have HN := Lib.hid hn
    rw [hn, Int.toNat_natCast]
    have hm2 : ¬ ((16 : Int) < (n : Int)) := by omega
    clear hn hm hy0
    by_cases he : (takeS (oneS s) n).2 = 0
    · rw [if_pos he]
      have HE := Lib.hid he
      clear he
      go_enter Tryd.func62, Tryd.ntmps62
      go_wp2_with (first
        | (go_at_call 38; refine (one_any w base b F s HH.out).mono ?_; rintro r w1 ⟨rfl, F1, h1, hF1, hK1⟩; rw [← HY.out, HN.out]; have H1 := Lib.hid h1; have HF1 := Lib.hid hF1; have HK1 := Lib.hid hK1; clear h1 hF1 hK1)
        | (go_at_call 60; refine (take_any n w1 base b F1 _ (by omega) H1.out).mono ?_; rintro r w2 ⟨A, c, rfl, hr, h2⟩
           have hcv : (convert 24 9 (.slice A n c)).run Tryd.prog w2 = .ok (.string (strOfNums (takeV (oneS s) n))) w2 := string_of_reads Tryd.underlying24 Tryd.underlying5 Tryd.underlying9 hr
           have HR := Lib.hid (Rd'.after HF1.out HK1.out h2)
           obtain ⟨F2, h3, _, _⟩ := h2
           obtain ⟨ev, hc1, hev⟩ := rd_err h3
           obtain rfl : ev = .nilIface := hev.elim (fun h => h.2) (fun h => absurd HE.out h.1)
           clear hr h3 hev))
      go_ret
      exact ⟨rfl, HR.out⟩
    · rw [if_neg he]
      have HE := Lib.hid he
      have he0 : strOfNums [] = (⟨#[]⟩ : ByteArray) := rfl
      rw [he0]
      clear he he0
      go_enter Tryd.func62, Tryd.ntmps62
      go_wp2_with (first
        | (go_at_call 38; refine (one_any w base b F s HH.out).mono ?_; rintro r w1 ⟨rfl, F1, h1, hF1, hK1⟩; rw [← HY.out, HN.out]; have H1 := Lib.hid h1; have HF1 := Lib.hid hF1; have HK1 := Lib.hid hK1; clear h1 hF1 hK1)
        | (go_at_call 60; refine (take_any n w1 base b F1 _ (by omega) H1.out).mono ?_; rintro r w2 ⟨A, c, rfl, hr, h2⟩
           have hcv : (convert 24 9 (.slice A n c)).run Tryd.prog w2 = .ok (.string (strOfNums (takeV (oneS s) n))) w2 := string_of_reads Tryd.underlying24 Tryd.underlying5 Tryd.underlying9 hr
           have HR := Lib.hid (Rd'.after HF1.out HK1.out h2)
           obtain ⟨F2, h3, _, _⟩ := h2
           obtain ⟨ev, hc1, hev⟩ := rd_err h3
           obtain ⟨b2, rfl⟩ : ∃ b2, ev = .iface 108 (.pointer (some ⟨b2, 0, none⟩)) := hev.elim (fun h => absurd h.1 HE.out) (fun ⟨_, b2, h, _⟩ => ⟨b2, h⟩)
           clear hr h3 hev))
      go_ret
      exact ⟨rfl, HR.out⟩
set_option maxHeartbeats 1000000 in
theorem kind_rd (w : World) (base b : Nat) (F : Nat → Prop) (s : St) (hg0 : Laid w) (h : RdAt w base F b s) :
    Calls Tryd.prog 59 #[.pointer (some ⟨b, 0, none⟩)] w fun r w' => r = .returned (.int .i64 s.2) ∧ Below w.heap.size w w' := by
  have hg := Lib.hid hg0
  clear hg0
  obtain ⟨ev, hc, h6⟩ := rd_err h
  have hbl := (h.2.1 b h.1).2
  clear h
  obtain ⟨l, er⟩ := s
  dsimp only at h6 ⊢
  rcases h6 with ⟨rfl, rfl⟩ | ⟨h0, b2, rfl, hb⟩
  · go_enter Tryd.func59, Tryd.ntmps59
    go_wp2_with (go_at_call 64; refine (as_nil _ _).mono ?_; rintro e w1 ⟨rfl, rfl⟩)
    go_ret
    exact ⟨rfl, (Below.refl _ _).alloc (Nat.le_refl _) _⟩
  · go_enter Tryd.func59, Tryd.ntmps59
    go_wp2_with (go_at_call 64
                 refine (as_no_at_num b2 er w.heap.size (.int .i64 0) (w.alloc (.cells #[.int .i64 0] 33)) (hg.out.alloc _) (by simp) (by simp) (pw_cell_below ((Below.refl _ _).alloc (Nat.le_refl _) (.cells #[.int .i64 0] 33)) hb)).mono ?_
                 rintro e w1 ⟨rfl, hK, ht, hf⟩
                 have hK0 : Keep (fun _ => False) w w1 := ⟨hK.os, hK.tape, hK.output, by have := hK.size; simp at this; omega, fun k hk _ => (hK.block k (by simp; omega) (by show k ≠ w.heap.size; omega)).trans (Below.heap_alloc w _ k hk)⟩
                 have HB1 := Lib.hid (hK0.to_below (Nat.le_refl _) (fun _ h => h.elim))
                 clear hK hK0)
    go_ret
    exact ⟨rfl, HB1.out⟩
def EndPost (w : World) (b : Nat) (e : Int) (r : Ending) (w' : World) : Prop := r = .returned (.int .i64 e) ∧ Keep (fun k => k = b) w w'
theorem laid_rd {w w1 : World} {base b : Nat} {F : Nat → Prop} {s : St} (hg : Laid w) (hb : 0 < base) (h : RdAt w base F b s) (k : Keep (fun k => k = b) w w1) : Laid w1 :=
  k.cell hg (fun e => by have e2 : (0 : Nat) = b := e; have := (h.2.1 b h.1).1; omega)
set_option maxRecDepth 100000 in
set_option maxHeartbeats 2000000 in
theorem end_any (w : World) (base b : Nat) (F : Nat → Prop) (s : St) (hg0 : Laid w) (hb0 : 0 < base) (h : RdAt w base F b s) :
    Calls Tryd.prog 44 #[.pointer (some ⟨b, 0, none⟩)] w (EndPost w b (endE s)) := by
  have HG := Lib.hid hg0
  have HH := Lib.hid h
  obtain ⟨ev, hc1, hev⟩ := rd_err h
  obtain ⟨A, c, hc0⟩ := rd_row h
  unfold endE
  clear hg0 h
  by_cases h0 : s.2 = 0
  · rw [if_pos h0]
    obtain rfl : ev = .nilIface := hev.elim (fun h => h.2) (fun h => absurd h0 h.1)
    clear hev
    have H0 := Lib.hid h0
    by_cases hl : 0 < s.1.length
    · rw [if_pos hl]
      have hl2 : (0 : Int) < (s.1.length : Int) := by omega
      have hbd : badS s 9 = (s.1, 9) := by unfold badS orE; rw [if_pos h0]
      have HBD := Lib.hid hbd
      clear h0 hbd
      generalize s.1.length = L at *
      go_enter Tryd.func44, Tryd.ntmps44
      go_wp2_with (first
        | (go_at_call 39; refine (rfail_any _ 9 w base b F s HH.out (by decide)).mono ?_; rintro r w1 ⟨rfl, F1, h1, hF1, hK1⟩
           have HL1 := Lib.hid (laid_rd HG.out hb0 HH.out hK1)
           have HK1 := Lib.hid hK1
           rw [HBD.out] at h1
           have H1 := Lib.hid h1
           clear h1 hF1 hK1)
        | (go_at_call 59; refine (kind_rd w1 base b F1 _ HL1.out H1.out).mono ?_; rintro r w2 ⟨rfl, hB⟩; have HB := Lib.hid hB; clear hB))
      go_ret
      unfold EndPost
      exact ⟨rfl, HK1.out.trans (Keep.of_below HB.out (fun _ => False)) (fun _ h => h.elim)⟩
    · rw [if_neg hl]
      have hl2 : ¬ ((0 : Int) < (s.1.length : Int)) := by omega
      clear h0
      generalize hL : s.1.length = L at *
      have HLL := Lib.hid hL
      clear hL
      go_enter Tryd.func44, Tryd.ntmps44
      go_wp2_with (go_at_call 59; refine (kind_rd w base b F _ HG.out HH.out).mono ?_; rintro r w2 ⟨rfl, hB⟩; rw [H0.out]; have HB := Lib.hid hB; clear hB)
      go_ret
      unfold EndPost
      exact ⟨rfl, Keep.of_below HB.out _⟩
  · rw [if_neg h0]
    obtain ⟨b2, rfl⟩ : ∃ b2, ev = .iface 108 (.pointer (some ⟨b2, 0, none⟩)) := hev.elim (fun h => absurd h.1 h0) (fun ⟨_, b2, h, _⟩ => ⟨b2, h⟩)
    clear hev h0
    generalize s.1.length = L at *
    go_enter Tryd.func44, Tryd.ntmps44
    go_wp2_with (go_at_call 59; refine (kind_rd w base b F _ HG.out HH.out).mono ?_; rintro r w2 ⟨rfl, hB⟩; have HB := Lib.hid hB; clear hB)
    go_ret
    unfold EndPost
    exact ⟨rfl, Keep.of_below HB.out _⟩
end Go.Proofs.YtkdlghbfplhkpaaDoor
