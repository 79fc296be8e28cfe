/- Append and Keep. -/
import Derived.Test.YtfnnjgbldojigaaDoorAllW
set_option linter.unusedVariables false
set_option linter.unusedSimpArgs false
namespace Go.Proofs.YtfnnjgbldojigaaDoor
open Go.RowKit Go.Proofs.YtfnnjgbldojigaaDoorW.PrintWords Go.Proofs.Mine Go.Proofs.Mine.Crc

def AppPost (w0 : World) (bt bl : Nat) (s1 : TS) (E : Int) (ls ls1 : LS) (w : World) (F : Nat → Prop) (r : Ending) (w' : World) : Prop :=
  r = .returned (.int .i64 E) ∧ (E = 0 → WalOut w0 bt bl s1 ls1 w F w') ∧ (E ≠ 0 → WalOut w0 bt bl s1 ls w F w')
set_option maxRecDepth 100000 in
set_option maxHeartbeats 2000000 in
theorem wlappend_long (A : Option Addr) (c : Nat) (x : List UInt8) (w : World) (bl : Nat) (hg : Laid w) (hl : 65536 < x.length) :
    Calls Tryd.prog 18 #[.pointer (some ⟨bl, 0, none⟩), .slice A x.length c] w fun r w' => r = .returned (.int .i64 5) ∧ Below w.heap.size w w' := by
  have HG := Lib.hid hg
  clear hg
  go_enter Tryd.func18, Tryd.ntmps18
  go_wp2_with (first
    | (go_at_call 46; refine (frame_long A c x w hl).mono ?_; rintro r w1 ⟨rfl, hw⟩; obtain rfl : w1 = w := hw)
    | (go_at_call 47; refine (met_any _ 5 w1 (by decide)).mono ?_; rintro r w2 ⟨ev, rfl, hE, hB⟩; have HE := Lib.hid hE; have HB := Lib.hid hB; clear hE hB)
    | (go_at_call 43; refine (wtold_any ev 5 w2 (HG.out.below HB.out) HE.out.t (by decide)).mono ?_; rintro r w3 ⟨rfl, hB⟩; have HB3 := Lib.hid (HB.out.trans (hB.mono HB.out.size)); clear hB))
  go_ret
  exact ⟨rfl, HB3.out⟩
/-- What is appended to the records' row, stored; the size. -/
theorem log_snoc {w0 We w w1 : World} {bt bl n N : Nat} {s : TS} {ls : LS} {F F0 : Nat → Prop} {v1 : Value} {A : Option Addr} {c : Nat} {x : List UInt8} {FT FL ok : Nat → Prop} (h : WalIn w0 bt bl s ls w F) (hF : ∀ k, F k → F0 k ∨ We.heap.size ≤ k) (hK : Keep F0 We w)
    (h1 : ∀ k, FT k → F k) (h2 : ∀ k, FL k → F k) (h3 : ∀ k, FL k → ¬ FT k) (h4 : TapeAt w w0.heap.size FT bt s) (hbl : FL bl) (hb : w.heap[bl]? = some (.cells #[.pointer (some ⟨bt, 0, none⟩), .slice A ls.rows.length c, .int .i64 (ls.size : Int)] 80 (0, 0)))
    (hR : rowsK.R 32 w w0.heap.size (fun k => FL k ∧ k ≠ bl) (.slice A ls.rows.length c) ls.rows) (hg : Keep (fun k => (Value.slice A ls.rows.length c).ownBlock = some k) w w1) (hN : ∀ k, F k → k < N) (hN1 : N ≤ w.heap.size) (hN2 : We.heap.size ≤ N) (hN3 : w0.heap.size ≤ N) (hok : ∀ k, ok k → ((FL k ∧ k ≠ bl) ∨ N ≤ k)) (hv : rowsK.R 32 w1 w0.heap.size ok v1 (ls.rows ++ [x])) :
    WalOut w0 bt bl s ⟨ls.rows ++ [x], ls.size + n⟩ We F0 ((w1.setCell ⟨bl, 1, none⟩ v1).setCell ⟨bl, 2, none⟩ (.int .i64 ((ls.size : Int) + (n : Int)))) := by
  have hown : ∀ k, (Value.slice A ls.rows.length c).ownBlock = some k → FL k ∧ k ≠ bl := fun k hk => hR.1 k hk
  have hb1 := hg.blk hb (fun e => (hown _ e).2 rfl)
  have hs := set2 w1 bl 1 2 v1 (.int .i64 ((ls.size : Int) + (n : Int)))
  have hbF : F bl := h2 bl hbl
  have hv' := Kd.R_bound hv
  have hblt : bl < N := hN bl hbF
  have hn1 : ∀ k, ok k → k ≠ bl := fun k hk e => by
    subst e
    rcases hok _ hk with e | e
    · exact e.2 rfl
    · omega
  have hv2 := hs.R hv' (fun k hk => hn1 k hk.1)
  have hgF : Keep F w w1 := hg.mono (fun k hk _ => h2 k (hown k hk).1)
  have hbel : Below w0.heap.size w0 w1 := h.below.trans (hgF.to_below h.below.size (fun k hk => (h.lt k hk).1))
  have hsz1 := hgF.size
  have hsz2 := hs.size
  have e1 : ((ls.size : Int) + (n : Int)) = ((ls.size + n : Nat) : Int) := by push_cast; rfl
  refine ⟨fun k => F k ∨ (N ≤ k ∧ k < w1.heap.size), ⟨h.laid, hbel.trans (hs.to_below hbel.size (fun k e => by subst e; exact (h.lt _ hbF).1)), h.ok, fun k hk => ?_, FT, fun k => k = bl ∨ (ok k ∧ w0.heap.size ≤ k ∧ k < w1.heap.size), fun k hk => .inl (h1 k hk), fun k hk => ?_, fun k hk hf => ?_, (h4.keep hg (fun j hj e => h3 _ (hown j e).1 hj)).keep hs (fun j hj e => by subst e; exact h3 _ hbl hj), ⟨.inl rfl, fun k hk => ?_, v1, ?_, Kd.R_mono hv2 (fun k hk => ⟨.inr ⟨hk.1, hk.2.1, hk.2.2.1⟩, hn1 k hk.1⟩)⟩⟩, fun k hk => ?_, ?_⟩
  · rcases hk with hk | hk
    · exact ⟨(h.lt k hk).1, by have := (h.lt k hk).2; omega⟩
    · exact ⟨by omega, by omega⟩
  · rcases hk with rfl | hk
    · exact .inl hbF
    · rcases hok k hk.1 with e | e
      · exact .inl (h2 k e.1)
      · exact .inr ⟨e, hk.2.2⟩
  · rcases hk with rfl | hk
    · exact h3 _ hbl hf
    · rcases hok k hk.1 with e | e
      · exact h3 _ e.1 hf
      · have := hN k (h1 k hf); omega
  · rcases hk with rfl | hk
    · exact ⟨(h.lt _ hbF).1, by omega⟩
    · exact ⟨hk.2.1, by omega⟩
  · rw [← e1]
    exact blk_set (blk_set hb1 1 v1) 2 _
  · rcases hk with hk | hk
    · exact hF k hk
    · exact .inr (by omega)
  · exact (hK.trans hgF hF).trans hs (fun k e => by subst e; exact hF _ hbF)
set_option maxRecDepth 100000 in
set_option maxHeartbeats 2000000 in
theorem wlappend_any (A : Option Addr) (c : Nat) (x : List UInt8) (w0 w : World) (bt bl : Nat) (s : TS) (ls : LS) (F : Nat → Prop) (h : WalIn w0 bt bl s ls w F) (ho : s.ops < 1000000000) (hx : Bytes w A x) (hxl : x.length ≤ 65536) (hxB : 0 < x.length → ∀ a, A = some a → ¬ F a.block) (hr : ls.rows.length ≤ 1000000) (hz : ls.size ≤ 1000000000000) :
    Calls Tryd.prog 18 #[.pointer (some ⟨bl, 0, none⟩), .slice A x.length c] w (AppPost w0 bt bl (appendS s (n8 (frameOf x))) (appendE s (n8 (frameOf x))) ls ⟨ls.rows ++ [x], ls.size + (x.length + 8)⟩ w F) := by
  have HW := Lib.hid h
  have HO := Lib.hid ho
  have HX := Lib.hid hx
  have HXB := Lib.hid hxB
  clear h ho hx hxB
  obtain ⟨E, hE⟩ : ∃ E, E = appendE s (n8 (frameOf x)) := ⟨_, rfl⟩
  rw [← hE]
  have HEq := Lib.hid hE
  have hfl : (frameOf x).length = x.length + 8 := frameOf_length x
  have HFL := Lib.hid hfl
  clear hE hfl
  by_cases he : E = 0
  · have HE0 := Lib.hid he
    subst he
    go_enter Tryd.func18, Tryd.ntmps18
    go_wp2_with (first
      | (go_at_call 46; refine (frame_any A c x w HX.out hxl).mono ?_; rintro r w1 ⟨v1, rfl, hO, hB⟩
         obtain ⟨A1, c1, rfl⟩ := own_slice hO
         have HB1 := Lib.hid hB
         have HW1 := Lib.hid (HW.out.to hB)
         have q1 : w1.cell? ⟨bl, 0, none⟩ = some (.pointer (some ⟨bt, 0, none⟩)) := log_cell0 HW1.out
         obtain ⟨A1', c1', he1, hr1⟩ := own_reads_of (d := 0) hO
         obtain ⟨rfl, rfl⟩ : A1 = A1' ∧ c1 = c1' := by injection he1 with e1 e2 e3; exact ⟨e1, e3⟩
         have HR1 := Lib.hid hr1
         have HA1 := Lib.hid (fun a (ha : A1 = some a) => own_base hO a.block (by subst ha; rfl))
         have happ := wappend_any A1 c1 (frameOf x) w0 w1 bt bl s ls F HW1.out HO.out HR1.out (fun _ a ha hf => by have := HA1.out a ha; have := (HW.out.lt _ hf).2; omega) (by rw [frameOf_length]; omega)
         rw [HFL.out, ← HEq.out] at happ
         rw [HFL.out]
         have HAPP := Lib.hid happ
         clear hO hB hr1 he1 happ)
      | (go_at_call 48; refine HAPP.out.mono ?_; rintro r w2 ⟨rfl, F2, hW2, hF2, hK2⟩
         have HW2 := Lib.hid hW2
         have HF2 := Lib.hid (fun k hk => (hF2 k hk).imp_right (fun e => Nat.le_trans HB1.out.size e))
         have HK2 := Lib.hid ((Keep.of_below HB1.out F).trans hK2 (fun k hk => .inl hk))
         clear hW2 hF2 hK2))
    obtain ⟨FT, FL, h1, h2, h3, h4, g1, g2, vv, g3, g4⟩ := HW2.out.parts
    obtain ⟨Av, cv, rfl⟩ := Kd.R_slice g4
    have vb : w2.drew.cell? ⟨bl, 1, none⟩ = some (.slice Av ls.rows.length cv) := blk_cell (show w2.drew.heap[bl]? = _ from g3) 1
    have HG3 := Lib.hid g3
    have HG4 := Lib.hid g4
    have HG2 := Lib.hid (fun k hk => (g2 k hk).2)
    have HX2 := Lib.hid (show ReadsOf b8 0 w2.drew A x.length x from bytes_keep HX.out (Keep.drew HK2.out) HXB.out)
    have hb2 : w0.heap.size ≤ w2.heap.size := HW2.out.below.size
    have hlx : x.length ≤ 1000000 := by omega
    clear g3 g4 g2
    go_region_law (first
      | (refine Kd.R_append_step rowsK (w0 := w') w0.heap.size (by rfl) _ _ 22 32 (.slice none 0 0) 24 (by rfl) Tryd.underlying22 infoR (by rfl) (by decide) (by decide) (.slice Av ls.rows.length cv) ls.rows x [.slice A3 x.length c3] (fun k => (FL k ∧ k ≠ bl) ∨ w2.heap.size ≤ k) (fun k => w2.heap.size ≤ k) (by rfl) (by rfl) HMM.out HOKP.out (fun k hk => .inr (Nat.le_trans HB'.out.size hk)) (Kd.R_mono (Kd.R_below HG4.out HB'.out) (fun k hk => .inl hk)) (Below.refl _ _) (Nat.le_trans hb2 HB'.out.size) (by omega) ?_
         intro v1 w4 hR1 hB4 hgr hat1
         obtain ⟨A4, c4, rfl⟩ := Kd.R_slice hR1
         have hbw4 := blk_grown (blk_below HG3.out HB'.out) hgr (Kd.R_ne HG4.out HG3.out (by decide))
         have hcc : w4.cell? ⟨bl, 1, none⟩ = _ := blk_cell hbw4 1
         have hcc2 : w4.cell? ⟨bl, 2, none⟩ = _ := blk_cell hbw4 2
         have hff : w4.frozen? ⟨bl, 1, none⟩ = false := blk_frozen hbw4 1
         have hff2 : w4.frozen? ⟨bl, 2, none⟩ = false := blk_frozen hbw4 2)
      | (go_simp; go_at_call 49; refine (clone8_any A _ c x w2.drew HX2.out hlx).mono ?_; rintro e w' ⟨v3, rfl, hO3, hB3⟩
         obtain ⟨A3, c3, rfl⟩ := own_slice hO3
         have HB' : RowKit.Hid (Below w2.heap.size w2 w') := ⟨hB3.os, hB3.tape, hB3.output, hB3.size, hB3.block⟩
         have HMM : RowKit.Hid (rowsK.M w' w0.heap.size (fun k => w2.heap.size ≤ k) x [.slice A3 x.length c3]) := ⟨_, rfl, Kd.R_of_own (own_weaken hO3 hb2) (fun k hk => own_base hO3 k hk)⟩
         have HOKP : RowKit.Hid (∀ k, w2.heap.size ≤ k → ((FL k ∧ k ≠ bl) ∨ w2.heap.size ≤ k) ∧ some k ≠ (Value.slice Av ls.rows.length cv).ownBlock) := fun k hk => ⟨.inr hk, fun e => by have := Kd.R_lt HG4.out k e.symm; omega⟩
         have hcell' : w'.cell? ⟨bl, 1, none⟩ = _ := blk_cell (blk_below HG3.out HB'.out) 1
         have hcella : ∀ X, (w'.alloc X).cell? ⟨bl, 1, none⟩ = _ := fun X => blk_cell (blk_alloc (blk_below HG3.out HB'.out) X) 1
         clear hO3 hB3))
    all_goals
      have hp := log_snoc (n := x.length + 8) (N := w2.heap.size) (We := w) (F0 := F) (HW2.out.to HB'.out) HF2.out (HK2.out.trans (Keep.of_below HB'.out (fun _ => False)) (fun _ h => h.elim)) h1 h2 h3 (h4.below HB'.out) g1 (blk_below HG3.out HB'.out) (Kd.R_below HG4.out HB'.out) (Keep.of_grown hgr (fun k hk => hk)) (fun k hk => (HW2.out.lt k hk).2) HB'.out.size HK2.out.size hb2 (fun k hk => hk) hR1
      rw [show (ls.size : Int) + ((x.length + 8 : Nat) : Int) = (ls.size : Int) + ((x.length : Int) + 8) from by push_cast; rfl, List.length_append, List.length_singleton] at hp
      have HP := Lib.hid hp
      clear hp hcell' hcella hbw4 hgr hR1 hat1 vb h4 h1 h2 h3 hB4
      go_wp2
      go_ret
      exact ⟨rfl, fun _ => HP.out, fun e => absurd rfl e⟩
  · have HE0 := Lib.hid he
    have hne : (E != 0) = true := bne_iff_ne.mpr he
    have hne2 : (E == 0) = false := beq_eq_false_iff_ne.mpr he
    clear he
    go_enter Tryd.func18, Tryd.ntmps18
    go_wp2_with (first
      | (go_at_call 46; refine (frame_any A c x w HX.out hxl).mono ?_; rintro r w1 ⟨v1, rfl, hO, hB⟩
         obtain ⟨A1, c1, rfl⟩ := own_slice hO
         have HB1 := Lib.hid hB
         have HW1 := Lib.hid (HW.out.to hB)
         have q1 : w1.cell? ⟨bl, 0, none⟩ = some (.pointer (some ⟨bt, 0, none⟩)) := log_cell0 HW1.out
         obtain ⟨A1', c1', he1, hr1⟩ := own_reads_of (d := 0) hO
         obtain ⟨rfl, rfl⟩ : A1 = A1' ∧ c1 = c1' := by injection he1 with e1 e2 e3; exact ⟨e1, e3⟩
         have HR1 := Lib.hid hr1
         have HA1 := Lib.hid (fun a (ha : A1 = some a) => own_base hO a.block (by subst ha; rfl))
         have happ := wappend_any A1 c1 (frameOf x) w0 w1 bt bl s ls F HW1.out HO.out HR1.out (fun _ a ha hf => by have := HA1.out a ha; have := (HW.out.lt _ hf).2; omega) (by rw [frameOf_length]; omega)
         rw [HFL.out, ← HEq.out] at happ
         rw [HFL.out]
         have HAPP := Lib.hid happ
         clear hO hB hr1 he1 happ)
      | (go_at_call 48; refine HAPP.out.mono ?_; rintro r w2 ⟨rfl, F2, hW2, hF2, hK2⟩
         have HW2 := Lib.hid hW2
         have HF2 := Lib.hid (fun k hk => (hF2 k hk).imp_right (fun e => Nat.le_trans HB1.out.size e))
         have HK2 := Lib.hid ((Keep.of_below HB1.out F).trans hK2 (fun k hk => .inl hk))
         clear hW2 hF2 hK2)
      | (go_at_call 47; refine (met_any _ E w2 HE0.out).mono ?_; rintro r w3 ⟨ev, rfl, hEv, hB⟩; have HE := Lib.hid hEv; have HB3 := Lib.hid hB; clear hEv hB)
      | (go_at_call 43; refine (wtold_any ev E w3 (HW2.out.lw.below HB3.out) HE.out.t HE0.out).mono ?_; rintro r w4 ⟨rfl, hB⟩; have HB4 := Lib.hid (HB3.out.trans (hB.mono HB3.out.size)); clear hB))
    go_ret
    exact ⟨rfl, fun e => absurd e HE0.out, fun _ => WalOut.to ⟨F2, HW2.out, HF2.out, HK2.out⟩ HB4.out⟩
end Go.Proofs.YtfnnjgbldojigaaDoor
