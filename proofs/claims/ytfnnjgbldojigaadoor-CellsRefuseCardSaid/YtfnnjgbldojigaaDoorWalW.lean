/- The walks of wal's functions. -/
import Derived.Test.YtfnnjgbldojigaaDoorWalQ
import Derived.Deep.RegionLaw
set_option linter.unusedVariables false
set_option linter.unusedSimpArgs false
namespace Go.Proofs.YtfnnjgbldojigaaDoor
open Go.RowKit Go.Proofs.YtfnnjgbldojigaaDoorW.PrintWords Go.Proofs.Mine Go.Proofs.Mine.Crc

theorem infoR : (Tryd.prog.info? 32).map (fun i => (i.zero, i.size, i.bytes)) = some (some (.slice none 0 0), 1, 24) := by kernel_rfl
theorem clone8_nil (n c : Nat) (w : World) : Calls Tryd.prog 49 #[.slice none n c] w fun r w' => r = .returned (.slice none 0 0) ∧ w = w' := clone_nil n c w
set_option maxRecDepth 100000 in
set_option maxHeartbeats 2000000 in
theorem clone8_some (ad : Addr) (n c : Nat) (l : List UInt8) (w : World) (hr : ReadsOf b8 0 w (some ad) n l) (hn : n ≤ 1000000) :
    Calls Tryd.prog 49 #[.slice (some ad) n c] w fun r w' => ∃ v, r = .returned v ∧ Own w' w.heap.size v l ∧ Below w.heap.size w w' := by
  have HR := Lib.hid (hr.below ((Below.refl _ _).alloc (Nat.le_refl _) (.cells #[] 5)))
  clear hr
  have hq := Lib.run_eql_slice_nil (P := Tryd.prog) w 32 5 (some ad) n c 0 0 Tryd.underlying32
  go_enter Tryd.func49, Tryd.ntmps49
  go_wp2_with (at_builtin; refine print_append_row_of (w0 := w) b8 0 w.heap.size rfl _ _ 32 5 (.int .u8 0) 1 rfl Tryd.underlying32 Tryd.info5 rfl (by decide) b8_one (.slice (some ⟨w.heap.size, 0, none⟩) 0 0) [] l (some ad) n c rfl rfl ?d1 ?d2 ?d3 ?d4 ?d5 ?d6)
  case d1 => exact own_lit_of (enc := b8) w w.heap.size 5 [] (Nat.le_refl _) (by decide)
  case d2 => exact HR.out
  case d3 => exact (Below.refl _ _).alloc (Nat.le_refl _) _
  case d4 => simp
  case d5 => simp; omega
  case d6 =>
    intro v1 w1 hown hB hg hat
    obtain ⟨A1, c1, rfl⟩ := own_slice hown
    have K1 := Lib.hid hown
    have K2 := Lib.hid hB
    clear hown hB hg hat
    go_wp2
    go_ret
    exact ⟨_, rfl, K1.out, K2.out⟩
theorem clone8_any (A : Option Addr) (n c : Nat) (l : List UInt8) (w : World) (hr : ReadsOf b8 0 w A n l) (hn : n ≤ 1000000) :
    Calls Tryd.prog 49 #[.slice A n c] w fun r w' => ∃ v, r = .returned v ∧ Own w' w.heap.size v l ∧ Below w.heap.size w w' := by
  cases A with
  | none =>
    refine (clone8_nil n c w).mono ?_
    rintro r w' ⟨rfl, rfl⟩
    have h0 : n = 0 := by
      rcases Nat.eq_zero_or_pos n with h | h
      · exact h
      · obtain ⟨_, h, _⟩ := hr.2.2 h; cases h
    have hl : l = [] := List.eq_nil_of_length_eq_zero (by have := hr.1; omega)
    subst hl
    exact ⟨_, rfl, own_nil _ _ _ _, Below.refl _ _⟩
  | some ad => exact clone8_some ad n c l w hr hn
set_option maxRecDepth 100000 in
set_option maxHeartbeats 2000000 in
theorem met_any (s : ByteArray) (e : Int) (w : World) (he : e ≠ 0) : Calls Tryd.prog 47 #[.string s, .int .i64 e] w fun r w' => ∃ ev, r = .returned ev ∧ ErrV w' ev e ∧ Below w.heap.size w w' := by
  go_enter Tryd.func47, Tryd.ntmps47
  go_wp2_with (go_at_call 61; refine (new_any s e w he).mono ?_; rintro r w1 ⟨b2, rfl, hA, hB⟩; have HA := Lib.hid hA; have HB := Lib.hid hB; clear hA hB)
  go_ret
  exact ⟨_, rfl, .inr ⟨he, _, _, rfl, HA.out, show 1 < 16 by decide⟩, HB.out⟩
def toldL : List Int := [13, 14, 5, 11]
theorem four_rounds {k : Nat} (h : k < 4) : k = 0 ∨ k = 1 ∨ k = 2 ∨ k = 3 := by omega
set_option maxRecDepth 100000 in
set_option maxHeartbeats 2000000 in
theorem wtold_any (ev : Value) (e : Int) (w : World) (hg0 : Laid w) (h : ErrT w ev e) (he : e ≠ 0) : Calls Tryd.prog 43 #[ev] w fun r w' => r = .returned (.int .i64 e) ∧ Below w.heap.size w w' := by
  rcases h with ⟨h0, _⟩ | ⟨_, b, u, rfl, hbk⟩
  · exact absurd h0 he
  have hB0 : Below w.heap.size w (w.alloc (.cells #[.int .i64 13, .int .i64 14, .int .i64 5, .int .i64 11] 25)) := (Below.refl _ _).alloc (Nat.le_refl _) _
  have HG := Lib.hid (hg0.below hB0)
  have HC := Lib.hid (show (w.alloc (.cells #[.int .i64 13, .int .i64 14, .int .i64 5, .int .i64 11] 25)).cell? ⟨b, 1, none⟩ = some (.iface 25 (.int .i64 e)) from pw_cell_below hB0 (blk_cell hbk 1))
  have HB0 := Lib.hid hB0
  have HL := Lib.hid (heap_alloc_new w (.cells #[.int .i64 13, .int .i64 14, .int .i64 5, .int .i64 11] 25))
  have HE := Lib.hid he
  clear hg0 hbk hB0 he
  go_enter Tryd.func43, Tryd.ntmps43
  go_wp2_with fail
  generalize w.alloc _ = W at *
  go_loopw [7] (fun iv wr => ∃ (k : Nat), k ≤ 4 ∧ iv = .int .i64 (k : Int) ∧ W = wr) (fun iv _ => 4 - (intOf iv).toNat)
  case atStart => exact ⟨0, by omega, rfl, rfl⟩
  case round =>
    obtain ⟨k, hk, rfl, rfl⟩ := hrel
    by_cases hlt : k < 4
    · have hlt2 : (k : Int) < 4 := by omega
      have hk0 : (0 : Int) ≤ (k : Int) := by omega
      obtain ⟨m, hm⟩ : ∃ m, W.cell? ⟨w.heap.size, k, none⟩ = some (.int .i64 m) := by
        rcases four_rounds hlt with rfl | rfl | rfl | rfl
        · exact ⟨_, blk_cell HL.out 0⟩
        · exact ⟨_, blk_cell HL.out 1⟩
        · exact ⟨_, blk_cell HL.out 2⟩
        · exact ⟨_, blk_cell HL.out 3⟩
      by_cases hem : e = m
      · subst hem
        go_wp2_with (go_at_call 58; refine (is_at_num b e e W HC.out).mono ?_; rintro r w1 ⟨rfl, rfl⟩; rw [show (e == e) = true from beq_self_eq_true e])
        go_ret
        exact ⟨rfl, HB0.out⟩
      · have hne : (e == m) = false := beq_eq_false_iff_ne.mpr hem
        have HNE := Lib.hid hne
        clear hem hne
        go_wp2_with (go_at_call 58; refine (is_at_num b e m W HC.out).mono ?_; rintro r w1 ⟨rfl, rfl⟩; rw [HNE.out])
        exact ⟨⟨k + 1, by omega, by simp, by first | rfl | trivial⟩, by simp [intOf]; omega⟩
    · obtain rfl : k = 4 := by omega
      go_wp2_with (go_at_call 54; refine (kind_at_num b e W HG.out HC.out HE.out).mono ?_; rintro r w2 ⟨rfl, hB⟩; have HB := Lib.hid (HB0.out.trans (hB.mono HB0.out.size)); clear hB)
      go_ret
      exact ⟨rfl, HB.out⟩
/-- The records are put, and counted. We: the world at the call's entry. -/
theorem log_put {w0 We w : World} {bt bl n : Nat} {s : TS} {ls : LS} {F F0 ok : Nat → Prop} {v : Value} {rows : List (List UInt8)} (h : WalIn w0 bt bl s ls w F) (hF : ∀ k, F k → F0 k ∨ We.heap.size ≤ k) (hK : Keep F0 We w) (hv : rowsK.R 32 w w0.heap.size ok v rows) (hok : ∀ k, ok k → We.heap.size ≤ k ∧ ¬ F k) :
    WalOut w0 bt bl s ⟨rows, n⟩ We F0 ((w.setCell ⟨bl, 1, none⟩ v).setCell ⟨bl, 2, none⟩ (.int .i64 (n : Int))) := by
  obtain ⟨FT, FL, h1, h2, h3, h4, h5⟩ := h.parts
  obtain ⟨g1, g2, v0, g3, g4⟩ := h5
  have hs := set2 w bl 1 2 v (.int .i64 (n : Int))
  have hbF : F bl := h2 bl g1
  have hv' := Kd.R_bound hv
  have hn1 : ∀ k, ok k → k ≠ bl := fun k hk e => by subst e; exact (hok _ hk).2 hbF
  have hv2 := hs.R hv' (fun k hk => hn1 k hk.1)
  have hlt : ∀ k, F k → w0.heap.size ≤ k ∧ k < ((w.setCell ⟨bl, 1, none⟩ v).setCell ⟨bl, 2, none⟩ (.int .i64 (n : Int))).heap.size := fun k hk => ⟨(h.lt k hk).1, Nat.lt_of_lt_of_le (h.lt k hk).2 hs.size⟩
  refine ⟨fun k => F k ∨ (ok k ∧ w0.heap.size ≤ k ∧ k < w.heap.size), ⟨h.laid, h.below.trans (hs.to_below h.below.size (fun k e => by subst e; exact (h.lt _ hbF).1)), h.ok, fun k hk => ?_, FT, fun k => k = bl ∨ (ok k ∧ w0.heap.size ≤ k ∧ k < w.heap.size), fun k hk => .inl (h1 k hk), fun k hk => hk.imp (fun e => by subst e; exact hbF) id, fun k hk hf => ?_, h4.keep hs (fun j hj e => by subst e; exact h3 _ g1 hj), ⟨.inl rfl, fun k hk => ?_, v, blk_set (blk_set g3 1 v) 2 _, Kd.R_mono hv2 (fun k hk => ⟨.inr ⟨hk.1, hk.2.1, hk.2.2.1⟩, hn1 k hk.1⟩)⟩⟩, fun k hk => ?_, ?_⟩
  · rcases hk with hk | hk
    · exact hlt k hk
    · exact ⟨hk.2.1, Nat.lt_of_lt_of_le hk.2.2 hs.size⟩
  · rcases hk with rfl | hk
    · exact h3 _ g1 hf
    · exact (hok k hk.1).2 (h1 k hf)
  · rcases hk with rfl | hk
    · exact hlt _ hbF
    · exact ⟨hk.2.1, Nat.lt_of_lt_of_le hk.2.2 hs.size⟩
  · rcases hk with hk | hk
    · exact hF k hk
    · exact .inr (hok k hk.1).1
  · exact hK.trans hs (fun k e => by subst e; exact hF _ hbF)
/-- The cells of a log. -/
theorem log_cells {w0 w : World} {bt bl : Nat} {s : TS} {ls : LS} {F : Nat → Prop} (h : WalIn w0 bt bl s ls w F) : ∃ (v : Value) (FT FL : Nat → Prop), w.heap[bl]? = some (.cells #[.pointer (some ⟨bt, 0, none⟩), v, .int .i64 (ls.size : Int)] 80 (0, 0)) ∧ rowsK.R 32 w w0.heap.size (fun k => FL k ∧ k ≠ bl) v ls.rows ∧ (∀ k, FL k → F k) ∧ (∀ k, FT k → F k) ∧ (∀ k, FL k → ¬ FT k) ∧ FL bl := by
  obtain ⟨FT, FL, h1, h2, h3, h4, g1, g2, v, g3, g4⟩ := h.parts
  exact ⟨v, FT, FL, g3, g4, h2, h1, h3, g1⟩
theorem wturn {w0 w w' : World} {bt bl : Nat} {s s' : TS} {ls : LS} {F : Nat → Prop} (h : WalIn w0 bt bl s ls w F) (hk : TOk s') {FT FL : Nat → Prop} (h1 : ∀ k, FT k → F k) (h2 : ∀ k, FL k → F k) (h3 : ∀ k, FL k → ¬ FT k) (h4 : TapeAt w w0.heap.size FT bt s) (h5 : LogAt w w0.heap.size FL bl bt ls) (ht : Tape' w w0.heap.size FT bt s' w') : WalOut w0 bt bl s' ls w F w' := by
  obtain ⟨FT', g1, g2, g3⟩ := ht
  refine ⟨fun k => F k ∨ FT' k, ⟨h.laid, h.below.trans (g3.to_below h.below.size (fun k hk => (h4.2.1 k hk).1)), hk, fun k hk => ?_, FT', FL, fun k hk => .inr hk, fun k hk => .inl (h2 k hk), fun k hk hf => ?_, g1, h5.keep g3 h3⟩, fun k hk => ?_, g3.mono (fun k hk _ => h1 k hk)⟩
  · rcases hk with hk | hk
    · exact ⟨(h.lt k hk).1, Nat.lt_of_lt_of_le (h.lt k hk).2 g3.size⟩
    · exact g1.2.1 k hk
  · rcases g2 k hf with e | e
    · exact h3 k hk e
    · have := (h5.2.1 k hk).2; omega
  · rcases hk with hk | hk
    · exact .inl hk
    · exact (g2 k hk).imp_left (h1 k)
theorem wreplace_any (C : Option Addr) (cx : Nat) (x : List UInt8) (w0 w : World) (bt bl : Nat) (s : TS) (ls : LS) (F : Nat → Prop) (h : WalIn w0 bt bl s ls w F) (ho : s.ops < 1000000000) (hx : Bytes w C x) (hxB : 0 < x.length → ∀ a, C = some a → ¬ F a.block) :
    Calls Tryd.prog 51 #[.pointer (some ⟨bt, 0, none⟩), .slice C x.length cx] w fun r w' => r = .returned (.int .i64 (replaceE s (n8 x))) ∧ WalOut w0 bt bl (replaceS s (n8 x)) ls w F w' := by
  obtain ⟨FT, FL, h1, h2, h3, h4, h5⟩ := h.parts
  have hri := ri_of_bytes hx
  rw [← n8_len x] at hri
  have := replace_any C cx (n8 x) w w0.heap.size bt FT s h.lw h.pos h.ok h4 hri (fun hp a ha hf => hxB (by rw [n8_len] at hp; exact hp) a ha (h1 _ hf))
  rw [n8_len] at this
  refine this.mono ?_
  rintro r w' ⟨rfl, ht⟩
  refine ⟨rfl, ?_⟩
  exact wturn h (replace_ok h.ok ho) h1 h2 h3 h4 h5 ht
theorem wappend_any (C : Option Addr) (cx : Nat) (x : List UInt8) (w0 w : World) (bt bl : Nat) (s : TS) (ls : LS) (F : Nat → Prop) (h : WalIn w0 bt bl s ls w F) (ho : s.ops < 1000000000) (hx : Bytes w C x) (hxB : 0 < x.length → ∀ a, C = some a → ¬ F a.block) (hxl : x.length ≤ 1000000000) :
    Calls Tryd.prog 48 #[.pointer (some ⟨bt, 0, none⟩), .slice C x.length cx] w fun r w' => r = .returned (.int .i64 (appendE s (n8 x))) ∧ WalOut w0 bt bl (appendS s (n8 x)) ls w F w' := by
  obtain ⟨FT, FL, h1, h2, h3, h4, h5⟩ := h.parts
  have hri := ri_of_bytes hx
  rw [← n8_len x] at hri
  have := append_any C cx (n8 x) w w0.heap.size bt FT s h.lw h.pos h.ok h4 hri (fun hp a ha hf => hxB (by rw [n8_len] at hp; exact hp) a ha (h1 _ hf)) (by rw [n8_len]; exact hxl)
  rw [n8_len] at this
  refine this.mono ?_
  rintro r w' ⟨rfl, ht⟩
  refine ⟨rfl, ?_⟩
  exact wturn h (append_ok h.ok ho) h1 h2 h3 h4 h5 ht
theorem wtsync_any (w0 w : World) (bt bl : Nat) (s : TS) (ls : LS) (F : Nat → Prop) (h : WalIn w0 bt bl s ls w F) (ho : s.ops < 1000000000) :
    Calls Tryd.prog 50 #[.pointer (some ⟨bt, 0, none⟩)] w fun r w' => r = .returned (.int .i64 (syncE s)) ∧ WalOut w0 bt bl (syncS s) ls w F w' := by
  obtain ⟨FT, FL, h1, h2, h3, h4, h5⟩ := h.parts
  refine (sync_any w w0.heap.size bt FT s h.lw h.pos h.ok h4).mono ?_
  rintro r w' ⟨rfl, ht⟩
  exact ⟨rfl, wturn h (sync_ok h.ok ho) h1 h2 h3 h4 h5 ht⟩
theorem wcrash_any (pick : Int) (w0 w : World) (bt bl : Nat) (s : TS) (ls : LS) (F : Nat → Prop) (h : WalIn w0 bt bl s ls w F) :
    Calls Tryd.prog 19 #[.pointer (some ⟨bt, 0, none⟩), .int .i64 pick] w fun r w' => r = .returned (.int .i64 (crashK s pick : Int)) ∧ WalOut w0 bt bl (crashS s pick) ls w F w' := by
  obtain ⟨FT, FL, h1, h2, h3, h4, h5⟩ := h.parts
  refine (crash_any pick w w0.heap.size bt FT s h.ok h4).mono ?_
  rintro r w' ⟨rfl, ht⟩
  exact ⟨rfl, wturn h (crash_ok h.ok) h1 h2 h3 h4 h5 ht⟩
theorem wstop_any (n : Int) (w0 w : World) (bt bl : Nat) (s : TS) (ls : LS) (F : Nat → Prop) (h : WalIn w0 bt bl s ls w F) (hn : n ≤ 9223372036854775807) :
    Calls Tryd.prog 28 #[.pointer (some ⟨bt, 0, none⟩), .int .i64 n] w fun r w' => r = .returned (.tuple #[]) ∧ WalOut w0 bt bl (stopS s n) ls w F w' := by
  obtain ⟨FT, FL, h1, h2, h3, h4, h5⟩ := h.parts
  refine (stop_any n w w0.heap.size bt FT s h4).mono ?_
  rintro r w' ⟨rfl, ht⟩
  exact ⟨rfl, wturn h (stop_ok h.ok hn) h1 h2 h3 h4 h5 ht⟩
theorem wbytes_any (w0 w : World) (bt bl : Nat) (s : TS) (ls : LS) (F : Nat → Prop) (b : List UInt8) (h : WalIn w0 bt bl s ls w F) (hb : s.l = n8 b) :
    Calls Tryd.prog 22 #[.pointer (some ⟨bt, 0, none⟩)] w fun r w' => ∃ A c, r = .returned (.slice A b.length c) ∧ Bytes w' A b ∧ b.length ≤ c ∧ Below w.heap.size w w' ∧ ∀ a, A = some a → w.heap.size ≤ a.block := by
  refine (bytes_in w0 w bt F s h.tape).mono ?_
  rintro r w' ⟨A, c, rfl, _, hB, hv⟩
  have hl : s.l.length = b.length := by rw [hb, n8_len]
  have hcl := cap_le hv
  have hrd := buf_reads hv
  rw [hb, n8_len] at hrd
  rw [hl] at hcl
  refine ⟨A, c, by rw [hl], bytes_of_ri hrd, hcl, hB, fun a ha => ?_⟩
  subst ha
  exact (hv.lt a.block rfl).1
theorem take_bytes {W : World} {A : Option Addr} {l : List UInt8} (h : Bytes W A l) (k : Nat) (hk : k ≤ l.length) : Bytes W A (l.take k) := by
  have hl : (l.take k).length = k := by rw [List.length_take]; omega
  unfold Bytes
  rw [hl]
  exact h.take_ k hk
theorem cut_to8 (A : Option Addr) (L c k : Nat) (h : k ≤ c) (W : World) : (Instr.slice 32 (.slice A L c) none (some (.int .i64 (k : Int))) none).run Tryd.prog W = .ok (.slice A k c) W := by
  have h1 : ¬ ((c : Int) < (k : Int)) := by omega
  simp [Instr.slice, run_underlying Tryd.underlying32, Instr.sliceBounds, Instr.sliceBound, asIntOf, h1, h]
  intro _
  cases A <;> simp [Addr.add]
theorem Keep.undrew {F : Nat → Prop} {w w1 : World} (h : Keep F w.drew w1) : Keep F w w1 := ⟨h.os, h.tape, h.output, h.size, h.block⟩
/-- Rows that were made since, behind a call that turned F's blocks alone. -/
theorem rows_after {w w1 w2 w3 : World} {F F3 : Nat → Prop} {v : Value} {rows : List (List UInt8)} (hV : rowsK.R 32 w2 w1.heap.size (fun _ => True) v rows) (hw : Below w.heap.size w w1) (hF : ∀ k, F k → k < w.heap.size) (hF3 : ∀ k, F3 k → F k ∨ w2.heap.size ≤ k) (hk : Keep F w2 w3) :
    rowsK.R 32 w3 w.heap.size (fun k => w.heap.size ≤ k ∧ k < w2.heap.size) v rows ∧ ∀ k, (w.heap.size ≤ k ∧ k < w2.heap.size) → w.heap.size ≤ k ∧ ¬ F3 k := by
  have hs := hw.size
  refine ⟨Kd.R_mono (Kd.R_lower (Kd.R_move (Kd.R_bound hV) (fun k hk2 => hk.block k hk2.2.2.1 (fun hf => by have := hF k hf; have := hk2.2.1; omega))) hs) (fun k hk2 => ⟨by have := hk2.2.1; omega, hk2.2.2.1⟩), fun k hk2 => ⟨hk2.1, fun hf => ?_⟩⟩
  rcases hF3 k hf with e | e
  · have := hF k e; omega
  · omega
def ReadPost (w0 : World) (bt bl : Nat) (s1 : TS) (E : Int) (ls ls1 : LS) (w : World) (F : Nat → Prop) (r : Ending) (w' : World) : Prop :=
  ∃ ev, r = .returned ev ∧ ErrV w' ev E ∧ (E = 0 → WalOut w0 bt bl s1 ls1 w F w') ∧ (E ≠ 0 → WalOut w0 bt bl s1 ls w F w')
theorem log_box {w : World} {bl bt z : Nat} {v : Value} (h : w.heap[bl]? = some (.cells #[.pointer (some ⟨bt, 0, none⟩), v, .int .i64 (z : Int)] 80 (0, 0))) : w.cell? ⟨bl, 0, none⟩ = some (.pointer (some ⟨bt, 0, none⟩)) ∧ w.cell? ⟨bl, 1, none⟩ = some v ∧ w.cell? ⟨bl, 2, none⟩ = some (.int .i64 (z : Int)) ∧ w.frozen? ⟨bl, 1, none⟩ = false ∧ w.frozen? ⟨bl, 2, none⟩ = false :=
  ⟨blk_cell h 0, blk_cell h 1, blk_cell h 2, blk_frozen h 1, blk_frozen h 2⟩
theorem log_cell0 {w0 w : World} {bt bl : Nat} {s : TS} {ls : LS} {F : Nat → Prop} (h : WalIn w0 bt bl s ls w F) : w.cell? ⟨bl, 0, none⟩ = some (.pointer (some ⟨bt, 0, none⟩)) := by
  obtain ⟨v, FT, FL, h1, _⟩ := log_cells h
  exact (log_box h1).1
theorem log_cell2 {w0 w : World} {bt bl : Nat} {s : TS} {ls : LS} {F : Nat → Prop} (h : WalIn w0 bt bl s ls w F) : w.cell? ⟨bl, 2, none⟩ = some (.int .i64 (ls.size : Int)) ∧ w.frozen? ⟨bl, 2, none⟩ = false := by
  obtain ⟨v, FT, FL, h1, _⟩ := log_cells h
  exact ⟨(log_box h1).2.2.1, (log_box h1).2.2.2.2⟩
theorem log_froz {w0 w : World} {bt bl : Nat} {s : TS} {ls : LS} {F : Nat → Prop} (h : WalIn w0 bt bl s ls w F) : w.frozen? ⟨bl, 1, none⟩ = false ∧ w.frozen? ⟨bl, 2, none⟩ = false ∧ (∃ u, w.cell? ⟨bl, 1, none⟩ = some u) ∧ (∃ u, w.cell? ⟨bl, 2, none⟩ = some u) ∧ bl < w.heap.size := by
  obtain ⟨v, FT, FL, h1, _⟩ := log_cells h
  obtain ⟨g0, g1, g2, g3, g4⟩ := log_box h1
  exact ⟨g3, g4, ⟨_, g1⟩, ⟨_, g2⟩, blk_lt h1⟩
set_option maxRecDepth 100000 in
set_option maxHeartbeats 2000000 in
theorem read_any (w0 w : World) (bt bl : Nat) (s : TS) (ls : LS) (F : Nat → Prop) (b : List UInt8) (rows : List (List UInt8)) (n : Nat) (h : WalIn w0 bt bl s ls w F) (hb : s.l = n8 b) (hsp : splitOf (b.length + 1) b = (rows, n, 1)) (hlen : b.length ≤ 1000000) (hn : n ≤ b.length) (ho : s.ops < 1000000000) :
    Calls Tryd.prog 42 #[.pointer (some ⟨bl, 0, none⟩)] w (ReadPost w0 bt bl (openS s b n) (openE s b n) ls ⟨rows, n⟩ w F) := by
  have HW := Lib.hid h
  have HB := Lib.hid hb
  have HSP := Lib.hid hsp
  have HO := Lib.hid ho
  have q0 := log_cell0 h
  have hs1 : splitE 1 = 0 := rfl
  clear h hb hsp ho
  unfold openE openS
  by_cases hnl : n < b.length
  · rw [if_pos hnl, if_pos hnl]
    have hnl2 : (n : Int) < (b.length : Int) := by omega
    go_enter Tryd.func42, Tryd.ntmps42
    obtain ⟨E, hE⟩ : ∃ E, E = replaceE s (n8 (b.take n)) := ⟨_, rfl⟩
    rw [← hE]
    have HE := Lib.hid hE
    clear hE
    go_wp2_with (first
    | (go_at_call 22; refine (wbytes_any w0 w bt bl s ls F b HW.out HB.out).mono ?_; rintro r w1 ⟨A1, c1, rfl, hR1, hc1, hB1, hA1⟩
       have HB1 := Lib.hid hB1
       have HA1 := Lib.hid hA1
       have HR1 := Lib.hid hR1
       have hsl := split_any A1 c1 b w1 hR1 hc1 hlen
       rw [HSP.out] at hsl
       simp only [hs1] at hsl
       have HSL := Lib.hid hsl
       clear hsl hR1 hB1 hA1)
    | (go_at_call 57; refine HSL.out.mono ?_; rintro r w2 ⟨v, rfl, hV, hB2⟩
       obtain ⟨A2, c2, rfl⟩ := Kd.R_slice hV
       have HV := Lib.hid hV
       have HB2 := Lib.hid (HB1.out.trans (hB2.mono HB1.out.size))
       have HW2 := Lib.hid (HW.out.to HB2.out)
       have HR2 := Lib.hid (HR1.out.below hB2)
       obtain ⟨f1, f2, ⟨u1, p1⟩, ⟨u2, p2⟩, hblt⟩ := log_froz HW2.out
       clear hV hB2))
    have hct := fun W => cut_to8 A1 b.length c1 n (by omega) W
    have HWD := Lib.hid (HW2.out.to ((Below.refl _ w2).drew))
    have hrd : Bytes w2.drew A1 (b.take n) := take_bytes (HR2.out.below ((Below.refl _ w2).drew)) n hn
    have hln : (b.take n).length = n := by rw [List.length_take]; omega
    have hrep := wreplace_any A1 c1 (b.take n) w0 w2.drew bt bl s ls F HWD.out HO.out hrd (fun _ a ha hf => by have := HA1.out a ha; have := (HW.out.lt _ hf).2; omega)
    rw [hln, ← HE.out] at hrep
    have WREP := Lib.hid hrep
    clear hrd hln hrep
    refine wp_region_noPanic ?_
    refine wp_region_held_drew (S := (fun w' => w'.cell? ⟨bl, 0, none⟩ = some (.pointer (some ⟨bt, 0, none⟩)))) (by kernel_rfl) ?rds0 (fun hHeld0 => ?rdr0)
    case rds0 => (try dsimp only); exact (log_cell0 HWD.out)
    refine wpAnyH_take (i := 0) (v := ?rdv1) (by simp only [List.getElem?_toArray, List.getElem?_cons_zero, List.getElem?_cons_succ]; rfl) (by kernel_rfl) (by kernel_rfl) (by kernel_rfl) (fun _ _ _ h => h) (Or.inl ⟨by rfl, ?rdh1⟩) hHeld0 ?rdq1
    case rdh1 => (intro w hSw; (try dsimp only at hSw); go_simp <;> with_reducible rfl)
    try simp only [Act.put, List.setIfInBounds_toArray, List.set_cons_zero, List.set_cons_succ]
    refine wpAnyH_take (i := 1) (v := ?rdv2) (by simp only [List.getElem?_toArray, List.getElem?_cons_zero, List.getElem?_cons_succ]; rfl) (by kernel_rfl) (by kernel_rfl) (by kernel_rfl) (fun _ _ _ h => h) (Or.inl ⟨by rfl, ?rdh2⟩) hHeld0 ?rdq2
    case rdh2 => (intro w hSw; (try dsimp only at hSw); go_simp <;> with_reducible rfl)
    try simp only [Act.put, List.setIfInBounds_toArray, List.set_cons_zero, List.set_cons_succ]
    refine wpAnyH_take (i := 2) (v := ?rdv3) (by simp only [List.getElem?_toArray, List.getElem?_cons_zero, List.getElem?_cons_succ]; rfl) (by kernel_rfl) (by kernel_rfl) (by kernel_rfl) (fun _ _ _ h => h) (Or.inl ⟨by rfl, ?rdh3⟩) hHeld0 ?rdq3
    case rdh3 => (intro w hSw; (try dsimp only at hSw); go_simp <;> with_reducible rfl)
    try simp only [Act.put, List.setIfInBounds_toArray, List.set_cons_zero, List.set_cons_succ]
    refine wpAnyH_take (i := 3) (v := ?rdv4) (by simp only [List.getElem?_toArray, List.getElem?_cons_zero, List.getElem?_cons_succ]; rfl) (by kernel_rfl) (by kernel_rfl) (by kernel_rfl) (fun _ _ _ h => h) (Or.inl ⟨by rfl, ?rdh4⟩) hHeld0 ?rdq4
    case rdh4 => (intro w hSw; (try dsimp only at hSw); go_simp <;> with_reducible rfl)
    try simp only [Act.put, List.setIfInBounds_toArray, List.set_cons_zero, List.set_cons_succ]
    refine wpAnyH_take (i := 4) (v := ?rdv5) (by simp only [List.getElem?_toArray, List.getElem?_cons_zero, List.getElem?_cons_succ]; rfl) (by kernel_rfl) (by kernel_rfl) (by kernel_rfl) (fun _ _ _ h => h) (Or.inl ⟨by rfl, ?rdh5⟩) hHeld0 ?rdq5
    case rdh5 => (intro w hSw; (try dsimp only at hSw); go_simp <;> with_reducible rfl)
    try simp only [Act.put, List.setIfInBounds_toArray, List.set_cons_zero, List.set_cons_succ]
    refine wpAnyH_take (i := 5) (v := ?rdv6) (by simp only [List.getElem?_toArray, List.getElem?_cons_zero, List.getElem?_cons_succ]; rfl) (by kernel_rfl) (by kernel_rfl) (by kernel_rfl) (fun _ _ _ h => h) (Or.inl ⟨by rfl, ?rdh6⟩) hHeld0 ?rdq6
    case rdh6 => (intro w hSw; (try dsimp only at hSw); go_simp <;> with_reducible rfl)
    try simp only [Act.put, List.setIfInBounds_toArray, List.set_cons_zero, List.set_cons_succ]
    refine wpAnyH_take (i := 6) (v := ?rdv7) (by simp only [List.getElem?_toArray, List.getElem?_cons_zero, List.getElem?_cons_succ]; rfl) (by kernel_rfl) (by kernel_rfl) (by kernel_rfl) (fun _ _ _ h => h) (Or.inl ⟨by rfl, ?rdh7⟩) hHeld0 ?rdq7
    case rdh7 => (intro w hSw; (try dsimp only at hSw); go_simp <;> with_reducible rfl)
    try simp only [Act.put, List.setIfInBounds_toArray, List.set_cons_zero, List.set_cons_succ]
    refine wpAnyH_ready (rs := [7]) (by kernel_rfl) (by simp) ?_
    refine AllReadyH.cons (by simp only [List.getElem?_toArray, List.getElem?_cons_zero, List.getElem?_cons_succ]; rfl) (fun K hK => ?_) AllReadyH.nil
    go_simp
    go_at_call 51
    refine (WREP.out).mono ?_
    rintro r w3 ⟨rfl, F3, hW3, hF3, hK3⟩
    have HW3 := Lib.hid hW3
    have HF3 := Lib.hid hF3
    have HK3 := Lib.hid (Keep.undrew hK3)
    clear hW3 hF3 hK3
    refine hK.out _ _ ?rds8 (fun hHeld1 => ?rdq8)
    case rds8 => (try dsimp only); exact (log_cell0 HW3.out)
    clear hK K
    try simp only [Act.put, List.setIfInBounds_toArray, List.set_cons_zero, List.set_cons_succ]
    refine wpAnyH_take (i := 8) (v := ?rdv9) (by simp only [List.getElem?_toArray, List.getElem?_cons_zero, List.getElem?_cons_succ]; rfl) (by kernel_rfl) (by kernel_rfl) (by kernel_rfl) (fun _ _ _ h => h) (Or.inl ⟨by rfl, ?rdh9⟩) hHeld1 ?rdq9
    case rdh9 => (intro w hSw; (try dsimp only at hSw); go_simp <;> with_reducible rfl)
    try simp only [Act.put, List.setIfInBounds_toArray, List.set_cons_zero, List.set_cons_succ]
    refine wpAnyH_done (by kernel_rfl) ?_ _
    refine NoPanic.normal ?_
    by_cases he : E = 0
    · subst he
      obtain ⟨f1, f2, ⟨u1, p1⟩, ⟨u2, p2⟩, hblt⟩ := log_froz HW3.out
      go_wp2
      go_ret
      obtain ⟨hv, hok⟩ := rows_after (w := w) (F3 := F3) HV.out HB1.out (fun k hk => (HW.out.lt k hk).2) HF3.out HK3.out
      have hp := log_put (n := n) HW3.out (fun k hk => (HF3.out k hk).imp_right (fun e => Nat.le_trans HB2.out.size e)) ((Keep.of_below HB2.out F).trans HK3.out (fun k hk => .inl hk)) (Kd.R_lower hv HW.out.below.size) hok
      unfold ReadPost
      exact ⟨_, rfl, .inl ⟨rfl, rfl⟩, fun _ => hp, fun e => absurd rfl e⟩
    · have HE0 := Lib.hid he
      have hne : (E != 0) = true := bne_iff_ne.mpr he
      clear he
      go_wp2_with (go_at_call 47; refine (met_any _ E w3 HE0.out).mono ?_; rintro r w4 ⟨ev, rfl, hEv, hB⟩; have HEV := Lib.hid hEv; have HB4 := Lib.hid hB; clear hEv hB)
      go_ret
      unfold ReadPost
      exact ⟨_, rfl, HEV.out, fun e => absurd e HE0.out, fun _ => WalOut.to (WalOut.from HB2.out ⟨F3, HW3.out, HF3.out, HK3.out⟩) HB4.out⟩
  · rw [if_neg hnl, if_neg hnl]
    obtain rfl : n = b.length := by omega
    have hnl2 : ¬ ((b.length : Int) < (b.length : Int)) := by omega
    go_enter Tryd.func42, Tryd.ntmps42
    go_wp2_with (first
    | (go_at_call 22; refine (wbytes_any w0 w bt bl s ls F b HW.out HB.out).mono ?_; rintro r w1 ⟨A1, c1, rfl, hR1, hc1, hB1, hA1⟩
       have HB1 := Lib.hid hB1
       have HA1 := Lib.hid hA1
       have HR1 := Lib.hid hR1
       have hsl := split_any A1 c1 b w1 hR1 hc1 hlen
       rw [HSP.out] at hsl
       simp only [hs1] at hsl
       have HSL := Lib.hid hsl
       clear hsl hR1 hB1 hA1)
    | (go_at_call 57; refine HSL.out.mono ?_; rintro r w2 ⟨v, rfl, hV, hB2⟩
       obtain ⟨A2, c2, rfl⟩ := Kd.R_slice hV
       have HV := Lib.hid hV
       have HB2 := Lib.hid (HB1.out.trans (hB2.mono HB1.out.size))
       have HW2 := Lib.hid (HW.out.to HB2.out)
       have HR2 := Lib.hid (HR1.out.below hB2)
       obtain ⟨f1, f2, ⟨u1, p1⟩, ⟨u2, p2⟩, hblt⟩ := log_froz HW2.out
       clear hV hB2))
    go_ret
    obtain ⟨hv, hok⟩ := rows_after (w := w) (F3 := F) HV.out HB1.out (fun k hk => (HW.out.lt k hk).2) (fun k hk => .inl hk) (Keep.refl F w2)
    have hp := log_put (n := b.length) HW2.out (fun k hk => .inl hk) (Keep.of_below HB2.out F) (Kd.R_lower hv HW.out.below.size) hok
    unfold ReadPost
    exact ⟨_, rfl, .inl ⟨rfl, rfl⟩, fun _ => hp, fun e => absurd rfl e⟩
end Go.Proofs.YtfnnjgbldojigaaDoor
