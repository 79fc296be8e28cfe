/- All, Size, Sync, Open. -/
import Derived.Test.YtfnnjgbldojigaaDoorWalW
set_option linter.unusedVariables false
set_option linter.unusedSimpArgs false
namespace Go.Proofs.YtfnnjgbldojigaaDoor
open Go.RowKit Go.Proofs.YtfnnjgbldojigaaDoorW.PrintWords Go.Proofs.Mine Go.Proofs.Mine.Crc

set_option maxRecDepth 100000 in
set_option maxHeartbeats 2000000 in
theorem wall_any (w0 w : World) (bt bl : Nat) (s : TS) (ls : LS) (F : Nat → Prop) (h : WalIn w0 bt bl s ls w F) (hr : ls.rows.length ≤ 1000000) (hsz : ∀ r ∈ ls.rows, r.length ≤ 1000000) :
    Calls Tryd.prog 21 #[.pointer (some ⟨bl, 0, none⟩)] w fun r w' => ∃ v, r = .returned v ∧ rowsK.R 32 w' w.heap.size (fun _ => True) v ls.rows ∧ Below w.heap.size w w' := by
  obtain ⟨v, FT, FL, hb, hR, _⟩ := log_cells h
  obtain ⟨A, c, rfl⟩ := Kd.R_slice hR
  have q1 := (log_box hb).2.1
  have hC := (Kd.R_reads' hR).2.2
  obtain ⟨hs, hmap, hrow, hin⟩ := hds_of_rows hC
  have hl : hs.length = ls.rows.length := by rw [← hmap]; simp
  rw [← hmap]
  have hsz2 : ∀ y ∈ hs, y.l.length ≤ 1000000 := fun y hy => hsz _ (by rw [← hmap]; exact List.mem_map.2 ⟨y, hy, rfl⟩)
  rw [← hl] at q1 hrow hr
  have HROW := Lib.hid hrow
  have HIN := Lib.hid hin
  have HSZ := Lib.hid hsz2
  clear h hb hR hC hmap hrow hin hsz hsz2 hl
  go_enter Tryd.func21, Tryd.ntmps21
  go_wp2_with fail
  go_loopw [3, 11] (fun u iv wr => ∃ (k : Nat), k ≤ hs.length ∧ iv = .int .i64 (k : Int) ∧ RowKit.Hid (rowsK.R 32 wr w.heap.size (fun _ => True) u ((hs.take k).map (·.l))) ∧ RowKit.Hid (Below w.heap.size w wr)) (fun _ iv _ => hs.length - (intOf iv).toNat)
  case atStart => exact ⟨0, by omega, rfl, Lib.hid (by rw [List.take_zero]; exact Kd.R_nil _ _ _ _ _), Lib.hid (Below.refl _ _)⟩
  case round =>
    rename_i u _ wr
    obtain ⟨k, hk, rfl, HU, HB⟩ := hrel
    by_cases hlt : k < hs.length
    · have hlt2 : (k : Int) < (hs.length : Int) := by omega
      have hk0 : (0 : Int) ≤ (k : Int) := by omega
      obtain ⟨y, hy⟩ : ∃ y, hs[k]? = some y := ⟨_, List.getElem?_eq_getElem hlt⟩
      obtain ⟨ad, rfl, hcell⟩ := hd_at HROW.out hy
      have hmem := List.mem_of_getElem? hy
      have hyb := (HIN.out y hmem).1
      have hyl := HSZ.out y hmem
      have hcw : wr.cell? (ad.add k) = some (.slice y.A y.l.length y.c) := pw_cell_below HB.out hcell
      have hts : (hs.take (k + 1)).map (·.l) = (hs.take k).map (·.l) ++ [y.l] := by rw [List.take_add_one, hy]; simp
      have hdl : ((hs.take k).map (·.l)).length = k := by rw [List.length_map, List.length_take]; omega
      have HTS := Lib.hid hts
      have HDL := Lib.hid hdl
      have HYB := Lib.hid (hyb.below HB.out)
      clear hcell hmem hyb hy hts hdl
      generalize (hs.take k).map (·.l) = dn at *
      obtain ⟨Au, cu, rfl⟩ := Kd.R_slice HU.out
      go_wp2_with (first
        | (go_at_call 49; refine (clone8_any y.A _ y.c y.l wr HYB.out hyl).mono ?_; rintro r w1 ⟨v1, rfl, hO, hB1⟩; obtain ⟨A1, c1, rfl⟩ := own_slice hO; have HO := Lib.hid hO; have HB1 := Lib.hid hB1; clear hO hB1)
        | (at_builtin; refine Kd.R_append rowsK (w0 := w) w.heap.size rfl _ _ 22 32 (.slice none 0 0) 24 rfl Tryd.underlying22 infoR rfl (by decide) (by decide) (.slice Au dn.length cu) dn y.l [.slice A1 _ c1] (fun _ => True) (fun k => wr.heap.size ≤ k) rfl rfl ?e1 ?e2 ?e3 ?e4 ?e5 ?e6 ?e7 ?e8))
      case e1 => exact ⟨_, rfl, Kd.R_of_own (by have := own_weaken HO.out HB.out.size; simpa using this) (fun k hk => own_base HO.out k hk)⟩
      case e2 =>
        intro j hj
        refine ⟨trivial, fun hne => ?_⟩
        obtain ⟨inner, ho⟩ := Kd.R_own HU.out
        have h1 := own_lt ho j hne.symm
        omega
      case e3 => exact fun _ _ => trivial
      case e4 => exact Kd.R_below HU.out HB1.out
      case e5 => exact HB.out.trans (HB1.out.mono HB.out.size)
      case e6 => exact Nat.le_trans HB.out.size HB1.out.size
      case e7 => have := HDL.out; omega
      case e8 =>
        intro v2 w2 hR2 hB2 _ _
        have L1 := Lib.hid hR2
        have L2 := Lib.hid hB2
        clear hR2 hB2
        go_wp2
        exact ⟨⟨k + 1, by omega, by simp, Lib.hid (by rw [HTS.out]; exact L1.out), L2⟩, by simp [intOf]; omega⟩
    · obtain rfl : k = hs.length := by omega
      rw [List.take_length] at HU
      go_wp2
      go_ret
      exact ⟨_, rfl, HU.out, HB.out⟩
set_option maxRecDepth 100000 in
set_option maxHeartbeats 2000000 in
theorem wsize_any (w0 w : World) (bt bl : Nat) (s : TS) (ls : LS) (F : Nat → Prop) (h : WalIn w0 bt bl s ls w F) :
    Calls Tryd.prog 26 #[.pointer (some ⟨bl, 0, none⟩)] w fun r w' => r = .returned (.int .i64 (ls.size : Int)) ∧ w = w' := by
  have q2 := (log_cell2 h).1
  clear h
  go_enter Tryd.func26, Tryd.ntmps26
  go_wp2
  go_ret
  exact ⟨rfl, rfl⟩
set_option maxRecDepth 100000 in
set_option maxHeartbeats 2000000 in
theorem wsync_any (w0 w : World) (bt bl : Nat) (s : TS) (ls : LS) (F : Nat → Prop) (h : WalIn w0 bt bl s ls w F) (ho : s.ops < 1000000000) :
    Calls Tryd.prog 24 #[.pointer (some ⟨bl, 0, none⟩)] w fun r w' => r = .returned (.int .i64 (syncE s)) ∧ WalOut w0 bt bl (syncS s) ls w F w' := by
  have q0 := log_cell0 h
  have HW := Lib.hid h
  have HO := Lib.hid ho
  clear h ho
  go_enter Tryd.func24, Tryd.ntmps24
  go_wp2_with (go_at_call 50; refine (wtsync_any w0 w bt bl s ls F HW.out HO.out).mono ?_; rintro r w1 ⟨rfl, hS⟩; have HS := Lib.hid hS; clear hS)
  go_ret
  exact ⟨rfl, HS.out⟩
theorem log_new {w0 w : World} {bt : Nat} {s : TS} {F : Nat → Prop} (h : TapeIn w0 bt s w F) : WalIn w0 bt w.heap.size s ⟨[], 0⟩ (w.alloc (.cells #[.pointer (some ⟨bt, 0, none⟩), .slice none 0 0, .int .i64 0] 80)) (fun k => F k ∨ k = w.heap.size) := by
  have hB := (Below.refl w.heap.size w).alloc (Nat.le_refl _) (.cells #[.pointer (some ⟨bt, 0, none⟩), .slice none 0 0, .int .i64 0] 80)
  have hlt : ∀ k, F k → w0.heap.size ≤ k ∧ k < w.heap.size := h.at_.2.1
  have hw := h.below.size
  refine ⟨h.laid, h.below.alloc hw _, h.ok, fun k hk => ?_, F, fun k => k = w.heap.size, fun k hk => .inl hk, fun k hk => .inr hk, fun k hk hf => by subst hk; have := (hlt _ hf).2; omega, (h.to hB).at_, rfl, fun k hk => ?_, .slice none 0 0, heap_alloc_new w _, Kd.R_nil _ _ _ _ _⟩
  · rcases hk with hk | rfl
    · exact ⟨(hlt k hk).1, by have := (hlt k hk).2; simp; omega⟩
    · exact ⟨hw, by simp⟩
  · subst hk
    exact ⟨hw, by simp⟩
def Opened (w0 : World) (bt : Nat) (s1 : TS) (E : Int) (ls : LS) (w : World) (F : Nat → Prop) (r : Ending) (w' : World) : Prop :=
  (E = 0 ∧ ∃ bl F', r = .returned (.tuple #[.pointer (some ⟨bl, 0, none⟩), .int .i64 0]) ∧ WalIn w0 bt bl s1 ls w' F' ∧ (∀ k, F' k → F k ∨ w.heap.size ≤ k) ∧ Keep F w w') ∨
  (E ≠ 0 ∧ r = .returned (.tuple #[.pointer none, .int .i64 E]) ∧ TapeOut w0 bt s1 w F w')
set_option maxRecDepth 100000 in
set_option maxHeartbeats 2000000 in
theorem open_any (w0 w : World) (bt : Nat) (s : TS) (F : Nat → Prop) (b : List UInt8) (rows : List (List UInt8)) (n : Nat) (h : TapeIn w0 bt s w F) (hd : s.dead = false) (hb : s.l = n8 b) (hsp : splitOf (b.length + 1) b = (rows, n, 1)) (hlen : b.length ≤ 1000000) (hn : n ≤ b.length) (ho : s.ops < 1000000000) :
    Calls Tryd.prog 15 #[.pointer (some ⟨bt, 0, none⟩)] w (Opened w0 bt (openS s b n) (openE s b n) ⟨rows, n⟩ w F) := by
  have HT := Lib.hid h
  have HN := Lib.hid (log_new h)
  have HD := Lib.hid hd
  have HB := Lib.hid hb
  have HSP := Lib.hid hsp
  have HO := Lib.hid ho
  clear h hd hb hsp ho
  by_cases he : openE s b n = 0
  · have HEq := Lib.hid he
    clear he
    go_enter Tryd.func15, Tryd.ntmps15
    go_wp2_with (first
      | (go_at_call 29; refine (dead_any w w0.heap.size bt F s HT.out.at_).mono ?_; rintro r w1 ⟨rfl, rfl⟩; rw [HD.out])
      | (go_at_call 42; refine (read_any w0 _ bt w.heap.size s ⟨[], 0⟩ _ b rows n HN.out HB.out HSP.out hlen hn HO.out).mono ?_; rintro r w2 ⟨ev, rfl, hE, h0, h1⟩
         have hO2 := h0 HEq.out
         have HE := Lib.hid hE
         have HO2 := Lib.hid (WalOut.after (F := F) (w := w) (fun k hk => hk.imp id (fun e => by omega)) ((Keep.refl F w).alloc _) hO2)
         have HL2 := Lib.hid (show Laid w2 from by obtain ⟨F', hi, _⟩ := hO2; exact hi.lw)
         clear hE h0 h1 hO2)
      | (go_at_call 41; refine (wrap_any _ ev _ w2 HL2.out HE.out).mono ?_; rintro r w3 ⟨ev3, rfl, hE3, hB3⟩
         have HO3 := Lib.hid (HO2.out.to hB3)
         have HL3 := Lib.hid (HL2.out.below hB3)
         have HE3 := Lib.hid hE3
         obtain rfl := hE3.nil HEq.out
         clear hE3 hB3))
    go_ret2
    obtain ⟨F', g1, g2, g3⟩ := HO3.out
    exact .inl ⟨HEq.out, _, F', rfl, g1, g2, g3⟩
  · have HEq := Lib.hid he
    clear he
    go_enter Tryd.func15, Tryd.ntmps15
    go_wp2_with (first
      | (go_at_call 29; refine (dead_any w w0.heap.size bt F s HT.out.at_).mono ?_; rintro r w1 ⟨rfl, rfl⟩; rw [HD.out])
      | (go_at_call 42; refine (read_any w0 _ bt w.heap.size s ⟨[], 0⟩ _ b rows n HN.out HB.out HSP.out hlen hn HO.out).mono ?_; rintro r w2 ⟨ev, rfl, hE, h0, h1⟩
         have hO2 := h1 HEq.out
         have HE := Lib.hid hE
         have HO2 := Lib.hid (WalOut.after (F := F) (w := w) (fun k hk => hk.imp id (fun e => by omega)) ((Keep.refl F w).alloc _) hO2)
         have HL2 := Lib.hid (show Laid w2 from by obtain ⟨F', hi, _⟩ := hO2; exact hi.lw)
         clear hE h0 h1 hO2)
      | (go_at_call 41; refine (wrap_any _ ev _ w2 HL2.out HE.out).mono ?_; rintro r w3 ⟨ev3, rfl, hE3, hB3⟩
         have HO3 := Lib.hid (HO2.out.to hB3)
         have HL3 := Lib.hid (HL2.out.below hB3)
         have HE3 := Lib.hid hE3
         obtain ⟨b3, rfl⟩ := hE3.some HEq.out
         clear hE3 hB3)
      | (go_at_call 43; refine (wtold_any _ _ w3 HL3.out HE3.out HEq.out).mono ?_; rintro r w4 ⟨rfl, hB4⟩
         have HO4 := Lib.hid (HO3.out.to hB4)
         clear hB4))
    go_ret2
    obtain ⟨F', g1, g2, g3⟩ := HO4.out
    exact .inr ⟨HEq.out, rfl, F', g1.tape, g2, g3⟩
end Go.Proofs.YtfnnjgbldojigaaDoor
