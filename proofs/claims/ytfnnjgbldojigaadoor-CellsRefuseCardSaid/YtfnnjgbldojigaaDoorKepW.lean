/- Keep. -/
import Derived.Test.YtfnnjgbldojigaaDoorLapW
set_option linter.unusedVariables false
set_option linter.unusedSimpArgs false
namespace Go.Proofs.YtfnnjgbldojigaaDoor
open Go.RowKit Go.Proofs.YtfnnjgbldojigaaDoorW.PrintWords Go.Proofs.Mine Go.Proofs.Mine.Crc

theorem framesOf_snoc (rs : List (List UInt8)) (r : List UInt8) : framesOf (rs ++ [r]) = framesOf rs ++ frameOf r := by simp [framesOf]
theorem frames_bound (rs : List (List UInt8)) (h : ∀ r ∈ rs, r.length ≤ 65536) : (framesOf rs).length ≤ 65544 * rs.length := by
  induction rs with
  | nil => simp [framesOf]
  | cons r rs ih =>
    have h1 := ih (fun x hx => h x (List.mem_cons_of_mem _ hx))
    have h2 := h r (List.mem_cons_self ..)
    have e : framesOf (r :: rs) = frameOf r ++ framesOf rs := by simp [framesOf]
    rw [e, List.length_append, frameOf_length, List.length_cons]
    omega
set_option maxRecDepth 100000 in
set_option maxHeartbeats 2000000 in
theorem wlkeep_any (A : Option Addr) (c : Nat) (hs : List Hd) (w0 w : World) (bt bl : Nat) (s : TS) (ls : LS) (F : Nat → Prop) (h : WalIn w0 bt bl s ls w F) (ho : s.ops < 1000000000) (hrow : HRow w A hs.length hs) (hin : HdsIn w hs) (h8 : hs.length ≤ 1000) (hsm : ∀ y ∈ hs, y.l.length ≤ 65536) :
    Calls Tryd.prog 25 #[.pointer (some ⟨bl, 0, none⟩), .slice A hs.length c] w (AppPost w0 bt bl (replaceS s (n8 (framesOf (hs.map (·.l))))) (replaceE s (n8 (framesOf (hs.map (·.l))))) ls ⟨hs.map (·.l), (framesOf (hs.map (·.l))).length⟩ w F) := by
  have HW := Lib.hid h
  have HO := Lib.hid ho
  have HROW := Lib.hid hrow
  have HIN := Lib.hid hin
  have HSM := Lib.hid hsm
  obtain ⟨rs, hrs⟩ : ∃ rs, rs = hs.map (·.l) := ⟨_, rfl⟩
  rw [← hrs]
  obtain ⟨fr, hfr⟩ : ∃ fr, fr = framesOf rs := ⟨_, rfl⟩
  rw [← hfr]
  obtain ⟨E, hE⟩ : ∃ E, E = replaceE s (n8 fr) := ⟨_, rfl⟩
  rw [← hE]
  have HFR := Lib.hid hfr
  have HRS := Lib.hid hrs
  have HE := Lib.hid hE
  clear h ho hrow hin hsm hfr hrs hE
  go_enter Tryd.func25, Tryd.ntmps25
  go_wp2_with fail
  go_loopw [5, 6, 14] (fun u5 u6 iv wr => ∃ (k : Nat), k ≤ hs.length ∧ iv = .int .i64 (k : Int) ∧ RowKit.Hid (Own wr w.heap.size u5 (framesOf ((hs.take k).map (·.l)))) ∧ RowKit.Hid (rowsK.R 32 wr w.heap.size (fun j => some j ≠ u5.ownBlock) u6 ((hs.take k).map (·.l))) ∧ RowKit.Hid (Below w.heap.size w wr)) (fun _ _ iv _ => hs.length - (intOf iv).toNat)
  case atStart => exact ⟨0, by omega, rfl, Lib.hid (by rw [List.take_zero]; exact own_nil _ _ _ _), Lib.hid (by rw [List.take_zero]; exact Kd.R_nil _ _ _ _ _), Lib.hid (Below.refl _ _)⟩
  case round =>
    obtain ⟨k, hk, rfl, HU5, HU6, HB⟩ := hrel
    by_cases hlt : k < hs.length
    · have hlt2 : (k : Int) < (hs.length : Int) := by omega
      have hk0 : (0 : Int) ≤ (k : Int) := by omega
      obtain ⟨y, hy⟩ : ∃ y, hs[k]? = some y := ⟨_, List.getElem?_eq_getElem hlt⟩
      obtain ⟨ad, rfl, hcell⟩ := hd_at HROW.out hy
      have hmem := List.mem_of_getElem? hy
      have hyb := (HIN.out y hmem).1
      have hyl := HSM.out y hmem
      have hcw : wr.cell? (ad.add k) = some (.slice y.A y.l.length y.c) := pw_cell_below HB.out hcell
      have hts : (hs.take (k + 1)).map (·.l) = (hs.take k).map (·.l) ++ [y.l] := by rw [List.take_add_one, hy]; simp
      have hdl : ((hs.take k).map (·.l)).length = k := by rw [List.length_map, List.length_take]; omega
      have hfb := frames_bound ((hs.take k).map (·.l)) (fun r hr => by
        obtain ⟨z, hz, rfl⟩ := List.mem_map.1 hr
        exact HSM.out z (List.mem_of_mem_take hz))
      have HTS := Lib.hid hts
      have HDL := Lib.hid hdl
      have HYB := Lib.hid (hyb.below HB.out)
      have HYW := Lib.hid hyb
      rw [hdl] at hfb
      obtain ⟨fk, hfk⟩ : ∃ fk, fk = framesOf ((hs.take k).map (·.l)) := ⟨_, rfl⟩
      rw [← hfk] at hfb HU5
      have HFK := Lib.hid hfk
      have hfl : (frameOf y.l).length = y.l.length + 8 := frameOf_length y.l
      have HFL := Lib.hid hfl
      clear hcell hmem hyb hy hts hdl hfk hfl
      generalize (hs.take k).map (·.l) = dn at *
      obtain ⟨Au, cu, rfl⟩ := own_slice HU5.out
      obtain ⟨Av, cv, rfl⟩ := Kd.R_slice HU6.out
      go_wp2_with (first
        | (go_at_call 46; refine (frame_any y.A y.c y.l wr HYB.out hyl).mono ?_; rintro r w1 ⟨v1, rfl, hO, hB1⟩
           obtain ⟨A1, c1, rfl⟩ := own_slice hO
           have HB1 := Lib.hid hB1
           obtain ⟨A1', c1', he1, hr1⟩ := own_reads_of (d := 0) hO
           obtain ⟨rfl, rfl⟩ : A1 = A1' ∧ c1 = c1' := by injection he1 with e1 e2 e3; exact ⟨e1, e3⟩
           have HR1 := Lib.hid hr1
           clear hO hB1 hr1 he1)
        | (at_builtin; refine print_append_row_of (w0 := w) b8 0 w.heap.size rfl _ _ 32 5 (.int .u8 0) 1 rfl Tryd.underlying32 Tryd.info5 rfl (by decide) b8_one (.slice Au fk.length cu) fk (frameOf y.l) A1 (frameOf y.l).length c1 rfl rfl ?d1 ?d2 ?d3 ?d4 ?d5 ?d6))
      case d1 => exact pw_own_below HU5.out HB1.out
      case d2 => exact HR1.out
      case d3 => exact HB.out.trans (HB1.out.mono HB.out.size)
      case d4 => have := HB.out.size; have := HB1.out.size; omega
      case d5 => have := HFL.out; omega
      case d6 =>
        intro v2 w2 hown hB2 hg2 hat2
        obtain ⟨A2, c2, rfl⟩ := own_slice hown
        have HOW := Lib.hid hown
        have HB2 := Lib.hid hB2
        have hu6 : rowsK.R 32 w2 w.heap.size (fun j => some j ≠ (Value.slice A2 (fk.length + (frameOf y.l).length) c2).ownBlock) (.slice Av dn.length cv) dn := by
          have h1 := Kd.R_bound (Kd.R_below HU6.out HB1.out)
          have h2 := Kd.R_grown h1 hg2 (fun j hj => hj.1)
          refine Kd.R_mono h2 (fun j hj e => ?_)
          have hlt := hj.2.2.1
          rcases hat2 with e2 | ⟨bb, e2, hle⟩
          · exact hj.1 (e.trans e2)
          · rw [e2] at e; injection e with e; omega
        have HU2 := Lib.hid hu6
        have HY2 := Lib.hid (show ReadsOf b8 0 w2 y.A y.l.length y.l from bytes_keep HYB.out ((Keep.of_below HB1.out (fun j => some j = (Value.slice Au fk.length cu).ownBlock)).trans (Keep.of_grown hg2 (fun j hj => hj.symm)) (fun j hj => .inl hj)) (fun hp a ha hf => by
          have h1 := HIN.out y
          have h3 := own_base HU5.out a.block hf.symm
          obtain ⟨ad', ha', hc'⟩ := HYW.out.2.2 hp
          rw [ha] at ha'; injection ha' with ha'; subst ha'
          have := World.block_lt_of_cell? w _ (hc' 0 hp)
          rw [add_block] at this
          omega))
        clear hown hB2 hg2 hat2 hu6
        go_wp2_with (first
          | (go_at_call 49; refine (clone8_any y.A _ y.c y.l w2 HY2.out (by omega)).mono ?_; rintro r w3 ⟨v3, rfl, hO3, hB3⟩; obtain ⟨A3, c3, rfl⟩ := own_slice hO3; have HO3 := Lib.hid hO3; have HB3 := Lib.hid hB3; clear hO3 hB3)
          | (at_builtin; refine Kd.R_append rowsK (w0 := w) w.heap.size rfl _ _ 22 32 (.slice none 0 0) 24 rfl Tryd.underlying22 infoR rfl (by decide) (by decide) (.slice Av dn.length cv) dn y.l [.slice A3 _ c3] (fun j => some j ≠ (Value.slice A2 (fk.length + (frameOf y.l).length) c2).ownBlock) (fun j => w2.heap.size ≤ j) rfl rfl ?e1 ?e2 ?e3 ?e4 ?e5 ?e6 ?e7 ?e8))
        case e1 => exact ⟨_, rfl, Kd.R_of_own (own_weaken HO3.out HB2.out.size) (fun k hk => own_base HO3.out k hk)⟩
        case e2 => exact fun j hj => ⟨fun e => by have := own_lt HOW.out j e.symm; omega, fun e => by have := Kd.R_lt HU2.out j e.symm; omega⟩
        case e3 =>
          intro j hj e
          have := own_lt HOW.out j e.symm
          have := HB3.out.size
          omega
        case e4 => exact Kd.R_below HU2.out HB3.out
        case e5 => exact HB2.out.trans (HB3.out.mono HB2.out.size)
        case e6 => exact Nat.le_trans HB2.out.size HB3.out.size
        case e7 => have := HDL.out; omega
        case e8 =>
          intro v4 w4 hR4 hB4 hg4 hat4
          obtain ⟨inner, hin⟩ := Kd.R_own HU2.out
          have how := own_other (pw_own_below HOW.out HB3.out) hg4 (own_type_ne HOW.out hin (by decide))
          have L1 := Lib.hid hR4
          have L2 := Lib.hid hB4
          have L3 := Lib.hid how
          clear hR4 hB4 hg4 hat4 how hin
          go_wp2
          refine ⟨⟨k + 1, by omega, by simp, Lib.hid ?_, Lib.hid (by rw [HTS.out]; exact L1.out), L2⟩, by simp [intOf]; omega⟩
          rw [HTS.out, framesOf_snoc, ← HFK.out]
          show w4.ownsRow _ 5 1 _ (fk ++ frameOf y.l).length _
          rw [List.length_append]
          exact L3.out
    · obtain rfl : k = hs.length := by omega
      rw [List.take_length, ← HRS.out] at HU5 HU6
      rw [← HFR.out] at HU5
      obtain ⟨Au, cu, rfl⟩ := own_slice HU5.out
      obtain ⟨Av, cv, rfl⟩ := Kd.R_slice HU6.out
      have HWr := Lib.hid (HW.out.to HB.out)
      have q0 := log_cell0 HWr.out
      obtain ⟨Au', cu', he1, hr1⟩ := own_reads_of (d := 0) HU5.out
      obtain ⟨rfl, rfl⟩ : Au = Au' ∧ cu = cu' := by injection he1 with e1 e2 e3; exact ⟨e1, e3⟩
      have hrep := wreplace_any Au cu fr w0 wr bt bl s ls F HWr.out HO.out hr1 (fun _ a ha hf => by
        have := own_base HU5.out a.block (by subst ha; rfl)
        have := (HW.out.lt _ hf).2
        omega)
      rw [← HE.out] at hrep
      have HREP := Lib.hid hrep
      clear hrep hr1 he1
      by_cases he : E = 0
      · subst he
        go_wp2_with (go_at_call 51; refine HREP.out.mono ?_; rintro r w3 ⟨rfl, F3, hW3, hF3, hK3⟩
                     obtain ⟨f1, f2, ⟨u1, p1⟩, ⟨u2, p2⟩, hblt⟩ := log_froz hW3
                     have HW3 := Lib.hid hW3
                     have HF3 := Lib.hid hF3
                     have HK3 := Lib.hid hK3
                     clear hW3 hF3 hK3)
        go_ret
        obtain ⟨hv, hok⟩ := rows_after (w := w) (w1 := w) (F3 := F3) (Kd.R_mono HU6.out (fun _ _ => trivial)) (Below.refl _ _) (fun k hk => (HW.out.lt k hk).2) HF3.out HK3.out
        have hp := log_put (n := fr.length) HW3.out (fun k hk => (HF3.out k hk).imp_right (fun e => Nat.le_trans HB.out.size e)) ((Keep.of_below HB.out F).trans HK3.out (fun k hk => .inl hk)) (Kd.R_lower hv HW.out.below.size) hok
        unfold AppPost
        exact ⟨rfl, fun _ => hp, fun e => absurd rfl e⟩
      · have HE0 := Lib.hid he
        have hne : (E != 0) = true := bne_iff_ne.mpr he
        clear he
        go_wp2_with (first
          | (go_at_call 51; refine HREP.out.mono ?_; rintro r w3 ⟨rfl, F3, hW3, hF3, hK3⟩
             have HW3 := Lib.hid hW3
             have HF3 := Lib.hid hF3
             have HK3 := Lib.hid hK3
             clear hW3 hF3 hK3)
          | (go_at_call 47; refine (met_any _ E w3 HE0.out).mono ?_; rintro r w4 ⟨ev, rfl, hEv, hB⟩; have HEV := Lib.hid hEv; have HB4 := Lib.hid hB; clear hEv hB)
          | (go_at_call 43; refine (wtold_any ev E w4 (HW3.out.lw.below HB4.out) HEV.out.t HE0.out).mono ?_; rintro r w5 ⟨rfl, hB⟩; have HB5 := Lib.hid (HB4.out.trans (hB.mono HB4.out.size)); clear hB))
        go_ret
        unfold AppPost
        exact ⟨rfl, fun e => absurd e HE0.out, fun _ => WalOut.to (WalOut.from HB.out ⟨F3, HW3.out, HF3.out, HK3.out⟩) HB5.out⟩
end Go.Proofs.YtfnnjgbldojigaaDoor
