/- WalKeeps. -/
import Derived.Test.YtfnnjgbldojigaaDoorRowK
set_option linter.unusedVariables false
set_option linter.unusedSimpArgs false
namespace Go.Proofs.YtfnnjgbldojigaaDoor
open Go.RowKit Go.Proofs.YtfnnjgbldojigaaDoorW.PrintWords Go.Proofs.Mine Go.Proofs.Mine.Crc

set_option maxRecDepth 100000 in
set_option maxHeartbeats 2000000 in
theorem keeps_any (A0 : Option Addr) (c0 : Nat) (x0 : List (List UInt8)) (A1 : Option Addr) (c1 : Nat) (x1 : List (List UInt8)) (A2 : Option Addr) (c2 : Nat) (x2 : List (List UInt8)) (sync : Bool) (w : World) (hg0 : Laid w) (hr0 : rowsK.C w A0 x0.length x0) (_ : x0.length ≤ c0) (hr1 : rowsK.C w A1 x1.length x1) (_ : x1.length ≤ c1) (hr2 : rowsK.C w A2 x2.length x2) (_ : x2.length ≤ c2) :
    Calls Tryd.prog 8 #[.slice A0 x0.length c0, .slice A1 x1.length c1, .slice A2 x2.length c2, .bool sync] w fun e w' => e = .returned (.bool true) ∧ Below w.heap.size w w' := by
  have HG := Lib.hid hg0
  obtain ⟨h0, hm0, hq0, hi0⟩ := hds_of_rows hr0
  obtain ⟨h1, hm1, hq1, hi1⟩ := hds_of_rows hr1
  obtain ⟨h2, hm2, hq2, hi2⟩ := hds_of_rows hr2
  obtain ⟨n0, hn0⟩ : ∃ n, n = h0.length := ⟨_, rfl⟩
  obtain ⟨n1, hn1⟩ : ∃ n, n = h1.length := ⟨_, rfl⟩
  obtain ⟨n2, hn2⟩ : ∃ n, n = h2.length := ⟨_, rfl⟩
  have e0 : x0.length = h0.length := by rw [← hm0]; simp
  have e1 : x1.length = h1.length := by rw [← hm1]; simp
  have e2 : x2.length = h2.length := by rw [← hm2]; simp
  rw [e0] at hq0
  rw [e1] at hq1
  rw [e2] at hq2
  rw [e0, e1, e2]
  have Q0 := Lib.hid hq0
  have Q1 := Lib.hid hq1
  have Q2 := Lib.hid hq2
  have I0 := Lib.hid hi0
  have I1 := Lib.hid hi1
  have I2 := Lib.hid hi2
  clear hg0 hr0 hr1 hr2 hm0 hm1 hm2 hq0 hq1 hq2 hi0 hi1 hi2 e0 e1 e2 hn0 hn1 hn2 n0 n1 n2
  go_enter Tryd.func8, Tryd.ntmps8
  go_wp2_with (first
    | (go_at_call 13; refine (known4_any w HG.out).mono ?_; rintro r w1 ⟨rfl, hB⟩; have HB1 := Lib.hid hB; clear hB)
    | (go_at_call 14; refine (new_ok 1048576 w1 (by decide) (by decide)).mono ?_; rintro r w2 ⟨rfl, hw2⟩
       have HI := Lib.hid (wal_start HG.out HB1.out 1048576 (by decide) (by decide) hw2)
       clear hw2
       generalize w1.heap.size = bt at *)
    | (go_at_call 15; refine (cal_open w w2 bt 1048576 0 [] 0 _ HI.out (by decide) (by simp) (by simp [framesOf])).mono ?_
       rintro r w3 ⟨bl, F3, o3, rfl, hW3, ho3, ho3', _, _⟩
       have HW3 := Lib.hid hW3
       clear hW3)
    | (have hzz := HW5.out
       go_at_call 16; refine (small_any A2 c2 h2 w5 (Q2.out.below HW5.out.below)).mono ?_
       rintro r w6 ⟨v6, rfl, hv6, hB6⟩
       obtain ⟨A6, c6, rfl⟩ := own_slice hv6
       have HR6 := Lib.hid (RowOk.new (RowOk.arg (F := F3) Q2.out I2.out HW5.out.below (fun k hk => (HW5.out.lt k hk).1)) hB6 hv6 (Nat.le_refl _) (fun k hk => (HW5.out.lt k hk).2) (fun y hy => (smallH_mem hy).1))
       have HW6 := Lib.hid (HW5.out.to hB6)
       have HR4b := Lib.hid (HR4.out.below hB6)
       have HR5b := Lib.hid (HR5.out.below hB6)
       clear hv6 hB6 hzz)
    | (have hzz := HW4.out
       go_at_call 16; refine (small_any A1 c1 h1 w4 (Q1.out.below HW4.out.below)).mono ?_
       rintro r w5 ⟨v5, rfl, hv5, hB5⟩
       obtain ⟨A5, c5, rfl⟩ := own_slice hv5
       have HR5 := Lib.hid (RowOk.new (RowOk.arg (F := F3) Q1.out I1.out HW4.out.below (fun k hk => (HW4.out.lt k hk).1)) hB5 hv5 (Nat.le_refl _) (fun k hk => (HW4.out.lt k hk).2) (fun y hy => (smallH_mem hy).1))
       have HW5 := Lib.hid (HW4.out.to hB5)
       have HR4 := Lib.hid (HR4a.out.below hB5)
       clear hv5 hB5 hzz)
    | (go_at_call 16; refine (small_any A0 c0 h0 w3 (Q0.out.below HW3.out.below)).mono ?_
       rintro r w4 ⟨v4, rfl, hv4, hB4⟩
       obtain ⟨A4, c4, rfl⟩ := own_slice hv4
       have HR4a := Lib.hid (RowOk.new (RowOk.arg (F := F3) Q0.out I0.out HW3.out.below (fun k hk => (HW3.out.lt k hk).1)) hB4 hv4 (Nat.le_refl _) (fun k hk => (HW3.out.lt k hk).2) (fun y hy => (smallH_mem hy).1))
       have HW4 := Lib.hid (HW3.out.to hB4)
       clear hv4 hB4))
  have hb8 := smallH_len h0
  have hr8 := smallH_len h1
  have ha8 := smallH_len h2
  have SB := Lib.hid (fun y (hy : y ∈ smallH h0) => (smallH_mem hy).2)
  have SR := Lib.hid (fun y (hy : y ∈ smallH h1) => (smallH_mem hy).2)
  have SA := Lib.hid (fun y (hy : y ∈ smallH h2) => (smallH_mem hy).2)
  have JR := Lib.hid (HdsIn.sub I1.out (fun y (hy : y ∈ smallH h1) => (smallH_mem hy).1))
  have JA := Lib.hid (HdsIn.sub I2.out (fun y (hy : y ∈ smallH h2) => (smallH_mem hy).1))
  clear HR4a HR5 HR4 HW3 HW4 HW5
  generalize smallH h0 = b at *
  generalize smallH h1 = rr at *
  generalize smallH h2 = aa at *
  go_loopw [13] (fun iv wr => ∃ (k : Nat) (o : Int) (F : Nat → Prop), k ≤ b.length ∧ iv = .int .i64 (k : Int) ∧ 0 ≤ o ∧ o ≤ (k : Int) + 1 ∧ RowKit.Hid (WalIn w bt bl (gs 1048576 ([] ++ (b.take k).map (·.l)) 0 o) (gl ([] ++ (b.take k).map (·.l))) wr F) ∧ RowKit.Hid (RowOk wr F A4 b) ∧ RowKit.Hid (RowOk wr F A5 rr) ∧ RowKit.Hid (RowOk wr F A6 aa)) (fun iv _ => b.length - (intOf iv).toNat)
  case atStart => exact ⟨0, o3, F3, by omega, rfl, ho3, by omega, HW6, HR4b, HR5b, HR6⟩
  case round =>
    obtain ⟨k, o, F, hk, rfl, ho0, ho1, HW, HR4, HR5, HR6⟩ := hrel
    by_cases hlt : k < b.length
    · have hlt2 : (k : Int) < (b.length : Int) := by omega
      have hk0 : (0 : Int) ≤ (k : Int) := by omega
      obtain ⟨y, hy⟩ : ∃ y, b[k]? = some y := ⟨_, List.getElem?_eq_getElem hlt⟩
      obtain ⟨ad, rfl, hc⟩ := hd_at HR4.out.row hy
      have HC := Lib.hid (cal_append_pre w wr bt bl o [] 0 F (some ad) b k y HW.out (by omega) HR4.out hy SB.out hb8 (by simp [framesOf]) (by simp))
      clear hy
      go_wp2_with (go_at_call 18; refine HC.out.mono ?_; rintro r w7 ⟨rfl, F7, hW7, hF7, hK7⟩
                   have HW7 := Lib.hid hW7
                   have HR47 := Lib.hid (HR4.out.step hK7 hF7)
                   have HR57 := Lib.hid (HR5.out.step hK7 hF7)
                   have HR67 := Lib.hid (HR6.out.step hK7 hF7)
                   clear hW7 hF7 hK7)
      exact ⟨⟨k + 1, o + 1, F7, by omega, by simp, by omega, by push_cast; omega, HW7, HR47, HR57, HR67⟩, by simp [intOf]; omega⟩
    · obtain rfl : k = b.length := by omega
      rw [List.take_length, List.nil_append] at HW
      have hfr := small_room (rr.map (·.l)) 300 (fun r hr => by obtain ⟨z, hz, rfl⟩ := List.mem_map.1 hr; exact SR.out z hz)
      rw [List.length_map] at hfr
      have hfa := small_room (aa.map (·.l)) 300 (fun r hr => by obtain ⟨z, hz, rfl⟩ := List.mem_map.1 hr; exact SA.out z hz)
      rw [List.length_map] at hfa
      have HFR := Lib.hid (And.intro hfr hfa)
      clear hfr hfa
      go_wp2_with (first
        | (go_at_call 25; refine (cal_keep A5 c5 rr w wr bt bl 1048576 o _ 0 F HW.out (by omega) HR5.out.row HR5.out.ins (by omega) (fun y hy => Nat.le_trans (SR.out y hy) (by decide)) (by have := HFR.out.1; omega)).mono ?_; rintro r w8 ⟨rfl, F8, hW8, hF8, hK8⟩
           have HW8 := Lib.hid hW8
           have HR58 := Lib.hid (HR5.out.step hK8 hF8)
           have HR68 := Lib.hid (HR6.out.step hK8 hF8)
           clear hW8 hF8 hK8)
        | (at_builtin; refine print_append_row_of (w0 := w8) Hd.v hd0 w8.heap.size rfl _ _ 22 32 (.slice none 0 0) 24 rfl Tryd.underlying22 infoR rfl (by decide) hd_one (.slice (some ⟨w8.heap.size, 0, none⟩) 0 0) [] rr A5 rr.length c5 rfl rfl ?d1 ?d2 ?d3 ?d4 ?d5 ?d6))
      case d1 => exact own_lit_of (enc := Hd.v) w8 w8.heap.size 32 [] (Nat.le_refl _) (by decide)
      case d2 => exact HR58.out.row.below ((Below.refl _ _).alloc (Nat.le_refl _) _)
      case d3 => exact (Below.refl _ _).alloc (Nat.le_refl _) _
      case d4 => simp
      case d5 => simp; omega
      case d6 =>
        intro v9 w9 hown hB9 hg9 hat9
        have hown' : HOwn w9 w8.heap.size v9 rr := hown
        obtain ⟨A9, c9, rfl⟩ := own_slice hown'
        have hoff : ∀ k, (Value.slice A9 rr.length c9).ownBlock = some k → ¬ F8 k := fun k hk hf => by have := own_base hown' k hk; have := (HW8.out.lt k hf).2; omega
        have HR59 := Lib.hid (RowOk.new HR58.out hB9 hown' (Nat.le_refl _) (fun k hk => (HW8.out.lt k hk).2) (fun y hy => hy))
        have HO9 := Lib.hid (show OwnOk w9 F8 w8.heap.size _ rr from ⟨hown', hoff⟩)
        have HR69 := Lib.hid (HR68.out.below hB9)
        have HW9 := Lib.hid (HW8.out.to hB9)
        have HWB := Lib.hid (show w.heap.size ≤ w8.heap.size from HW8.out.below.size)
        have HWL := Lib.hid (Nat.le_refl w8.heap.size)
        have HW8S := Lib.hid (show w8.heap.size ≤ w9.heap.size from hB9.size)
        generalize w8.heap.size = wb at *
        clear hown hown' hB9 hg9 hat9 hoff
        go_wp2_with fail
        go_loopw [15] (fun iv wr => ∃ (k : Nat) (p : Int) (F : Nat → Prop), k ≤ aa.length ∧ iv = .int .i64 (k : Int) ∧ 0 ≤ p ∧ p ≤ o + (k : Int) + 2 ∧ RowKit.Hid (WalIn w bt bl (gs 1048576 (rr.map (·.l) ++ (aa.take k).map (·.l)) (framesOf (rr.map (·.l))).length p) (gl (rr.map (·.l) ++ (aa.take k).map (·.l))) wr F) ∧ RowKit.Hid (RowOk wr F A6 aa) ∧ RowKit.Hid (RowOk wr F A9 rr) ∧ RowKit.Hid (OwnOk wr F wb (.slice A9 rr.length c9) rr) ∧ RowKit.Hid (wb ≤ wr.heap.size)) (fun iv _ => aa.length - (intOf iv).toNat)
        case atStart => exact ⟨0, o + 1, F8, by omega, rfl, by omega, by omega, Lib.hid (by rw [List.take_zero, List.map_nil, List.append_nil]; exact HW9.out), HR69, HR59, HO9, HW8S⟩
        case round =>
          obtain ⟨k, p, G, hk2, rfl, hp0, hp1, HWG, HG6, HG5, HGO, HWS⟩ := hrel
          by_cases hlt2 : k < aa.length
          · have hlt3 : (k : Int) < (aa.length : Int) := by omega
            have hk0 : (0 : Int) ≤ (k : Int) := by omega
            obtain ⟨y, hy⟩ : ∃ y, aa[k]? = some y := ⟨_, List.getElem?_eq_getElem hlt2⟩
            obtain ⟨ad, rfl, hc⟩ := hd_at HG6.out.row hy
            have HC := Lib.hid (cal_append_pre w wr bt bl p (rr.map (·.l)) _ G (some ad) aa k y HWG.out (by omega) HG6.out hy SA.out ha8 (by have := HFR.out.1; omega) (by rw [List.length_map]; omega))
            clear hy
            go_wp2_with (go_at_call 18; refine HC.out.mono ?_; rintro r w7 ⟨rfl, F7, hW7, hF7, hK7⟩
                         have HW7 := Lib.hid hW7
                         have HG67 := Lib.hid (HG6.out.step hK7 hF7)
                         have HG57 := Lib.hid (HG5.out.step hK7 hF7)
                         have HGO7 := Lib.hid (HGO.out.step hK7 hF7)
                         have HWS7 := Lib.hid (Nat.le_trans HWS.out hK7.size)
                         clear hW7 hF7 hK7)
            exact ⟨⟨k + 1, p + 1, F7, by omega, by simp, by omega, by push_cast; omega, HW7, HG67, HG57, HGO7, HWS7⟩, by simp [intOf]; omega⟩
          · obtain rfl : k = aa.length := by omega
            rw [List.take_length] at HWG
            cases sync
            · skip
              have hwh : wholeOf (rr.map (·.l) ++ aa.map (·.l)) ((framesOf (rr.map (·.l))).length) = (rr.map (·.l)).length ∧ (rr.map (·.l) ++ aa.map (·.l)).take (rr.map (·.l)).length = rr.map (·.l) := ⟨wholeOf_app _ _, List.take_left⟩
              have HWH := Lib.hid hwh
              have HSM := Lib.hid (show ∀ r ∈ rr.map (·.l) ++ aa.map (·.l), r.length ≤ 65536 from (fun r hr => Nat.le_trans (small_rows SR.out SA.out r hr) (by decide)))
              have HFL := Lib.hid (show (framesOf (rr.map (·.l) ++ aa.map (·.l))).length ≤ 1000000 from (by have := HFR.out; rw [frames_app]; omega))
              have HCC := Lib.hid (show (framesOf (rr.map (·.l))).length ≤ (framesOf (rr.map (·.l) ++ aa.map (·.l))).length from (by rw [frames_app]; omega))
              clear hwh
              go_wp2_with (first
                | (go_at_call 19; refine (cal_crash 0 w wr bt bl 1048576 (p) (rr.map (·.l) ++ aa.map (·.l)) _ _ G HWG.out).mono ?_; rintro r w20 ⟨rfl, hle, F20, hW20, hF20, hK20⟩
                   rw [crashK_zero, Nat.add_zero] at hW20
                   rw [crashK_zero]
                   have HW20 := Lib.hid hW20
                   have HR20 := Lib.hid (HG5.out.step hK20 hF20)
                   clear hW20 hF20 hK20 hle)
                | (go_at_call 15; refine (cal_reopen w w20 bt 1048576 (p) (rr.map (·.l) ++ aa.map (·.l)) _ F20 HW20.out.tape (by omega) HSM.out HFL.out HCC.out).mono ?_; rintro r w21 ⟨bl21, F21, o21, rfl, hW21, _, _, hF21, hK21⟩
                   rw [HWH.out.1, HWH.out.2] at hW21
                   have HW21 := Lib.hid hW21
                   have HR21 := Lib.hid (HR20.out.step hK21 hF21)
                   clear hW21 hF21 hK21)
                | (go_at_call 21; refine (cal_all w w21 bt bl21 _ (rr.map (·.l)) F21 HW21.out (by rw [List.length_map]; omega) (fun r hr => Nat.le_trans (HSM.out r (by rw [← HWH.out.2] at hr; exact List.mem_of_mem_take hr)) (by decide))).mono ?_; rintro r w22 ⟨v22, rfl, hv22, hB22⟩
                   obtain ⟨A22, c22, rfl⟩ := Kd.R_slice hv22
                   obtain ⟨g22, hm22, hq22, hi22⟩ := hds_of_rows (Kd.R_reads' hv22).2.2
                   have hl22 : (rr.map (·.l)).length = g22.length := by rw [← hm22, List.length_map]
                   rw [hl22] at hq22
                   rw [hl22]
                   have HQ22 := Lib.hid hq22
                   have HI22 := Lib.hid hi22
                   have HM22 := Lib.hid hm22
                   have HB22 := Lib.hid hB22
                   have HW22 := Lib.hid (HW21.out.to hB22)
                   have HR22 := Lib.hid (HR21.out.below hB22)
                   clear hv22 hm22 hq22 hi22 hB22 hl22)
                | (go_at_call 20; refine (same_any A22 A9 c22 c9 g22 (rr) w22 HQ22.out HR22.out.row HI22.out HR22.out.ins).mono ?_; rintro r w23 ⟨rfl, hB23⟩
                   rw [decide_eq_true HM22.out]
                   have HW23 := Lib.hid (HW22.out.to hB23)
                   have HR23 := Lib.hid (HR22.out.below hB23)
                   clear hB23)
                | (go_at_call 26; refine (cal_size w w23 bt bl21 _ (rr.map (·.l)) F21 HW23.out).mono ?_; rintro r w24 ⟨rfl, rfl⟩)
                | (have hzz := HBY.out
                   go_at_call 27; refine (size_any A9 c9 (rr) w25 HR25.out.row HNN.out).mono ?_; rintro r w26 ⟨rfl, rfl⟩
                   clear hzz)
                | (have hnn := small_le (rr) (rr.map (·.l) ++ aa.map (·.l)) HWH.out.2 HFL.out
                   have HNN := Lib.hid hnn
                   go_at_call 27; refine (size_any A9 c9 (rr) w23 HR23.out.row hnn).mono ?_; rintro r w24 ⟨rfl, rfl⟩
                   clear hnn)
                | (go_at_call 22; refine (wbytes_any w w23 bt bl21 _ _ F21 (framesOf (rr.map (·.l))) HW23.out rfl).mono ?_; rintro r w25 ⟨A25, c25, rfl, _, _, hB25, _⟩
                   have HW25 := Lib.hid (HW23.out.to hB25)
                   have HR25 := Lib.hid (HR23.out.below hB25)
                   have HBY := Lib.hid hB25
                   clear hB25))
              go_ret
              exact ⟨rfl, HW25.out.below⟩
            · go_wp2_with (at_builtin; refine print_append_row_of (w0 := wr) Hd.v hd0 wb rfl _ _ 22 32 (.slice none 0 0) 24 rfl Tryd.underlying22 infoR rfl (by decide) hd_one (.slice A9 rr.length c9) rr aa A6 aa.length c6 rfl rfl ?t1 ?t2 ?t3 ?t4 ?t5 ?t6)
              case t1 => exact HGO.out.1
              case t2 => exact HG6.out.row
              case t3 => exact Below.refl _ _
              case t4 => exact HWS.out
              case t5 => omega
              case t6 =>
                intro v18 w18 hown hB18 hg18 hat18
                obtain ⟨A18, c18, rfl⟩ := own_slice hown
                have hK18 : Keep (fun k => (Value.slice A9 rr.length c9).ownBlock = some k) wr w18 := Keep.of_grown hg18 (fun k hk => hk)
                have hw18 := HWG.out.keep hK18 (fun j hj e => HGO.out.2 j e hj) (fun j hj => by have := own_base HGO.out.1 j hj; have := HWB.out; omega)
                have hoff : ∀ k, (Value.slice A18 (rr.length + aa.length) c18).ownBlock = some k → ¬ G k := by
                  intro k hk hf
                  rcases hat18 with e | ⟨bb, e, hle⟩
                  · exact HGO.out.2 k (e ▸ hk) hf
                  · rw [e] at hk; injection hk with hk; have := (HWG.out.lt k hf).2; omega
                rw [← List.length_append] at hown hoff
                have HR18 := Lib.hid (RowOk.own hown (HdsIn.app JR.out JA.out) hw18.below (fun k hk => (HWG.out.lt k hk).1) hoff)
                have HW18 := Lib.hid hw18
                rw [← List.length_append]
                have hwl : (rr ++ aa).length ≤ 16 := by rw [List.length_append]; omega
                generalize hwq : rr ++ aa = wq at *
                have HWQ := Lib.hid hwq
                clear hwq
                clear hown hB18 hg18 hat18 hK18 hw18 hoff
                go_wp2_with (go_at_call 24; refine (cal_sync w w18 bt bl 1048576 p _ _ G HW18.out (by omega)).mono ?_; rintro r w19 ⟨rfl, F19, hW19, hF19, hK19⟩
                             have HW19 := Lib.hid hW19
                             have HR19 := Lib.hid (HR18.out.step hK19 hF19)
                             clear hW19 hF19 hK19)
                have hwh : wholeOf (rr.map (·.l) ++ aa.map (·.l)) ((framesOf (rr.map (·.l) ++ aa.map (·.l))).length) = (wq.map (·.l)).length ∧ (rr.map (·.l) ++ aa.map (·.l)).take (wq.map (·.l)).length = wq.map (·.l) := (by rw [← HWQ.out, List.map_append]; exact ⟨wholeOf_all _, List.take_length⟩)
                have HWH := Lib.hid hwh
                have HSM := Lib.hid (show ∀ r ∈ rr.map (·.l) ++ aa.map (·.l), r.length ≤ 65536 from (fun r hr => Nat.le_trans (small_rows SR.out SA.out r hr) (by decide)))
                have HFL := Lib.hid (show (framesOf (rr.map (·.l) ++ aa.map (·.l))).length ≤ 1000000 from (by have := HFR.out; rw [frames_app]; omega))
                have HCC := Lib.hid (show (framesOf (rr.map (·.l) ++ aa.map (·.l))).length ≤ (framesOf (rr.map (·.l) ++ aa.map (·.l))).length from (Nat.le_refl _))
                clear hwh
                go_wp2_with (first
                  | (go_at_call 19; refine (cal_crash 0 w w19 bt bl 1048576 (p + 1) (rr.map (·.l) ++ aa.map (·.l)) _ _ F19 HW19.out).mono ?_; rintro r w20 ⟨rfl, hle, F20, hW20, hF20, hK20⟩
                     rw [crashK_zero, Nat.add_zero] at hW20
                     rw [crashK_zero]
                     have HW20 := Lib.hid hW20
                     have HR20 := Lib.hid (HR19.out.step hK20 hF20)
                     clear hW20 hF20 hK20 hle)
                  | (go_at_call 15; refine (cal_reopen w w20 bt 1048576 (p + 1) (rr.map (·.l) ++ aa.map (·.l)) _ F20 HW20.out.tape (by omega) HSM.out HFL.out HCC.out).mono ?_; rintro r w21 ⟨bl21, F21, o21, rfl, hW21, _, _, hF21, hK21⟩
                     rw [HWH.out.1, HWH.out.2] at hW21
                     have HW21 := Lib.hid hW21
                     have HR21 := Lib.hid (HR20.out.step hK21 hF21)
                     clear hW21 hF21 hK21)
                  | (go_at_call 21; refine (cal_all w w21 bt bl21 _ (wq.map (·.l)) F21 HW21.out (by rw [List.length_map]; omega) (fun r hr => Nat.le_trans (HSM.out r (by rw [← HWH.out.2] at hr; exact List.mem_of_mem_take hr)) (by decide))).mono ?_; rintro r w22 ⟨v22, rfl, hv22, hB22⟩
                     obtain ⟨A22, c22, rfl⟩ := Kd.R_slice hv22
                     obtain ⟨g22, hm22, hq22, hi22⟩ := hds_of_rows (Kd.R_reads' hv22).2.2
                     have hl22 : (wq.map (·.l)).length = g22.length := by rw [← hm22, List.length_map]
                     rw [hl22] at hq22
                     rw [hl22]
                     have HQ22 := Lib.hid hq22
                     have HI22 := Lib.hid hi22
                     have HM22 := Lib.hid hm22
                     have HB22 := Lib.hid hB22
                     have HW22 := Lib.hid (HW21.out.to hB22)
                     have HR22 := Lib.hid (HR21.out.below hB22)
                     clear hv22 hm22 hq22 hi22 hB22 hl22)
                  | (go_at_call 20; refine (same_any A22 A18 c22 c18 g22 (wq) w22 HQ22.out HR22.out.row HI22.out HR22.out.ins).mono ?_; rintro r w23 ⟨rfl, hB23⟩
                     rw [decide_eq_true HM22.out]
                     have HW23 := Lib.hid (HW22.out.to hB23)
                     have HR23 := Lib.hid (HR22.out.below hB23)
                     clear hB23)
                  | (go_at_call 26; refine (cal_size w w23 bt bl21 _ (wq.map (·.l)) F21 HW23.out).mono ?_; rintro r w24 ⟨rfl, rfl⟩)
                  | (have hzz := HBY.out
                     go_at_call 27; refine (size_any A18 c18 (wq) w25 HR25.out.row HNN.out).mono ?_; rintro r w26 ⟨rfl, rfl⟩
                     clear hzz)
                  | (have hnn := small_le (wq) (rr.map (·.l) ++ aa.map (·.l)) HWH.out.2 HFL.out
                     have HNN := Lib.hid hnn
                     go_at_call 27; refine (size_any A18 c18 (wq) w23 HR23.out.row hnn).mono ?_; rintro r w24 ⟨rfl, rfl⟩
                     clear hnn)
                  | (go_at_call 22; refine (wbytes_any w w23 bt bl21 _ _ F21 (framesOf (wq.map (·.l))) HW23.out rfl).mono ?_; rintro r w25 ⟨A25, c25, rfl, _, _, hB25, _⟩
                     have HW25 := Lib.hid (HW23.out.to hB25)
                     have HR25 := Lib.hid (HR23.out.below hB25)
                     have HBY := Lib.hid hB25
                     clear hB25))
                go_ret
                exact ⟨rfl, HW25.out.below⟩
end Go.Proofs.YtfnnjgbldojigaaDoor
