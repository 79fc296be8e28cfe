/- WalTails. -/
import Derived.Test.YtfnnjgbldojigaaDoorGrdW
set_option linter.unusedVariables false
set_option linter.unusedSimpArgs false
namespace Go.Proofs.YtfnnjgbldojigaaDoor
open Go.RowKit Go.Proofs.YtfnnjgbldojigaaDoorW.PrintWords Go.Proofs.Mine Go.Proofs.Mine.Crc

theorem wholeOf_tail (R : List (List UInt8)) (x : List UInt8) (k : Nat) (hk : k ≤ x.length + 8) : wholeOf (R ++ [x]) ((framesOf R).length + k) = if k = x.length + 8 then R.length + 1 else R.length := by
  induction R with
  | nil =>
    simp only [framesOf, List.flatMap_nil, List.length_nil, List.nil_append, Nat.zero_add]
    unfold wholeOf
    by_cases h : k = x.length + 8
    · rw [if_pos h, if_pos (by omega)]; simp [wholeOf]
    · rw [if_neg h, if_neg (by omega)]
  | cons r R ih =>
    have e : framesOf (r :: R) = frameOf r ++ framesOf R := by simp [framesOf]
    rw [e, List.length_append, frameOf_length, List.cons_append]
    unfold wholeOf
    rw [if_pos (by omega), show r.length + 8 + (framesOf R).length + k - (r.length + 8) = (framesOf R).length + k from by omega, ih, List.length_cons]
    split <;> omega
set_option maxRecDepth 100000 in
set_option maxHeartbeats 2000000 in
theorem tails_any (A0 : Option Addr) (c0 : Nat) (x0 : List (List UInt8)) (keep : Int) (A2 : Option Addr) (c2 : Nat) (l2 : List UInt8) (w : World) (hg0 : Laid w) (hr0 : rowsK.C w A0 x0.length x0) (_ : x0.length ≤ c0) (_ : (Lit.int .i64 keep).wf = true) (hr2 : Bytes w A2 l2) (hc2 : l2.length ≤ c2) (_ : l2.length * 1 ≤ 140737488351232) :
    Calls Tryd.prog 5 #[.slice A0 x0.length c0, .int .i64 keep, .slice A2 l2.length c2] w fun e w' => e = .returned (.bool true) ∧ Below w.heap.size w w' := by
  have HG := Lib.hid hg0
  obtain ⟨h0, hm0, hq0, hi0⟩ := hds_of_rows hr0
  have e0 : x0.length = h0.length := by rw [← hm0]; simp
  rw [e0] at hq0
  rw [e0]
  have Q0 := Lib.hid hq0
  have I0 := Lib.hid hi0
  have Q2 := Lib.hid hr2
  have kc := fun (w : World) (C : Array Value) (n c : Nat) => Lib.run_convert_bytes_const (P := Tryd.prog) w 32 5 C n c Tryd.underlying32 Tryd.underlying5
  clear hg0 hr0 hm0 hq0 hi0 e0 hr2
  by_cases hl2 : 300 < l2.length
  · have hl3 : (300 : Int) < (l2.length : Int) := by omega
    go_enter Tryd.func5, Tryd.ntmps5
    go_wp2_with (first
      | (go_at_call 13; refine (known4_any w HG.out).mono ?_; rintro r w1 ⟨rfl, hB⟩; have HB1 := Lib.hid hB; clear hB)
      | (go_at_call 16; refine (small_any A0 c0 h0 w1 (Q0.out.below HB1.out)).mono ?_
         rintro r w2 ⟨v4, rfl, hv4, hB4⟩
         obtain ⟨A4, c4, rfl⟩ := own_slice hv4
         have HB2 := Lib.hid (HB1.out.trans (hB4.mono HB1.out.size))
         clear hv4 hB4))
    go_ret
    exact ⟨rfl, HB2.out⟩
  have hl3 : ¬ ((300 : Int) < (l2.length : Int)) := by omega
  go_enter Tryd.func5, Tryd.ntmps5
  go_wp2_with (first
    | (go_at_call 13; refine (known4_any w HG.out).mono ?_; rintro r w1 ⟨rfl, hB⟩; have HB1 := Lib.hid hB; clear hB)
    | (go_at_call 16; refine (small_any A0 c0 h0 w1 (Q0.out.below HB1.out)).mono ?_
       rintro r w2 ⟨v4, rfl, hv4, hB4⟩
       obtain ⟨A4, c4, rfl⟩ := own_slice hv4
       have HV4 := Lib.hid hv4
       have HB2 := Lib.hid (HB1.out.trans (hB4.mono HB1.out.size))
       have HS1 := Lib.hid HB1.out.size
       clear hv4 hB4)
    | (go_at_call 14; refine (new_ok 1048576 w2 (by decide) (by decide)).mono ?_; rintro r w3 ⟨rfl, hw3⟩
       have HI := Lib.hid (wal_start HG.out HB2.out 1048576 (by decide) (by decide) hw3)
       have hB3 : Below w2.heap.size w2 w3 := by rw [hw3]; exact (Below.refl _ _).alloc (Nat.le_refl _) _
       have HV4b := Lib.hid (pw_own_below HV4.out hB3)
       have HOF := Lib.hid (fun k (hk : (Value.slice A4 (smallH h0).length c4).ownBlock = some k) => (show ¬ k = w2.heap.size from fun e => by have := own_lt HV4.out k hk; omega))
       clear hw3 hB3
       generalize w2.heap.size = bt at *)
    | (go_at_call 15; refine (cal_open w w3 bt 1048576 0 [] 0 _ HI.out (by decide) (by simp) (by simp [framesOf])).mono ?_
       rintro r w4 ⟨bl, F4, o3, rfl, hW4, ho3, ho3', hF4, hK4⟩
       have hov : OwnOk w3 (fun k => k = bt) w1.heap.size _ (smallH h0) := ⟨HV4b.out, HOF.out⟩
       have hov4 := hov.step hK4 hF4
       have HR4 := Lib.hid (RowOk.own hov4.1 (HdsIn.sub I0.out (fun y hy => (smallH_mem hy).1)) hW4.below (fun k hk => (hW4.lt k hk).1) hov4.2)
       have HW4 := Lib.hid hW4
       clear hW4 hF4 hK4 hov hov4))
  have JB := Lib.hid (HdsIn.sub I0.out (fun y (hy : y ∈ smallH h0) => (smallH_mem hy).1))
  have hb8 := smallH_len h0
  have SB := Lib.hid (fun y (hy : y ∈ smallH h0) => (smallH_mem hy).2)
  clear HV4 HV4b HOF HI
  generalize smallH h0 = b at *
  go_loopw [11] (fun iv wr => ∃ (k : Nat) (o : Int) (F : Nat → Prop), k ≤ b.length ∧ iv = .int .i64 (k : Int) ∧ 0 ≤ o ∧ o ≤ (k : Int) + 1 ∧ RowKit.Hid (WalIn w bt bl (gs 1048576 ([] ++ (b.take k).map (·.l)) 0 o) (gl ([] ++ (b.take k).map (·.l))) wr F) ∧ RowKit.Hid (RowOk wr F A4 b)) (fun iv _ => b.length - (intOf iv).toNat)
  case atStart => exact ⟨0, o3, F4, by omega, rfl, ho3, by omega, HW4, HR4⟩
  case round =>
    obtain ⟨k, o, F, hk, rfl, ho0, ho1, HW, HR4⟩ := hrel
    by_cases hlt : k < b.length
    · have hlt2 : (k : Int) < (b.length : Int) := by omega
      have hk0 : (0 : Int) ≤ (k : Int) := by omega
      obtain ⟨y, hy⟩ : ∃ y, b[k]? = some y := ⟨_, List.getElem?_eq_getElem hlt⟩
      obtain ⟨ad, rfl, hc⟩ := hd_at HR4.out.row hy
      have HC := Lib.hid (cal_append_pre w wr bt bl o [] 0 F (some ad) b k y HW.out (by omega) HR4.out hy SB.out hb8 (by simp [framesOf]) (by simp))
      clear hy
      go_wp2_with (go_at_call 18; refine HC.out.mono ?_; rintro r w7 ⟨rfl, F7, hW7, hF7, hK7⟩
                   have HW7 := Lib.hid hW7
                   have HR47 := Lib.hid (HR4.out.step hK7 hF7)
                   clear hW7 hF7 hK7)
      exact ⟨⟨k + 1, o + 1, F7, by omega, by simp, by omega, by push_cast; omega, HW7, HR47⟩, by simp [intOf]; omega⟩
    · obtain rfl : k = b.length := by omega
      rw [List.take_length, List.nil_append] at HW
      have hfr := small_room (b.map (·.l)) 300 (fun r hr => by obtain ⟨z, hz, rfl⟩ := List.mem_map.1 hr; exact SB.out z hz)
      rw [List.length_map] at hfr
      have HFR := Lib.hid hfr
      have hsb : ∀ r ∈ b.map (·.l) ++ [l2], r.length ≤ 300 := fun r hr => by
        rcases List.mem_append.1 hr with hr | hr
        · obtain ⟨z, hz, rfl⟩ := List.mem_map.1 hr; exact SB.out z hz
        · rw [List.mem_singleton.1 hr]; omega
      have HSB := Lib.hid hsb
      clear hfr hsb
      go_wp2_with (first
        | (go_at_call 24; refine (cal_sync w wr bt bl 1048576 o _ 0 F HW.out (by omega)).mono ?_; rintro r w8 ⟨rfl, F8, hW8, hF8, hK8⟩
           have HW8 := Lib.hid hW8
           have HR8 := Lib.hid (HR4.out.step hK8 hF8)
           have HX8 := Lib.hid (show Bytes w8 A2 l2 from Q2.out.below hW8.below)
           clear hW8 hF8 hK8)
        | (go_at_call 18; refine (cal_append A2 c2 l2 w w8 bt bl 1048576 (o + 1) (b.map (·.l)) _ F8 HW8.out (by omega) HX8.out (by omega) (fun hp a ha hf => by have := reads_lt Q2.out hp a ha; have := (HW8.out.lt _ hf).1; omega) (by rw [List.length_map]; omega) (by have := HFR.out; omega)).mono ?_; rintro r w9 ⟨rfl, F9, hW9, hF9, hK9⟩
           have HW9 := Lib.hid hW9
           have HR9 := Lib.hid (HR8.out.step hK9 hF9)
           clear hW9 hF9 hK9)
        | (go_at_call 19; refine (cal_crash keep w w9 bt bl 1048576 (o + 1 + 1) (b.map (·.l) ++ [l2]) _ _ F9 HW9.out).mono ?_; rintro r w20 ⟨rfl, hle, F20, hW20, hF20, hK20⟩
           have HW20 := Lib.hid hW20
           have HR20 := Lib.hid (HR9.out.step hK20 hF20)
           have HLE := Lib.hid hle
           clear hW20 hF20 hK20 hle))
      have hfs : (framesOf (b.map (·.l) ++ [l2])).length = (framesOf (b.map (·.l))).length + (l2.length + 8) := frames_len_snoc _ _
      rw [hfs] at HLE
      have HFS := Lib.hid hfs
      clear hfs
      generalize crashK (gs 1048576 (b.map (·.l) ++ [l2]) (framesOf (b.map (·.l))).length (o + 1 + 1)) keep = kk at *
      have hkle : kk ≤ l2.length + 8 := by have := HLE.out; omega
      have hwt := wholeOf_tail (b.map (·.l)) l2 kk hkle
      have hlb : (b.map (·.l)).length = b.length := List.length_map _
      by_cases hk8 : kk = l2.length + 8
      · rw [if_pos hk8] at hwt
        have HWT := Lib.hid hwt
        have hkI : ((kk : Int) == (l2.length : Int) + 8) = true := beq_iff_eq.mpr (by omega)
        clear hwt hlb
        have HK8 := Lib.hid hk8
        clear hk8
        go_wp2_with (first
          | (go_at_call 15; refine (cal_reopen w w20 bt 1048576 (o + 1 + 1) (b.map (·.l) ++ [l2]) _ F20 HW20.out.tape (by omega) (fun r hr => Nat.le_trans (HSB.out r hr) (by decide)) (by have := HFR.out; have := HFS.out; omega) (by have := HLE.out; have := HFS.out; omega)).mono ?_; rintro r w21 ⟨bl21, F21, o21, rfl, hW21, ho21, ho21', hF21, hK21⟩
             rw [HWT.out, List.take_of_length_le (by rw [List.length_append]; exact Nat.le_refl _)] at hW21
             have HW21 := Lib.hid hW21
             have HR21 := Lib.hid (HR20.out.step hK21 hF21)
             clear hW21 hF21 hK21)
          | (at_builtin; refine print_append_row_of (w0 := w21) Hd.v hd0 w21.heap.size rfl _ _ 22 32 (.slice none 0 0) 24 rfl Tryd.underlying22 infoR rfl (by decide) hd_one (.slice (some ⟨w21.heap.size, 0, none⟩) 0 0) [] b A4 b.length c4 rfl rfl ?d1 ?d2 ?d3 ?d4 ?d5 ?d6))
        case d1 => exact own_lit_of (enc := Hd.v) w21 w21.heap.size 32 [] (Nat.le_refl _) (by decide)
        case d2 => exact HR21.out.row.below ((Below.refl _ _).alloc (Nat.le_refl _) _)
        case d3 => exact (Below.refl _ _).alloc (Nat.le_refl _) _
        case d4 => simp
        case d5 => simp; omega
        case d6 =>
          intro v22 w22 hown hB22 _ _
          have hown' : HOwn w22 w21.heap.size v22 b := hown
          obtain ⟨A22, c22, rfl⟩ := own_slice hown'
          have HO22 := Lib.hid hown'
          have HS22 := Lib.hid hB22.size
          have HW22 := Lib.hid (HW21.out.to hB22)
          have HL21 := Lib.hid (fun j => (HW21.out.lt j))
          have HB21 := Lib.hid (show w.heap.size ≤ w21.heap.size from HW21.out.below.size)
          generalize w21.heap.size = wb2 at *
          clear hown hown' hB22
          go_wp2_with (at_builtin; refine print_append_of (w0 := w22) (W := w22) Hd.v wb2 rfl _ _ 22 32 (.slice none 0 0) 24 rfl Tryd.underlying22 infoR rfl (by decide) (.slice A22 b.length c22) b ⟨A2, c2, l2⟩ rfl rfl (hd_one _) HO22.out (Below.refl _ _) HS22.out (by omega) ?g6)
          case g6 =>
            intro v23 w23 hown hB23 hg23 hat23
            have hown' : HOwn w23 wb2 v23 (b ++ [(⟨A2, c2, l2⟩ : Hd)]) := by show w23.ownsRow _ _ 1 _ (b ++ [(⟨A2, c2, l2⟩ : Hd)]).length _; rw [List.length_append]; exact hown
            obtain ⟨A23, c23, rfl⟩ := own_slice hown'
            have hK23 : Keep (fun k => (Value.slice A22 b.length c22).ownBlock = some k) w22 w23 := Keep.of_grown hg23 (fun k hk => hk)
            have hoff0 : ∀ k, (Value.slice A22 b.length c22).ownBlock = some k → ¬ F21 k := fun k hk hf => by have := own_base HO22.out k hk; have := (HL21.out k hf).2; omega
            have hw23 := HW22.out.keep hK23 (fun j hj e => hoff0 j e hj) (fun j hj => by have := own_base HO22.out j hj; have := HW22.out.below.size; have := HB21.out; omega)
            have hoff1 : ∀ k, (Value.slice A23 (b ++ [(⟨A2, c2, l2⟩ : Hd)]).length c23).ownBlock = some k → ¬ F21 k := fun k hk hf => by
              rcases hat23 with e | ⟨bb, e, hle⟩
              · exact hoff0 k (e ▸ hk) hf
              · rw [e] at hk; injection hk with hk; have := (HW22.out.lt k hf).2; omega
            obtain ⟨wq, hwq⟩ : ∃ wq : List Hd, wq = b ++ [⟨A2, c2, l2⟩] := ⟨_, rfl⟩
            have hmq : b.map (·.l) ++ [l2] = wq.map (·.l) := by rw [hwq]; simp
            have hjw : HdsIn w wq := by rw [hwq]; exact HdsIn.app JB.out (HdsIn.one Q2.out hc2)
            have hql : wq.length ≤ 9 := by rw [hwq, List.length_append]; simp only [List.length_cons, List.length_nil]; omega
            rw [← hwq] at hown' hoff1
            rw [← hwq]
            rw [hmq] at hw23
            have JW := Lib.hid hjw
            have HR23 := Lib.hid (RowOk.own hown' hjw hw23.below (fun k hk => (hw23.lt k hk).1) hoff1)
            have HW23 := Lib.hid hw23
            have HFW := Lib.hid (show (framesOf (wq.map (·.l))).length ≤ 10000 from by rw [← hmq]; have := HFS.out; have := HFR.out; omega)
            have HSW := Lib.hid (show ∀ r ∈ wq.map (·.l) ++ [[111, 110]], r.length ≤ 1000000 from fun r hr => by
              rcases List.mem_append.1 hr with hr | hr
              · rw [← hmq] at hr; exact Nat.le_trans (HSB.out r hr) (by decide)
              · rw [List.mem_singleton.1 hr]; decide)
            clear hown hown' hB23 hg23 hat23 hK23 hoff0 hw23 hoff1 hwq hmq hjw
            go_wp2_with (first
              | (go_at_call 18; refine (cal_append _ _ [111, 110] w _ bt bl21 1048576 o21 (wq.map (·.l)) _ F21 (HW23.out.to ((Below.refl _ _).alloc (Nat.le_refl _) _)) (by omega) (lit_reads8' w23 5 (2, 3) [111, 110] _ 2 rfl rfl (by decide)) (by decide) (fresh_out HW23.out) (by rw [List.length_map]; omega) (by have := HFW.out; simp only [List.length_cons, List.length_nil]; omega)).mono ?_
                 rintro r w31 ⟨rfl, F31, hW31, hF31, hK31⟩
                 have HW31 := Lib.hid hW31
                 have HR31 := Lib.hid ((HR23.out.below ((Below.refl _ _).alloc (Nat.le_refl _) _)).step hK31 hF31)
                 clear hW31 hF31 hK31)
              | (go_at_call 21; refine (cal_all w w31 bt bl21 _ (wq.map (·.l) ++ [[111, 110]]) F31 HW31.out (by rw [List.length_append, List.length_map]; simp only [List.length_cons, List.length_nil]; omega) HSW.out).mono ?_; rintro r w32 ⟨v32, rfl, hv32, hB32⟩
                 obtain ⟨A32, c32, rfl⟩ := Kd.R_slice hv32
                 obtain ⟨g32, hm32, hq32, hi32⟩ := hds_of_rows (Kd.R_reads' hv32).2.2
                 have hl32 := congrArg List.length hm32
                 rw [List.length_map] at hl32
                 rw [← hl32] at hq32
                 rw [← hl32]
                 have HQ32 := Lib.hid hq32
                 have HI32 := Lib.hid hi32
                 have HM32 := Lib.hid hm32
                 have HW32 := Lib.hid (HW31.out.to hB32)
                 have HR32 := Lib.hid (HR31.out.below hB32)
                 clear hv32 hm32 hq32 hi32 hB32 hl32)
              | (at_builtin; refine unguard (by rfl) ?_; refine print_append_row_of (w0 := w32) Hd.v hd0 w32.heap.size rfl _ _ 22 32 (.slice none 0 0) 24 rfl Tryd.underlying22 infoR rfl (by decide) hd_one (.slice (some ⟨w32.heap.size, 0, none⟩) 0 0) [] wq A23 wq.length c23 rfl rfl ?e1 ?e2 ?e3 ?e4 ?e5 ?e6))
            case e1 => exact own_lit_of (enc := Hd.v) w32 w32.heap.size 32 [] (Nat.le_refl _) (by decide)
            case e2 => exact HR32.out.row.below ((Below.refl _ _).alloc (Nat.le_refl _) _)
            case e3 => exact (Below.refl _ _).alloc (Nat.le_refl _) _
            case e4 => simp
            case e5 => simp; omega
            case e6 =>
              intro v33 w33 hown hB33 _ _
              have hown' : HOwn w33 w32.heap.size v33 wq := hown
              obtain ⟨A33, c33, rfl⟩ := own_slice hown'
              have HO33 := Lib.hid hown'
              have HS33 := Lib.hid hB33.size
              have HR33 := Lib.hid (HR32.out.below hB33)
              have HW33 := Lib.hid (HW32.out.to hB33)
              have HQ33 := Lib.hid (HQ32.out.below hB33)
              have HI33 := Lib.hid (HI32.out.below hB33)
              have HB33 := Lib.hid hB33
              generalize hwbe : w32.heap.size = wb at *
              have HWBE := Lib.hid hwbe
              clear hown hown' hB33 hwbe
              go_wp2_with (at_builtin; refine unguard (by rfl) ?_; refine print_append_of (w0 := w33) (W := w33.alloc (.cells #[.int .u8 111, .int .u8 110] 5 (2, 3))) Hd.v wb rfl _ _ 22 32 (.slice none 0 0) 24 rfl Tryd.underlying22 infoR rfl (by decide) (.slice A33 wq.length c33) wq ⟨some ⟨w33.heap.size, 0, none⟩, 2, [111, 110]⟩ rfl ?f1 (hd_one _) ?f2 ?f3 ?f4 ?f5 ?f6)
              case f1 => rw [show (w33.alloc (.cells #[.int .u8 111, .int .u8 110] 5 (2, 3))).heap.size = w33.heap.size + 1 from by simp]; rfl
              case f2 => exact pw_own_below HO33.out ((Below.refl _ _).alloc (Nat.le_refl _) _)
              case f3 => exact (Below.refl _ _).alloc HS33.out _
              case f4 => have := HS33.out; simp; omega
              case f5 => omega
              case f6 =>
                intro v34 w34 hown34 hB34 hg34 hat34
                have hown5 : HOwn w34 wb v34 (wq ++ [(⟨some ⟨w33.heap.size, 0, none⟩, 2, [111, 110]⟩ : Hd)]) := by show w34.ownsRow _ _ 1 _ (wq ++ [(⟨some ⟨w33.heap.size, 0, none⟩, 2, [111, 110]⟩ : Hd)]).length _; rw [List.length_append]; exact hown34
                obtain ⟨A34, c34, rfl⟩ := own_slice hown5
                have hB : Below w32.heap.size w32 w34 := by rw [HWBE.out]; exact HB33.out.trans hB34
                have HW34 := Lib.hid (HW32.out.to hB)
                have HQ34 := Lib.hid (HQ32.out.below hB)
                have HI34 := Lib.hid (HI32.out.below hB)
                have hlt : ReadsOf b8 0 w34 (some ⟨w33.heap.size, 0, none⟩) 2 [111, 110] := reads_away_of (lit_reads8' w33 5 (2, 3) [111, 110] _ 2 rfl rfl (by decide)) (Keep.of_grown hg34 (fun j hj => hj)) (fun _ a ha hf => by
                  injection ha with ha
                  subst ha
                  have := own_lt HO33.out _ hf
                  simp at this)
                obtain ⟨wz, hwz⟩ : ∃ wz : List Hd, wz = wq ++ [⟨some ⟨w33.heap.size, 0, none⟩, 2, [111, 110]⟩] := ⟨_, rfl⟩
                rw [← hwz] at hown5
                rw [← hwz]
                obtain ⟨Az, cz, hez, hrz⟩ := own_reads_of (d := hd0) hown5
                obtain ⟨rfl, rfl⟩ : A34 = Az ∧ c34 = cz := by injection hez with e1 e2 e3; exact ⟨e1, e3⟩
                have hir : HdsIn w34 wz := by rw [hwz]; exact HdsIn.app (JW.out.below HW34.out.below) (HdsIn.one hlt (show (2 : Nat) ≤ 2 from Nat.le_refl _))
                have hmz : g32.map (·.l) = wz.map (·.l) := by rw [HM32.out, hwz, List.map_append]; rfl
                have HRZ := Lib.hid hrz
                have HIR := Lib.hid hir
                have HMZ := Lib.hid hmz
                clear hown34 hB34 hg34 hat34 hown5 hB hlt hwz hez hrz hir hmz
                go_wp2_with (go_at_call 20; refine (same_any A32 A34 c32 c34 g32 wz w34 HQ34.out HRZ.out HI34.out HIR.out).mono ?_; rintro r w35 ⟨rfl, hB35⟩; rw [decide_eq_true HMZ.out]; have HB35 := Lib.hid hB35; clear hB35)
                go_ret
                exact ⟨rfl, (HW34.out.to HB35.out).below⟩
      · rw [if_neg hk8] at hwt
        have HWT := Lib.hid (And.intro hwt (List.take_left (l₁ := b.map (·.l)) (l₂ := [l2])))
        have hkI : ((kk : Int) == (l2.length : Int) + 8) = false := beq_eq_false_iff_ne.mpr (by omega)
        clear hwt hlb hk8
        have JW := JB
        have HFW := Lib.hid (show (framesOf (b.map (·.l))).length ≤ 10000 from by have := HFR.out; omega)
        have HSW := Lib.hid (show ∀ r ∈ b.map (·.l) ++ [[111, 110]], r.length ≤ 1000000 from fun r hr => by
          rcases List.mem_append.1 hr with hr | hr
          · exact Nat.le_trans (HSB.out r (List.mem_append_left _ hr)) (by decide)
          · rw [List.mem_singleton.1 hr]; decide)
        go_wp2_with (go_at_call 15; refine (cal_reopen w w20 bt 1048576 (o + 1 + 1) (b.map (·.l) ++ [l2]) _ F20 HW20.out.tape (by omega) (fun r hr => Nat.le_trans (HSB.out r hr) (by decide)) (by have := HFR.out; have := HFS.out; omega) (by have := HLE.out; have := HFS.out; omega)).mono ?_; rintro r w21 ⟨bl21, F21, o21, rfl, hW21, ho21, ho21', hF21, hK21⟩
                     rw [HWT.out.1, HWT.out.2] at hW21
                     have HW21 := Lib.hid hW21
                     have HR21 := Lib.hid (HR20.out.step hK21 hF21)
                     clear hW21 hF21 hK21)
        go_wp2_with (first
          | (go_at_call 18; refine (cal_append _ _ [111, 110] w _ bt bl21 1048576 o21 (b.map (·.l)) _ F21 (HW21.out.to ((Below.refl _ _).alloc (Nat.le_refl _) _)) (by omega) (lit_reads8' w21 5 (2, 3) [111, 110] _ 2 rfl rfl (by decide)) (by decide) (fresh_out HW21.out) (by rw [List.length_map]; omega) (by have := HFW.out; simp only [List.length_cons, List.length_nil]; omega)).mono ?_
             rintro r w31 ⟨rfl, F31, hW31, hF31, hK31⟩
             have HW31 := Lib.hid hW31
             have HR31 := Lib.hid ((HR21.out.below ((Below.refl _ _).alloc (Nat.le_refl _) _)).step hK31 hF31)
             clear hW31 hF31 hK31)
          | (go_at_call 21; refine (cal_all w w31 bt bl21 _ (b.map (·.l) ++ [[111, 110]]) F31 HW31.out (by rw [List.length_append, List.length_map]; simp only [List.length_cons, List.length_nil]; omega) HSW.out).mono ?_; rintro r w32 ⟨v32, rfl, hv32, hB32⟩
             obtain ⟨A32, c32, rfl⟩ := Kd.R_slice hv32
             obtain ⟨g32, hm32, hq32, hi32⟩ := hds_of_rows (Kd.R_reads' hv32).2.2
             have hl32 := congrArg List.length hm32
             rw [List.length_map] at hl32
             rw [← hl32] at hq32
             rw [← hl32]
             have HQ32 := Lib.hid hq32
             have HI32 := Lib.hid hi32
             have HM32 := Lib.hid hm32
             have HW32 := Lib.hid (HW31.out.to hB32)
             have HR32 := Lib.hid (HR31.out.below hB32)
             clear hv32 hm32 hq32 hi32 hB32 hl32)
          | (at_builtin; refine unguard (by rfl) ?_; refine print_append_row_of (w0 := w32) Hd.v hd0 w32.heap.size rfl _ _ 22 32 (.slice none 0 0) 24 rfl Tryd.underlying22 infoR rfl (by decide) hd_one (.slice (some ⟨w32.heap.size, 0, none⟩) 0 0) [] b A4 b.length c4 rfl rfl ?e1 ?e2 ?e3 ?e4 ?e5 ?e6))
        case e1 => exact own_lit_of (enc := Hd.v) w32 w32.heap.size 32 [] (Nat.le_refl _) (by decide)
        case e2 => exact HR32.out.row.below ((Below.refl _ _).alloc (Nat.le_refl _) _)
        case e3 => exact (Below.refl _ _).alloc (Nat.le_refl _) _
        case e4 => simp
        case e5 => simp; omega
        case e6 =>
          intro v33 w33 hown hB33 _ _
          have hown' : HOwn w33 w32.heap.size v33 b := hown
          obtain ⟨A33, c33, rfl⟩ := own_slice hown'
          have HO33 := Lib.hid hown'
          have HS33 := Lib.hid hB33.size
          have HR33 := Lib.hid (HR32.out.below hB33)
          have HW33 := Lib.hid (HW32.out.to hB33)
          have HQ33 := Lib.hid (HQ32.out.below hB33)
          have HI33 := Lib.hid (HI32.out.below hB33)
          have HB33 := Lib.hid hB33
          generalize hwbe : w32.heap.size = wb at *
          have HWBE := Lib.hid hwbe
          clear hown hown' hB33 hwbe
          go_wp2_with (at_builtin; refine unguard (by rfl) ?_; refine print_append_of (w0 := w33) (W := w33.alloc (.cells #[.int .u8 111, .int .u8 110] 5 (2, 3))) Hd.v wb rfl _ _ 22 32 (.slice none 0 0) 24 rfl Tryd.underlying22 infoR rfl (by decide) (.slice A33 b.length c33) b ⟨some ⟨w33.heap.size, 0, none⟩, 2, [111, 110]⟩ rfl ?f1 (hd_one _) ?f2 ?f3 ?f4 ?f5 ?f6)
          case f1 => rw [show (w33.alloc (.cells #[.int .u8 111, .int .u8 110] 5 (2, 3))).heap.size = w33.heap.size + 1 from by simp]; rfl
          case f2 => exact pw_own_below HO33.out ((Below.refl _ _).alloc (Nat.le_refl _) _)
          case f3 => exact (Below.refl _ _).alloc HS33.out _
          case f4 => have := HS33.out; simp; omega
          case f5 => omega
          case f6 =>
            intro v34 w34 hown34 hB34 hg34 hat34
            have hown5 : HOwn w34 wb v34 (b ++ [(⟨some ⟨w33.heap.size, 0, none⟩, 2, [111, 110]⟩ : Hd)]) := by show w34.ownsRow _ _ 1 _ (b ++ [(⟨some ⟨w33.heap.size, 0, none⟩, 2, [111, 110]⟩ : Hd)]).length _; rw [List.length_append]; exact hown34
            obtain ⟨A34, c34, rfl⟩ := own_slice hown5
            have hB : Below w32.heap.size w32 w34 := by rw [HWBE.out]; exact HB33.out.trans hB34
            have HW34 := Lib.hid (HW32.out.to hB)
            have HQ34 := Lib.hid (HQ32.out.below hB)
            have HI34 := Lib.hid (HI32.out.below hB)
            have hlt : ReadsOf b8 0 w34 (some ⟨w33.heap.size, 0, none⟩) 2 [111, 110] := reads_away_of (lit_reads8' w33 5 (2, 3) [111, 110] _ 2 rfl rfl (by decide)) (Keep.of_grown hg34 (fun j hj => hj)) (fun _ a ha hf => by
              injection ha with ha
              subst ha
              have := own_lt HO33.out _ hf
              simp at this)
            obtain ⟨wz, hwz⟩ : ∃ wz : List Hd, wz = b ++ [⟨some ⟨w33.heap.size, 0, none⟩, 2, [111, 110]⟩] := ⟨_, rfl⟩
            rw [← hwz] at hown5
            rw [← hwz]
            obtain ⟨Az, cz, hez, hrz⟩ := own_reads_of (d := hd0) hown5
            obtain ⟨rfl, rfl⟩ : A34 = Az ∧ c34 = cz := by injection hez with e1 e2 e3; exact ⟨e1, e3⟩
            have hir : HdsIn w34 wz := by rw [hwz]; exact HdsIn.app (JW.out.below HW34.out.below) (HdsIn.one hlt (show (2 : Nat) ≤ 2 from Nat.le_refl _))
            have hmz : g32.map (·.l) = wz.map (·.l) := by rw [HM32.out, hwz, List.map_append]; rfl
            have HRZ := Lib.hid hrz
            have HIR := Lib.hid hir
            have HMZ := Lib.hid hmz
            clear hown34 hB34 hg34 hat34 hown5 hB hlt hwz hez hrz hir hmz
            go_wp2_with (go_at_call 20; refine (same_any A32 A34 c32 c34 g32 wz w34 HQ34.out HRZ.out HI34.out HIR.out).mono ?_; rintro r w35 ⟨rfl, hB35⟩; rw [decide_eq_true HMZ.out]; have HB35 := Lib.hid hB35; clear hB35)
            go_ret
            exact ⟨rfl, (HW34.out.to HB35.out).below⟩
end Go.Proofs.YtfnnjgbldojigaaDoor
