/- WalEcho. -/
import Derived.Test.YtfnnjgbldojigaaDoorEchoV
set_option linter.unusedVariables false
set_option linter.unusedSimpArgs false
namespace Go.Proofs.YtfnnjgbldojigaaDoor
open Go.RowKit Go.Proofs.YtfnnjgbldojigaaDoorW.PrintWords Go.Proofs.Mine Go.Proofs.Mine.Crc

set_option maxRecDepth 100000 in
set_option maxHeartbeats 2000000 in
theorem echo_any (A0 : Option Addr) (c0 : Nat) (x0 : List (List UInt8)) (keep : Int) (w : World) (hg0 : Laid w) (hr0 : rowsK.C w A0 x0.length x0) (_ : x0.length ≤ c0) :
    Calls Tryd.prog 3 #[.slice A0 x0.length c0, .int .i64 keep] w fun e w' => e = .returned (.bool true) ∧ Below w.heap.size w w' := by
  have HG := Lib.hid hg0
  obtain ⟨h0, hm0, hq0, hi0⟩ := hds_of_rows hr0
  have e0 : x0.length = h0.length := by rw [← hm0]; simp
  rw [e0] at hq0
  rw [e0]
  have Q0 := Lib.hid hq0
  have I0 := Lib.hid hi0
  clear hg0 hr0 hm0 hq0 hi0 e0
  have kc := fun (w : World) (C : Array Value) (n c : Nat) => Lib.run_convert_bytes_const (P := Tryd.prog) w 32 5 C n c Tryd.underlying32 Tryd.underlying5
  go_enter Tryd.func3, Tryd.ntmps3
  go_wp2_with (first
    | (go_at_call 13; refine (known4_any w HG.out).mono ?_; rintro r w1 ⟨rfl, hB⟩; have HB1 := Lib.hid hB; clear hB)
    | (go_at_call 14; refine (new_ok 1048576 w1 (by decide) (by decide)).mono ?_; rintro r w3 ⟨rfl, hw3⟩
       have HI := Lib.hid (wal_start HG.out HB1.out 1048576 (by decide) (by decide) hw3)
       clear hw3
       generalize w1.heap.size = bt at *)
    | (go_at_call 15; refine (cal_open w w3 bt 1048576 0 [] 0 _ HI.out (by decide) (by simp) (by simp [framesOf])).mono ?_
       rintro r w4 ⟨bl, F4, o4, rfl, hW4, ho4, ho4', hF4, hK4⟩
       have HW4 := Lib.hid hW4
       clear hW4 hF4 hK4)
    | (go_at_call 16; refine (small_any A0 c0 h0 w4 (Q0.out.below HW4.out.below)).mono ?_
       rintro r w5 ⟨v5, rfl, hv5, hB5⟩
       obtain ⟨A5, c5, rfl⟩ := own_slice hv5
       have HW5 := Lib.hid (HW4.out.to hB5)
       have HR5 := Lib.hid (show RowOk w5 F4 A5 (smallH h0) from RowOk.own hv5 (HdsIn.sub I0.out (fun y hy => (smallH_mem hy).1)) HW5.out.below (fun k hk => (HW5.out.lt k hk).1) (fun k hk hf => by have := own_base hv5 k hk; have := (HW4.out.lt k hf).2; omega))
       clear hv5 hB5))
  have hlo : (0 < (smallH h0).length → ∀ a, A5 = some a → a.block < w5.heap.size) ∧ ∀ y ∈ smallH h0, 0 < y.l.length → ∀ a, y.A = some a → a.block < w5.heap.size := ⟨reads_lt HR5.out.row, fun y hy => reads_lt (HR5.out.ins y hy).1⟩
  have hb8 := smallH_len h0
  have SB := Lib.hid (fun y (hy : y ∈ smallH h0) => (smallH_mem hy).2)
  have HE5 := Lib.hid (show EchoAt w bt bl w5.heap.size (gs 1048576 (([] : List Hd).map (·.l)) 0 o4) (gl (([] : List Hd).map (·.l))) F4 A5 (smallH h0) (.slice none 0 0) [] (.slice none 0 0) [] w5 from ⟨HW5.out, Nat.le_refl _, HR5.out, hlo, ⟨own_nil _ _ _ _, (fun k hk => by cases hk)⟩, ⟨own_nil _ _ _ _, (fun k hk => by cases hk)⟩, (fun k hk => by cases hk), (fun y hy => by cases hy)⟩)
  have HWB := Lib.hid HW5.out.below.size
  clear HI hlo HW4 HW5 HR5 Q0 I0
  generalize smallH h0 = b at *
  generalize w5.heap.size = base at *
  go_loopw [9, 10, 11] (fun av bv iv wr => ∃ (k : Nat) (hs : List Hd) (L : List UInt8) (o : Int) (F : Nat → Prop), k ≤ b.length ∧ iv = .int .i64 (k : Int) ∧ 0 ≤ o ∧ o ≤ (k : Int) + 1 ∧ L.length ≤ 308 * k ∧ hs.length ≤ k ∧ (framesOf (hs.map (·.l))).length ≤ 3000 * k ∧ RowKit.Hid (∀ r ∈ hs.map (·.l), r.length ≤ 3000) ∧ RowKit.Hid (EchoAt w bt bl base (gs 1048576 (hs.map (·.l)) 0 o) (gl (hs.map (·.l))) F A5 b bv L av hs wr)) (fun _ _ iv _ => b.length - (intOf iv).toNat)
  case atStart => exact ⟨0, [], [], o4, F4, by omega, rfl, ho4, by omega, by simp, by simp, by simp [framesOf], Lib.hid (fun r hr => by cases hr), HE5⟩
  case round =>
    obtain ⟨k, hs, L, o, F, hk, rfl, ho0, ho1, hL, hhl, hfr, HRS, HE⟩ := hrel
    by_cases hlt : k < b.length
    · have hlt2 : (k : Int) < (b.length : Int) := by omega
      have hk0 : (0 : Int) ≤ (k : Int) := by omega
      obtain ⟨y, hy⟩ : ∃ y, b[k]? = some y := ⟨_, List.getElem?_eq_getElem hlt⟩
      obtain ⟨ad, rfl, hcell⟩ := hd_at HE.out.rb.row hy
      have hyin := HE.out.rb.ins y (List.mem_of_getElem? hy)
      have hy3 := SB.out y (List.mem_of_getElem? hy)
      have hfl : (frameOf y.l).length = y.l.length + 8 := frameOf_length y.l
      have HY := Lib.hid hyin.1
      have HFLn := Lib.hid hfl
      have hbs := HE.out.bs
      clear hy hyin hfl
      obtain ⟨Ab, cb, rfl⟩ := own_slice HE.out.bo.1
      obtain ⟨Av, cv, rfl⟩ := own_slice HE.out.ao.1
      go_wp2_with (first
        | (go_at_call 17; refine (rframe_any y.A y.c y.l wr HY.out (by omega)).mono ?_; rintro r w6 ⟨v6, rfl, hv6, hB6⟩
           obtain ⟨A6, c6, rfl⟩ := own_slice hv6
           have HE6 := Lib.hid (HE.out.to hB6)
           have HV6 := Lib.hid hv6
           have HB6 := Lib.hid (hB6.mono hbs)
           have HS6 := Lib.hid hB6.size
           clear hv6 hB6)
        | (at_builtin; refine print_append_row_of (w0 := wr) b8 0 base rfl _ _ 32 5 (.int .u8 0) 1 rfl Tryd.underlying32 Tryd.info5 rfl (by decide) b8_one (.slice Ab L.length cb) L (frameOf y.l) A6 (frameOf y.l).length c6 rfl rfl ?a1 ?a2 ?a3 ?a4 ?a5 ?a6))
      case a1 => exact HE6.out.bo.1
      case a2 => exact own_reads_of' HV6.out
      case a3 => exact HB6.out
      case a4 => exact HE6.out.bs
      case a5 => have := HFLn.out; omega
      case a6 =>
        intro v7 w7 hown7 _ hg7 hat7
        rw [← List.length_append] at hown7
        have hE7 := HE6.out.grow HWB.out hg7 hat7 hown7
        have hk7 : Keep (fun k => (Value.slice Ab L.length cb).ownBlock = some k) w6 w7 := Keep.of_grown hg7 (fun k hk => hk)
        have hv67 : w7.ownsRow wr.heap.size 5 1 (.slice A6 (frameOf y.l).length c6) (frameOf y.l).length (encs b8 (frameOf y.l)) := hk7.own HV6.out (fun j hj e => by have := own_base HV6.out j hj; have := own_lt HE.out.bo.1 j e; omega)
        obtain ⟨A7, c7, rfl⟩ := own_slice hown7
        obtain ⟨L2, hL2⟩ : ∃ z, z = L ++ frameOf y.l := ⟨_, rfl⟩
        have hl2 : L2.length ≤ L.length + (y.l.length + 8) := by rw [hL2, List.length_append, HFLn.out]; exact Nat.le_refl _
        rw [← hL2] at hE7
        rw [← hL2]
        have HE7 := Lib.hid hE7
        have HV7 := Lib.hid hv67
        clear hown7 hg7 hat7 hE7 hk7 hv67 hL2
        go_wp2_with (at_builtin; refine print_append_row_of (w0 := w7) b8 0 w7.heap.size rfl _ _ 32 5 (.int .u8 0) 1 rfl Tryd.underlying32 Tryd.info5 rfl (by decide) b8_one (.slice (some ⟨w7.heap.size, 0, none⟩) 0 0) [] L2 A7 L2.length c7 rfl rfl ?b1 ?b2 ?b3 ?b4 ?b5 ?b6)
        case b1 => exact own_lit_of (enc := b8) w7 w7.heap.size 5 [] (Nat.le_refl _) (by decide)
        case b2 => exact (own_reads_of' HE7.out.bo.1).below ((Below.refl _ _).alloc (Nat.le_refl _) _)
        case b3 => exact (Below.refl _ _).alloc (Nat.le_refl _) _
        case b4 => simp
        case b5 => simp; omega
        case b6 =>
          intro v8 w8 hown8 hB8 _ _
          have hown8' : w8.ownsRow w7.heap.size 5 1 v8 L2.length (encs b8 L2) := hown8
          obtain ⟨A8, c8, rfl⟩ := own_slice hown8'
          have HE8 := Lib.hid (HE7.out.to hB8)
          have HX8 := Lib.hid hown8'
          have HV8 := Lib.hid (pw_own_below HV7.out hB8)
          have HB8 := Lib.hid hB8
          have HS8 := Lib.hid hB8.size
          clear hown8 hown8' hB8
          go_wp2_with (at_builtin; refine print_append_row_of (w0 := w7) b8 0 w7.heap.size rfl _ _ 32 5 (.int .u8 0) 1 rfl Tryd.underlying32 Tryd.info5 rfl (by decide) b8_one (.slice A8 L2.length c8) L2 (frameOf y.l) A6 (frameOf y.l).length c6 rfl rfl ?c1 ?c2 ?c3 ?c4 ?c5 ?c6)
          case c1 => exact HX8.out
          case c2 => exact own_reads_of' HV8.out
          case c3 => exact HB8.out
          case c4 => exact HS8.out
          case c5 => have := HFLn.out; omega
          case c6 =>
            intro v9 w9 hown9 hB9 _ _
            rw [← List.length_append] at hown9
            have hE9 := HE7.out.to hB9
            obtain ⟨A9, c9, rfl⟩ := own_slice hown9
            obtain ⟨X, hX⟩ : ∃ z, z = L2 ++ frameOf y.l := ⟨_, rfl⟩
            have hxl : X.length ≤ L2.length + (y.l.length + 8) := by rw [hX, List.length_append, HFLn.out]; exact Nat.le_refl _
            rw [← hX] at hown9
            rw [← hX]
            have HE9 := Lib.hid hE9
            have HX9 := Lib.hid hown9
            have HS9 := Lib.hid hB9.size
            clear hown9 hB9 hE9 hX
            go_wp2_with (first
                         | (go_at_call 18; refine (cal_append A9 c9 X w w9 bt bl 1048576 o (hs.map (·.l)) 0 F HE9.out.win (by omega) (own_reads_of' HX9.out) (by omega) (fun hp a ha hf => by
                              subst ha
                              have := own_base HX9.out a.block rfl
                              have := (HE7.out.win.lt _ hf).2
                              omega) (by rw [List.length_map]; omega) (by omega)).mono ?_; rintro r w10 ⟨rfl, hO10⟩
                            obtain ⟨F10, hE10, hF10, hK10⟩ := HE9.out.log hO10
                            have HX10 := Lib.hid (show w10.ownsRow w7.heap.size 5 1 (.slice A9 X.length c9) X.length (encs b8 X) from hK10.own HX9.out (fun j hj hf => by have := own_base HX9.out j hj; have := (HE7.out.win.lt _ hf).2; omega))
                            have HXL := Lib.hid (fun j (hj : (Value.slice A9 X.length c9).ownBlock = some j) => (show w7.heap.size ≤ j ∧ ¬ F10 j from ⟨own_base HX9.out j hj, fun hf => (hF10 j hf).elim (fun e => by have := own_base HX9.out j hj; have := (HE7.out.win.lt _ e).2; omega) (fun e => by have := own_lt HX9.out j hj; omega)⟩))
                            have HE10 := Lib.hid hE10
                            clear hO10 hE10 hF10 hK10)
                         | (at_builtin; refine print_append_of (w0 := w10) (W := w10) Hd.v base rfl _ _ 22 32 (.slice none 0 0) 24 rfl Tryd.underlying22 infoR rfl (by decide) (.slice Av hs.length cv) hs ⟨A9, c9, X⟩ rfl rfl (hd_one _) HE10.out.ao.1 (Below.refl _ _) HE10.out.bs (by omega) ?d6))
            case d6 =>
              intro v11 w11 hown _ hg11 hat11
              have hown' : HOwn w11 base v11 (hs ++ [(⟨A9, c9, X⟩ : Hd)]) := by show w11.ownsRow _ _ 1 _ (hs ++ [(⟨A9, c9, X⟩ : Hd)]).length _; rw [List.length_append]; exact hown
              have hE11 := HE10.out.more HWB.out (y := ⟨A9, c9, X⟩) (own_reads_of' HX10.out) (own_le HX10.out) (fun hp a ha => by
                have ha : A9 = some a := ha
                subst ha
                obtain ⟨g1, g2⟩ := HXL.out a.block rfl
                exact ⟨g2, fun e => by have := own_lt HE7.out.bo.1 _ e; omega, fun e => by have := own_lt HE7.out.ao.1 _ e; omega⟩) hg11 hat11 hown'
              obtain ⟨A11, c11, rfl⟩ := own_slice hown'
              have HE11 := Lib.hid hE11
              have HXB := Lib.hid hxl
              clear hown hown' hg11 hat11 hE11
              go_wp2_with fail
              have hms : (hs ++ [(⟨A9, c9, X⟩ : Hd)]).map (·.l) = hs.map (·.l) ++ [X] := by simp
              have hfs := frames_len_snoc (hs.map (·.l)) X
              exact ⟨⟨k + 1, hs ++ [⟨A9, c9, X⟩], L2, o + 1, F10, by omega, by simp, by omega, by push_cast; omega, by omega, by rw [List.length_append]; simp only [List.length_cons, List.length_nil]; omega, by rw [hms]; omega, Lib.hid (fun r hr => by
                rw [hms] at hr
                rcases List.mem_append.1 hr with hr | hr
                · exact HRS.out r hr
                · rw [List.mem_singleton.1 hr]; omega), Lib.hid (by rw [hms]; exact HE11.out)⟩, by simp [intOf]; omega⟩
    · have hlt2 : ¬ ((k : Int) < (b.length : Int)) := by omega
      obtain ⟨Av, cv, rfl⟩ := own_slice HE.out.ao.1
      have HW := Lib.hid HE.out.win
      have HR := Lib.hid HE.out.row
      have hfr2 : (framesOf (hs.map (·.l))).length ≤ 30000 := by omega
      have HFR := Lib.hid hfr2
      have HOWN := Lib.hid (own_le HE.out.ao.1)
      clear HE hfr hfr2 HE5 hL
      obtain ⟨kk, hkk⟩ : ∃ kk, kk = crashK (gs 1048576 (hs.map (·.l)) 0 o) keep := ⟨_, rfl⟩
      have HKK := Lib.hid hkk
      clear hkk
      go_wp2_with (first
        | (go_at_call 19; refine (cal_crash keep w wr bt bl 1048576 o (hs.map (·.l)) 0 _ F HW.out).mono ?_; rintro r w20 ⟨rfl, hle, F20, hW20, hF20, hK20⟩
           rw [← HKK.out, Nat.zero_add] at hle hW20
           rw [← HKK.out]
           have HW20 := Lib.hid hW20
           have HR20 := Lib.hid (HR.out.step hK20 hF20)
           have HLE := Lib.hid hle
           clear hW20 hF20 hK20 hle)
        | (go_at_call 15; refine (cal_reopen w w20 bt 1048576 o (hs.map (·.l)) kk F20 HW20.out.tape (by omega) (fun r hr => Nat.le_trans (HRS.out r hr) (by decide)) (by have := HFR.out; omega) HLE.out).mono ?_; rintro r w21 ⟨bl21, F21, o21, rfl, hW21, ho21, ho21', hF21, hK21⟩
           have HW21 := Lib.hid hW21
           have HR21 := Lib.hid (HR20.out.step hK21 hF21)
           clear hW21 hF21 hK21))
      obtain ⟨j, hj⟩ : ∃ j, j = wholeOf (hs.map (·.l)) kk := ⟨_, rfl⟩
      rw [← hj] at HW21
      have hjl : j ≤ hs.length := by have := wholeOf_le (hs.map (·.l)) kk; rw [List.length_map] at this; omega
      have HJ := Lib.hid hj
      have hkkb : kk ≤ 30000 := by have := HLE.out; have := HFR.out; omega
      clear hj
      go_loopw [16, 17] (fun kv tv wr => ∃ (i : Nat), i ≤ j ∧ kv = .int .i64 (i : Int) ∧ tv = .int .i64 (endOf (hs.map (·.l)) i : Int) ∧ RowKit.Hid (WalIn w bt bl21 (gs 1048576 ((hs.map (·.l)).take j) (endOf (hs.map (·.l)) j) o21) (gl ((hs.map (·.l)).take j)) wr F21) ∧ RowKit.Hid (RowOk wr F21 Av hs)) (fun kv _ _ => hs.length - (intOf kv).toNat)
      case atStart => exact ⟨0, by omega, rfl, rfl, HW21, HR21⟩
      case round =>
        clear HW21 HR21 HW HR HW20 HR20
        obtain ⟨i, hi, rfl, rfl, HW21, HR21⟩ := hrel
        have hi0 : (0 : Int) ≤ (i : Int) := by omega
        have heb : endOf (hs.map (·.l)) i ≤ 30000 := by have := endOf_mono (hs.map (·.l)) i (hs.map (·.l)).length (by rw [List.length_map]; omega); rw [← framesOf_len_all] at this; have := HFR.out; omega
        by_cases hil : i < hs.length
        · obtain ⟨z, hz⟩ : ∃ z, hs[i]? = some z := ⟨_, List.getElem?_eq_getElem hil⟩
          obtain ⟨ad, rfl, hcz⟩ := hd_at HR21.out.row hz
          have hzl : (hs.map (·.l))[i]? = some z.l := by rw [List.getElem?_map, hz]; rfl
          have hzr := HRS.out z.l (List.mem_of_getElem? hzl)
          have hwl := whole_lt (hs.map (·.l)) i kk z.l hzl (by rw [← HJ.out]; exact hi)
          rw [← HJ.out] at hwl
          have hen := endOf_next (hs.map (·.l)) i z.l hzl
          have hil2 : (i : Int) < (hs.length : Int) := by omega
          clear hz hzl
          have HEN := Lib.hid hen
          clear hen
          have HFE := Lib.hid (show (framesOf ((hs.map (·.l)).take i)).length = endOf (hs.map (·.l)) i from by rw [endOf_wholes, List.length_take]; have h1 := endOf_mono (hs.map (·.l)) i (hs.map (·.l)).length (by rw [List.length_map]; omega); rw [← framesOf_len_all] at h1; omega)
          generalize endOf (hs.map (·.l)) i = ee at *
          by_cases hij : i < j
          · have hfit := hwl.2 hij
            have hfit2 : (ee : Int) + (z.l.length : Int) + 8 ≤ (kk : Int) := by omega
            clear hwl
            go_wp2_with fail
            exact ⟨⟨i + 1, by omega, by simp, by rw [HEN.out]; congr 1, HW21, HR21⟩, by simp [intOf]; omega⟩
          · obtain rfl : i = j := by omega
            have hfit2 : ¬ ((ee : Int) + (z.l.length : Int) + 8 ≤ (kk : Int)) := fun h => absurd (hwl.1 (by omega)) (by omega)
            clear hwl
            have HJL := Lib.hid (show ((hs.map (·.l)).take i).length = i from by rw [List.length_take, List.length_map]; omega)
            have HJT := Lib.hid (show (hs.map (·.l)).take i = (hs.take i).map (·.l) from by rw [List.map_take])
            have HTJ := Lib.hid (show (hs.take i).length = i from by rw [List.length_take]; omega)
            have HSW := Lib.hid (show ∀ r ∈ (hs.map (·.l)).take i ++ [[109, 111, 114, 101]], r.length ≤ 1000000 from fun r hr => (List.mem_append.1 hr).elim (fun h => Nat.le_trans (HRS.out r (List.mem_of_mem_take h)) (by decide)) (fun h => by rw [List.mem_singleton.1 h]; decide))
            have hsl := cut_toQ (some ad) hs.length cv i (by have := HOWN.out; omega)
            have HWd := Lib.hid (HW21.out.to (Below.refl wr.heap.size wr).drew)
            have HRd := Lib.hid (HR21.out.below (Below.refl wr.heap.size wr).drew)
            have hh8 : hs.length ≤ 8 := by omega
            go_wp2_with fail
            refine wp_region_noPanic ?_
            refine wp_region_held_drew (S := fun _ => True) (by kernel_rfl) ?sp1 (fun hHeld0 => ?rp1)
            case sp1 => trivial
            clear hHeld0
            refine wpAnyH_take (i := 0) (v := ?vp2) (by simp only [List.getElem?_toArray, List.getElem?_cons_zero, List.getElem?_cons_succ]; rfl) (by kernel_rfl) (by kernel_rfl) (by kernel_rfl) (fun _ _ _ h => h) (Or.inl ⟨by rfl, ?hp2⟩) trivial ?qp2
            case hp2 => (intro w hSw; clear hSw; go_simp <;> with_reducible rfl)
            try simp only [Act.put, List.setIfInBounds_toArray, List.set_cons_zero, List.set_cons_succ]
            refine wpAnyH_take (i := 2) (v := ?vp3) (by simp only [List.getElem?_toArray, List.getElem?_cons_zero, List.getElem?_cons_succ]; rfl) (by kernel_rfl) (by kernel_rfl) (by kernel_rfl) (fun _ _ _ h => h) (Or.inl ⟨by rfl, ?hp3⟩) trivial ?qp3
            case hp3 => (intro w hSw; clear hSw; go_simp <;> with_reducible rfl)
            try simp only [Act.put, List.setIfInBounds_toArray, List.set_cons_zero, List.set_cons_succ]
            refine wpAnyH_take (i := 3) (v := ?vp4) (by simp only [List.getElem?_toArray, List.getElem?_cons_zero, List.getElem?_cons_succ]; rfl) (by kernel_rfl) (by kernel_rfl) (by kernel_rfl) (fun _ _ _ h => h) (Or.inl ⟨by rfl, ?hp4⟩) trivial ?qp4
            case hp4 => (intro w hSw; clear hSw; go_simp <;> with_reducible rfl)
            try simp only [Act.put, List.setIfInBounds_toArray, List.set_cons_zero, List.set_cons_succ]
            refine wpAnyH_take (i := 4) (v := ?vp5) (by simp only [List.getElem?_toArray, List.getElem?_cons_zero, List.getElem?_cons_succ]; rfl) (by kernel_rfl) (by kernel_rfl) (by kernel_rfl) (fun _ _ _ h => h) (Or.inl ⟨by rfl, ?hp5⟩) trivial ?qp5
            case hp5 => (intro w hSw; clear hSw; go_simp <;> with_reducible rfl)
            try simp only [Act.put, List.setIfInBounds_toArray, List.set_cons_zero, List.set_cons_succ]
            refine wpAnyH_ready (rs := [1]) (by kernel_rfl) (by simp) ?_
            refine AllReadyH.cons (by simp only [List.getElem?_toArray, List.getElem?_cons_zero, List.getElem?_cons_succ]; rfl) (fun K hK => ?_) AllReadyH.nil
            go_simp
            go_at_call 21
            refine (cal_all w wr.drew bt bl21 _ ((hs.map (·.l)).take i) F21 HWd.out (by rw [HJL.out]; omega) (fun r hr => Nat.le_trans (HRS.out r (List.mem_of_mem_take hr)) (by decide))).mono ?_
            rintro r w32 ⟨v32, rfl, hv32, hB32⟩
            obtain ⟨A32, c32, rfl⟩ := Kd.R_slice hv32
            obtain ⟨g32, hm32, hq32, hi32⟩ := hds_of_rows (Kd.R_reads' hv32).2.2
            rw [HJL.out] at hq32
            rw [HJL.out]
            have hl32 : g32.length = i := by have := congrArg List.length hm32; rw [List.length_map, HJL.out] at this; exact this
            have HQ32 := Lib.hid (show HRow w32 A32 g32.length g32 from by rw [hl32]; exact hq32)
            have HI32 := Lib.hid hi32
            have HM32 := Lib.hid (hm32.trans HJT.out)
            have HL32 := Lib.hid hl32
            have HW32 := Lib.hid (HWd.out.to hB32)
            have HR32 := Lib.hid (HRd.out.below hB32)
            clear hv32 hm32 hq32 hi32 hB32 hl32
            refine hK.out _ _ ?sp6 (fun hHeld => ?qp6)
            case sp6 => trivial
            clear hHeld hK K
            try simp only [Act.put, List.setIfInBounds_toArray, List.set_cons_zero, List.set_cons_succ]
            refine wpAnyH_ready (rs := [5]) (by kernel_rfl) (by simp) ?_
            refine AllReadyH.cons (by simp only [List.getElem?_toArray, List.getElem?_cons_zero, List.getElem?_cons_succ]; rfl) (fun K hK => ?_) AllReadyH.nil
            go_simp
            go_at_call 20
            have hsj := HL32.out
            have htj := HTJ.out
            refine (by have h := same_any A32 (some ad) c32 cv g32 (hs.take i) w32 HQ32.out (row_take HR32.out.row i (by omega)) HI32.out (HdsIn.sub HR32.out.ins (fun y hy => List.mem_of_mem_take hy)); rw [hsj, htj] at h; exact h : Calls Tryd.prog 20 #[.slice A32 i c32, .slice (some ad) i cv] w32 _).mono ?_
            rintro r w35 ⟨rfl, hB35⟩
            rw [decide_eq_true HM32.out]
            have HW35 := Lib.hid (HW32.out.to hB35)
            have HR35 := Lib.hid (HR32.out.below hB35)
            clear hB35 hsj htj
            refine hK.out _ _ ?sp7 (fun hHeld => ?qp7)
            case sp7 => trivial
            clear hHeld hK K
            try simp only [Act.put, List.setIfInBounds_toArray, List.set_cons_zero, List.set_cons_succ]
            refine wpAnyH_take (i := 6) (v := ?vp8) (by simp only [List.getElem?_toArray, List.getElem?_cons_zero, List.getElem?_cons_succ]; rfl) (by kernel_rfl) (by kernel_rfl) (by kernel_rfl) (fun _ _ _ h => h) (Or.inl ⟨by rfl, ?hp8⟩) trivial ?qp8
            case hp8 => (intro w hSw; clear hSw; go_simp <;> with_reducible rfl)
            try simp only [Act.put, List.setIfInBounds_toArray, List.set_cons_zero, List.set_cons_succ]
            refine wpAnyH_take (i := 7) (v := ?vp9) (by simp only [List.getElem?_toArray, List.getElem?_cons_zero, List.getElem?_cons_succ]; rfl) (by kernel_rfl) (by kernel_rfl) (by kernel_rfl) (fun _ _ _ h => h) (Or.inl ⟨by rfl, ?hp9⟩) trivial ?qp9
            case hp9 => (intro w hSw; clear hSw; go_simp <;> with_reducible rfl)
            try simp only [Act.put, List.setIfInBounds_toArray, List.set_cons_zero, List.set_cons_succ]
            refine wpAnyH_take (i := 10) (v := ?vp10) (by simp only [List.getElem?_toArray, List.getElem?_cons_zero, List.getElem?_cons_succ]; rfl) (by kernel_rfl) (by kernel_rfl) (by kernel_rfl) (fun _ _ _ h => h) (Or.inl ⟨by rfl, ?hp10⟩) trivial ?qp10
            case hp10 => (intro w hSw; clear hSw; go_simp <;> with_reducible rfl)
            try simp only [Act.put, List.setIfInBounds_toArray, List.set_cons_zero, List.set_cons_succ]
            refine wpAnyH_ready (rs := [8]) (by kernel_rfl) (by simp) ?_
            refine AllReadyH.cons (by simp only [List.getElem?_toArray, List.getElem?_cons_zero, List.getElem?_cons_succ]; rfl) (fun K hK => ?_) AllReadyH.nil
            go_simp
            go_at_call 22
            refine (wbytes_any w w35 bt bl21 _ _ F21 (framesOf ((hs.map (·.l)).take i)) HW35.out rfl).mono ?_
            rintro r w25 ⟨A25, c25, rfl, _, _, hB25, _⟩
            rw [HFE.out]
            have HW25 := Lib.hid (HW35.out.to hB25)
            have HR25 := Lib.hid (HR35.out.below hB25)
            clear hB25
            refine hK.out _ _ ?sp11 (fun hHeld => ?qp11)
            case sp11 => trivial
            clear hHeld hK K
            try simp only [Act.put, List.setIfInBounds_toArray, List.set_cons_zero, List.set_cons_succ]
            refine wpAnyH_take (i := 9) (v := ?vp12) (by simp only [List.getElem?_toArray, List.getElem?_cons_zero, List.getElem?_cons_succ]; rfl) (by kernel_rfl) (by kernel_rfl) (by kernel_rfl) (fun _ _ _ h => h) (Or.inl ⟨by rfl, ?hp12⟩) trivial ?qp12
            case hp12 => (intro w hSw; clear hSw; go_simp <;> with_reducible rfl)
            try simp only [Act.put, List.setIfInBounds_toArray, List.set_cons_zero, List.set_cons_succ]
            refine wpAnyH_take (i := 11) (v := ?vp13) (by simp only [List.getElem?_toArray, List.getElem?_cons_zero, List.getElem?_cons_succ]; rfl) (by kernel_rfl) (by kernel_rfl) (by kernel_rfl) (fun _ _ _ h => h) (Or.inl ⟨by rfl, ?hp13⟩) trivial ?qp13
            case hp13 => (intro w hSw; clear hSw; go_simp <;> with_reducible rfl)
            try simp only [Act.put, List.setIfInBounds_toArray, List.set_cons_zero, List.set_cons_succ]
            refine wpAnyH_take (i := 12) (v := ?vp14) (by simp only [List.getElem?_toArray, List.getElem?_cons_zero, List.getElem?_cons_succ]; rfl) (by kernel_rfl) (by kernel_rfl) (by kernel_rfl) (fun _ _ _ h => h) (Or.inl ⟨by rfl, ?hp14⟩) trivial ?qp14
            case hp14 => (intro w hSw; clear hSw; go_simp <;> with_reducible rfl)
            try simp only [Act.put, List.setIfInBounds_toArray, List.set_cons_zero, List.set_cons_succ]
            refine wpAnyH_take (i := 13) (v := ?vp15) (by simp only [List.getElem?_toArray, List.getElem?_cons_zero, List.getElem?_cons_succ]; rfl) (by kernel_rfl) (by kernel_rfl) (by kernel_rfl) (fun _ _ _ h => h) (Or.inl ⟨by rfl, ?hp15⟩) trivial ?qp15
            case hp15 => (intro w hSw; clear hSw; go_simp <;> with_reducible rfl)
            try simp only [Act.put, List.setIfInBounds_toArray, List.set_cons_zero, List.set_cons_succ]
            refine wpAnyH_take (i := 14) (v := ?vp16) (by simp only [List.getElem?_toArray, List.getElem?_cons_zero, List.getElem?_cons_succ]; rfl) (by kernel_rfl) (by kernel_rfl) (by kernel_rfl) (fun _ _ _ h => h) (Or.inl ⟨by rfl, ?hp16⟩) trivial ?qp16
            case hp16 => (intro w hSw; clear hSw; go_simp <;> with_reducible rfl)
            try simp only [Act.put, List.setIfInBounds_toArray, List.set_cons_zero, List.set_cons_succ]
            refine wpAnyH_ready (rs := [15]) (by kernel_rfl) (by simp) ?_
            refine AllReadyH.cons (by simp only [List.getElem?_toArray, List.getElem?_cons_zero, List.getElem?_cons_succ]; rfl) (fun K hK => ?_) AllReadyH.nil
            go_simp
            refine hK.out _ _ ?sp17 (fun hHeld => ?qp17)
            case sp17 => trivial
            clear hHeld hK K
            try simp only [Act.put, List.setIfInBounds_toArray, List.set_cons_zero, List.set_cons_succ]
            refine wpAnyH_ready (rs := [16]) (by kernel_rfl) (by simp) ?_
            refine AllReadyH.cons (by simp only [List.getElem?_toArray, List.getElem?_cons_zero, List.getElem?_cons_succ]; rfl) (fun K hK => ?_) AllReadyH.nil
            go_simp
            refine hK.out _ _ ?sp18 (fun hHeld => ?qp18)
            case sp18 => trivial
            clear hHeld hK K
            try simp only [Act.put, List.setIfInBounds_toArray, List.set_cons_zero, List.set_cons_succ]
            refine wpAnyH_ready (rs := [17]) (by kernel_rfl) (by simp) ?_
            refine AllReadyH.cons (by simp only [List.getElem?_toArray, List.getElem?_cons_zero, List.getElem?_cons_succ]; rfl) (fun K hK => ?_) AllReadyH.nil
            go_simp
            go_at_call 18
            refine (cal_append _ _ [109, 111, 114, 101] w _ bt bl21 1048576 o21 ((hs.map (·.l)).take i) _ F21 (HW25.out.to ((Below.refl _ _).alloc (Nat.le_refl _) _)) (by omega) (lit_reads8' w25 5 (4, 5) [109, 111, 114, 101] _ 4 rfl rfl (by decide)) (by decide) (fresh_out HW25.out) (by rw [HJL.out]; omega) (by rw [HFE.out]; simp only [List.length_cons, List.length_nil]; omega)).mono ?_
            rintro r w31 ⟨rfl, F31, hW31, hF31, hK31⟩
            have HW31 := Lib.hid hW31
            have HR31 := Lib.hid ((HR25.out.below ((Below.refl _ _).alloc (Nat.le_refl _) _)).step hK31 hF31)
            have HB31 := Lib.hid (Below.refl w31.heap.size w31)
            clear hW31 hF31 hK31
            refine hK.out _ _ ?sp19 (fun hHeld => ?qp19)
            case sp19 => trivial
            clear hHeld hK K
            try simp only [Act.put, List.setIfInBounds_toArray, List.set_cons_zero, List.set_cons_succ]
            refine wpAnyH_take (i := 18) (v := ?vp20) (by simp only [List.getElem?_toArray, List.getElem?_cons_zero, List.getElem?_cons_succ]; rfl) (by kernel_rfl) (by kernel_rfl) (by kernel_rfl) (fun _ _ _ h => h) (Or.inl ⟨by rfl, ?hp20⟩) trivial ?qp20
            case hp20 => (intro w hSw; clear hSw; go_simp <;> with_reducible rfl)
            try simp only [Act.put, List.setIfInBounds_toArray, List.set_cons_zero, List.set_cons_succ]
            refine wpAnyH_take (i := 19) (v := ?vp21) (by simp only [List.getElem?_toArray, List.getElem?_cons_zero, List.getElem?_cons_succ]; rfl) (by kernel_rfl) (by kernel_rfl) (by kernel_rfl) (fun _ _ _ h => h) (Or.inl ⟨by rfl, ?hp21⟩) trivial ?qp21
            case hp21 => (intro w hSw; clear hSw; go_simp <;> with_reducible rfl)
            try simp only [Act.put, List.setIfInBounds_toArray, List.set_cons_zero, List.set_cons_succ]
            refine wpAnyH_take (i := 20) (v := ?vp22) (by simp only [List.getElem?_toArray, List.getElem?_cons_zero, List.getElem?_cons_succ]; rfl) (by kernel_rfl) (by kernel_rfl) (by kernel_rfl) (fun _ _ _ h => h) (Or.inl ⟨by rfl, ?hp22⟩) trivial ?qp22
            case hp22 => (intro w hSw; clear hSw; go_simp <;> with_reducible rfl)
            try simp only [Act.put, List.setIfInBounds_toArray, List.set_cons_zero, List.set_cons_succ]
            refine wpAnyH_take (i := 21) (v := ?vp23) (by simp only [List.getElem?_toArray, List.getElem?_cons_zero, List.getElem?_cons_succ]; rfl) (by kernel_rfl) (by kernel_rfl) (by kernel_rfl) (fun _ _ _ h => h) (Or.inl ⟨by rfl, ?hp23⟩) trivial ?qp23
            case hp23 => (intro w hSw; clear hSw; go_simp <;> with_reducible rfl)
            try simp only [Act.put, List.setIfInBounds_toArray, List.set_cons_zero, List.set_cons_succ]
            refine wpAnyH_take (i := 24) (v := ?vp24) (by simp only [List.getElem?_toArray, List.getElem?_cons_zero, List.getElem?_cons_succ]; rfl) (by kernel_rfl) (by kernel_rfl) (by kernel_rfl) (fun _ _ _ h => h) (Or.inl ⟨by rfl, ?hp24⟩) trivial ?qp24
            case hp24 => (intro w hSw; clear hSw; go_simp <;> with_reducible rfl)
            try simp only [Act.put, List.setIfInBounds_toArray, List.set_cons_zero, List.set_cons_succ]
            refine wpAnyH_take (i := 25) (v := ?vp25) (by simp only [List.getElem?_toArray, List.getElem?_cons_zero, List.getElem?_cons_succ]; rfl) (by kernel_rfl) (by kernel_rfl) (by kernel_rfl) (fun _ _ _ h => h) (Or.inl ⟨by rfl, ?hp25⟩) trivial ?qp25
            case hp25 => (intro w hSw; clear hSw; go_simp <;> with_reducible rfl)
            try simp only [Act.put, List.setIfInBounds_toArray, List.set_cons_zero, List.set_cons_succ]
            refine wpAnyH_take (i := 26) (v := ?vp26) (by simp only [List.getElem?_toArray, List.getElem?_cons_zero, List.getElem?_cons_succ]; rfl) (by kernel_rfl) (by kernel_rfl) (by kernel_rfl) (fun _ _ _ h => h) (Or.inl ⟨by rfl, ?hp26⟩) trivial ?qp26
            case hp26 => (intro w hSw; clear hSw; go_simp <;> with_reducible rfl)
            try simp only [Act.put, List.setIfInBounds_toArray, List.set_cons_zero, List.set_cons_succ]
            have hE : EEnv w w31 bt bl21 _ F31 (some ad) hs i ((hs.map (·.l)).take i ++ [[109, 111, 114, 101]]) := ⟨HW31.out, HR31.out, by omega, hh8, by rw [HJT.out]; rfl, HSW.out⟩
            refine echo_tail hE ⟨⟨rfl, rfl, Below.refl _ _, rfl, rfl, rfl⟩, fun _ => False, (fun _ h => h.elim), (fun _ h => h), trivial⟩ (by simp only [List.getElem?_toArray, List.getElem?_cons_zero, List.getElem?_cons_succ]; rfl) rfl (by simp only [List.getElem?_toArray, List.getElem?_cons_zero, List.getElem?_cons_succ]; rfl) rfl rfl rfl (by simp only [List.getElem?_toArray, List.getElem?_cons_zero, List.getElem?_cons_succ]; rfl) rfl rfl rfl (by simp only [List.getElem?_toArray, List.getElem?_cons_zero, List.getElem?_cons_succ]; rfl) rfl rfl rfl (by simp only [List.getElem?_toArray, List.getElem?_cons_zero, List.getElem?_cons_succ]; rfl) rfl rfl rfl (by simp only [List.getElem?_toArray, List.getElem?_cons_zero, List.getElem?_cons_succ]; rfl) rfl rfl rfl (by simp only [List.getElem?_toArray, List.getElem?_cons_zero, List.getElem?_cons_succ]; rfl) rfl rfl rfl (by simp only [List.getElem?_toArray, List.getElem?_cons_zero, List.getElem?_cons_succ]; rfl) rfl rfl rfl (by simp only [List.getElem?_toArray, List.getElem?_cons_zero, List.getElem?_cons_succ]; rfl) rfl rfl rfl (by simp only [List.getElem?_toArray, List.getElem?_cons_zero, List.getElem?_cons_succ]; rfl) rfl rfl rfl (by simp only [List.getElem?_toArray, List.getElem?_cons_zero, List.getElem?_cons_succ]; rfl) rfl rfl rfl (by kernel_rfl) (by kernel_rfl) (by kernel_rfl) (by kernel_rfl) (by kernel_rfl) (by kernel_rfl) (by kernel_rfl) (by kernel_rfl) (by kernel_rfl) (by kernel_rfl) (by kernel_rfl) (by kernel_rfl) (by kernel_rfl) (by kernel_rfl) (by kernel_rfl) (by kernel_rfl) (by kernel_rfl) (by kernel_rfl) (by kernel_rfl) (by kernel_rfl) (by kernel_rfl) (by kernel_rfl) (by kernel_rfl) (by kernel_rfl) (by rfl) (fun tm wz h4 hBz => NoPanic.normal ?ep)
            case ep =>
              go_wp2_with fail
              go_ret
              exact ⟨by rw [h4], (HW31.out.to hBz).below⟩
        · obtain rfl : i = j := by omega
          have hil2 : ¬ ((i : Int) < (hs.length : Int)) := by omega
          have HFE := Lib.hid (show (framesOf ((hs.map (·.l)).take i)).length = endOf (hs.map (·.l)) i from by rw [endOf_wholes, List.length_take]; have h1 := endOf_mono (hs.map (·.l)) i (hs.map (·.l)).length (by rw [List.length_map]; omega); rw [← framesOf_len_all] at h1; omega)
          have HJL := Lib.hid (show ((hs.map (·.l)).take i).length = i from by rw [List.length_take, List.length_map]; omega)
          have HJT := Lib.hid (show (hs.map (·.l)).take i = (hs.take i).map (·.l) from by rw [List.map_take])
          have HTJ := Lib.hid (show (hs.take i).length = i from by rw [List.length_take]; omega)
          have HSW := Lib.hid (show ∀ r ∈ (hs.map (·.l)).take i ++ [[109, 111, 114, 101]], r.length ≤ 1000000 from fun r hr => (List.mem_append.1 hr).elim (fun h => Nat.le_trans (HRS.out r (List.mem_of_mem_take h)) (by decide)) (fun h => by rw [List.mem_singleton.1 h]; decide))
          have hsl := cut_toQ Av hs.length cv i (by have := HOWN.out; omega)
          have HWd := Lib.hid (HW21.out.to (Below.refl wr.heap.size wr).drew)
          have HRd := Lib.hid (HR21.out.below (Below.refl wr.heap.size wr).drew)
          have hh8 : hs.length ≤ 8 := by omega
          go_wp2_with fail
          refine wp_region_noPanic ?_
          refine wp_region_held_drew (S := fun _ => True) (by kernel_rfl) ?sq1 (fun hHeld0 => ?rq1)
          case sq1 => trivial
          clear hHeld0
          refine wpAnyH_take (i := 0) (v := ?vq2) (by simp only [List.getElem?_toArray, List.getElem?_cons_zero, List.getElem?_cons_succ]; rfl) (by kernel_rfl) (by kernel_rfl) (by kernel_rfl) (fun _ _ _ h => h) (Or.inl ⟨by rfl, ?hq2⟩) trivial ?qq2
          case hq2 => (intro w hSw; clear hSw; go_simp <;> with_reducible rfl)
          try simp only [Act.put, List.setIfInBounds_toArray, List.set_cons_zero, List.set_cons_succ]
          refine wpAnyH_take (i := 2) (v := ?vq3) (by simp only [List.getElem?_toArray, List.getElem?_cons_zero, List.getElem?_cons_succ]; rfl) (by kernel_rfl) (by kernel_rfl) (by kernel_rfl) (fun _ _ _ h => h) (Or.inl ⟨by rfl, ?hq3⟩) trivial ?qq3
          case hq3 => (intro w hSw; clear hSw; go_simp <;> with_reducible rfl)
          try simp only [Act.put, List.setIfInBounds_toArray, List.set_cons_zero, List.set_cons_succ]
          refine wpAnyH_take (i := 3) (v := ?vq4) (by simp only [List.getElem?_toArray, List.getElem?_cons_zero, List.getElem?_cons_succ]; rfl) (by kernel_rfl) (by kernel_rfl) (by kernel_rfl) (fun _ _ _ h => h) (Or.inl ⟨by rfl, ?hq4⟩) trivial ?qq4
          case hq4 => (intro w hSw; clear hSw; go_simp <;> with_reducible rfl)
          try simp only [Act.put, List.setIfInBounds_toArray, List.set_cons_zero, List.set_cons_succ]
          refine wpAnyH_take (i := 4) (v := ?vq5) (by simp only [List.getElem?_toArray, List.getElem?_cons_zero, List.getElem?_cons_succ]; rfl) (by kernel_rfl) (by kernel_rfl) (by kernel_rfl) (fun _ _ _ h => h) (Or.inl ⟨by rfl, ?hq5⟩) trivial ?qq5
          case hq5 => (intro w hSw; clear hSw; go_simp <;> with_reducible rfl)
          try simp only [Act.put, List.setIfInBounds_toArray, List.set_cons_zero, List.set_cons_succ]
          refine wpAnyH_ready (rs := [1]) (by kernel_rfl) (by simp) ?_
          refine AllReadyH.cons (by simp only [List.getElem?_toArray, List.getElem?_cons_zero, List.getElem?_cons_succ]; rfl) (fun K hK => ?_) AllReadyH.nil
          go_simp
          go_at_call 21
          refine (cal_all w wr.drew bt bl21 _ ((hs.map (·.l)).take i) F21 HWd.out (by rw [HJL.out]; omega) (fun r hr => Nat.le_trans (HRS.out r (List.mem_of_mem_take hr)) (by decide))).mono ?_
          rintro r w32 ⟨v32, rfl, hv32, hB32⟩
          obtain ⟨A32, c32, rfl⟩ := Kd.R_slice hv32
          obtain ⟨g32, hm32, hq32, hi32⟩ := hds_of_rows (Kd.R_reads' hv32).2.2
          rw [HJL.out] at hq32
          rw [HJL.out]
          have hl32 : g32.length = i := by have := congrArg List.length hm32; rw [List.length_map, HJL.out] at this; exact this
          have HQ32 := Lib.hid (show HRow w32 A32 g32.length g32 from by rw [hl32]; exact hq32)
          have HI32 := Lib.hid hi32
          have HM32 := Lib.hid (hm32.trans HJT.out)
          have HL32 := Lib.hid hl32
          have HW32 := Lib.hid (HWd.out.to hB32)
          have HR32 := Lib.hid (HRd.out.below hB32)
          clear hv32 hm32 hq32 hi32 hB32 hl32
          refine hK.out _ _ ?sq6 (fun hHeld => ?qq6)
          case sq6 => trivial
          clear hHeld hK K
          try simp only [Act.put, List.setIfInBounds_toArray, List.set_cons_zero, List.set_cons_succ]
          refine wpAnyH_ready (rs := [5]) (by kernel_rfl) (by simp) ?_
          refine AllReadyH.cons (by simp only [List.getElem?_toArray, List.getElem?_cons_zero, List.getElem?_cons_succ]; rfl) (fun K hK => ?_) AllReadyH.nil
          go_simp
          go_at_call 20
          have hsj := HL32.out
          have htj := HTJ.out
          refine (by have h := same_any A32 Av c32 cv g32 (hs.take i) w32 HQ32.out (row_take HR32.out.row i (by omega)) HI32.out (HdsIn.sub HR32.out.ins (fun y hy => List.mem_of_mem_take hy)); rw [hsj, htj] at h; exact h : Calls Tryd.prog 20 #[.slice A32 i c32, .slice Av i cv] w32 _).mono ?_
          rintro r w35 ⟨rfl, hB35⟩
          rw [decide_eq_true HM32.out]
          have HW35 := Lib.hid (HW32.out.to hB35)
          have HR35 := Lib.hid (HR32.out.below hB35)
          clear hB35 hsj htj
          refine hK.out _ _ ?sq7 (fun hHeld => ?qq7)
          case sq7 => trivial
          clear hHeld hK K
          try simp only [Act.put, List.setIfInBounds_toArray, List.set_cons_zero, List.set_cons_succ]
          refine wpAnyH_take (i := 6) (v := ?vq8) (by simp only [List.getElem?_toArray, List.getElem?_cons_zero, List.getElem?_cons_succ]; rfl) (by kernel_rfl) (by kernel_rfl) (by kernel_rfl) (fun _ _ _ h => h) (Or.inl ⟨by rfl, ?hq8⟩) trivial ?qq8
          case hq8 => (intro w hSw; clear hSw; go_simp <;> with_reducible rfl)
          try simp only [Act.put, List.setIfInBounds_toArray, List.set_cons_zero, List.set_cons_succ]
          refine wpAnyH_take (i := 7) (v := ?vq9) (by simp only [List.getElem?_toArray, List.getElem?_cons_zero, List.getElem?_cons_succ]; rfl) (by kernel_rfl) (by kernel_rfl) (by kernel_rfl) (fun _ _ _ h => h) (Or.inl ⟨by rfl, ?hq9⟩) trivial ?qq9
          case hq9 => (intro w hSw; clear hSw; go_simp <;> with_reducible rfl)
          try simp only [Act.put, List.setIfInBounds_toArray, List.set_cons_zero, List.set_cons_succ]
          refine wpAnyH_take (i := 10) (v := ?vq10) (by simp only [List.getElem?_toArray, List.getElem?_cons_zero, List.getElem?_cons_succ]; rfl) (by kernel_rfl) (by kernel_rfl) (by kernel_rfl) (fun _ _ _ h => h) (Or.inl ⟨by rfl, ?hq10⟩) trivial ?qq10
          case hq10 => (intro w hSw; clear hSw; go_simp <;> with_reducible rfl)
          try simp only [Act.put, List.setIfInBounds_toArray, List.set_cons_zero, List.set_cons_succ]
          refine wpAnyH_ready (rs := [8]) (by kernel_rfl) (by simp) ?_
          refine AllReadyH.cons (by simp only [List.getElem?_toArray, List.getElem?_cons_zero, List.getElem?_cons_succ]; rfl) (fun K hK => ?_) AllReadyH.nil
          go_simp
          go_at_call 22
          refine (wbytes_any w w35 bt bl21 _ _ F21 (framesOf ((hs.map (·.l)).take i)) HW35.out rfl).mono ?_
          rintro r w25 ⟨A25, c25, rfl, _, _, hB25, _⟩
          rw [HFE.out]
          have HW25 := Lib.hid (HW35.out.to hB25)
          have HR25 := Lib.hid (HR35.out.below hB25)
          clear hB25
          refine hK.out _ _ ?sq11 (fun hHeld => ?qq11)
          case sq11 => trivial
          clear hHeld hK K
          try simp only [Act.put, List.setIfInBounds_toArray, List.set_cons_zero, List.set_cons_succ]
          refine wpAnyH_take (i := 9) (v := ?vq12) (by simp only [List.getElem?_toArray, List.getElem?_cons_zero, List.getElem?_cons_succ]; rfl) (by kernel_rfl) (by kernel_rfl) (by kernel_rfl) (fun _ _ _ h => h) (Or.inl ⟨by rfl, ?hq12⟩) trivial ?qq12
          case hq12 => (intro w hSw; clear hSw; go_simp <;> with_reducible rfl)
          try simp only [Act.put, List.setIfInBounds_toArray, List.set_cons_zero, List.set_cons_succ]
          refine wpAnyH_take (i := 11) (v := ?vq13) (by simp only [List.getElem?_toArray, List.getElem?_cons_zero, List.getElem?_cons_succ]; rfl) (by kernel_rfl) (by kernel_rfl) (by kernel_rfl) (fun _ _ _ h => h) (Or.inl ⟨by rfl, ?hq13⟩) trivial ?qq13
          case hq13 => (intro w hSw; clear hSw; go_simp <;> with_reducible rfl)
          try simp only [Act.put, List.setIfInBounds_toArray, List.set_cons_zero, List.set_cons_succ]
          refine wpAnyH_take (i := 12) (v := ?vq14) (by simp only [List.getElem?_toArray, List.getElem?_cons_zero, List.getElem?_cons_succ]; rfl) (by kernel_rfl) (by kernel_rfl) (by kernel_rfl) (fun _ _ _ h => h) (Or.inl ⟨by rfl, ?hq14⟩) trivial ?qq14
          case hq14 => (intro w hSw; clear hSw; go_simp <;> with_reducible rfl)
          try simp only [Act.put, List.setIfInBounds_toArray, List.set_cons_zero, List.set_cons_succ]
          refine wpAnyH_take (i := 13) (v := ?vq15) (by simp only [List.getElem?_toArray, List.getElem?_cons_zero, List.getElem?_cons_succ]; rfl) (by kernel_rfl) (by kernel_rfl) (by kernel_rfl) (fun _ _ _ h => h) (Or.inl ⟨by rfl, ?hq15⟩) trivial ?qq15
          case hq15 => (intro w hSw; clear hSw; go_simp <;> with_reducible rfl)
          try simp only [Act.put, List.setIfInBounds_toArray, List.set_cons_zero, List.set_cons_succ]
          refine wpAnyH_take (i := 14) (v := ?vq16) (by simp only [List.getElem?_toArray, List.getElem?_cons_zero, List.getElem?_cons_succ]; rfl) (by kernel_rfl) (by kernel_rfl) (by kernel_rfl) (fun _ _ _ h => h) (Or.inl ⟨by rfl, ?hq16⟩) trivial ?qq16
          case hq16 => (intro w hSw; clear hSw; go_simp <;> with_reducible rfl)
          try simp only [Act.put, List.setIfInBounds_toArray, List.set_cons_zero, List.set_cons_succ]
          refine wpAnyH_ready (rs := [15]) (by kernel_rfl) (by simp) ?_
          refine AllReadyH.cons (by simp only [List.getElem?_toArray, List.getElem?_cons_zero, List.getElem?_cons_succ]; rfl) (fun K hK => ?_) AllReadyH.nil
          go_simp
          refine hK.out _ _ ?sq17 (fun hHeld => ?qq17)
          case sq17 => trivial
          clear hHeld hK K
          try simp only [Act.put, List.setIfInBounds_toArray, List.set_cons_zero, List.set_cons_succ]
          refine wpAnyH_ready (rs := [16]) (by kernel_rfl) (by simp) ?_
          refine AllReadyH.cons (by simp only [List.getElem?_toArray, List.getElem?_cons_zero, List.getElem?_cons_succ]; rfl) (fun K hK => ?_) AllReadyH.nil
          go_simp
          refine hK.out _ _ ?sq18 (fun hHeld => ?qq18)
          case sq18 => trivial
          clear hHeld hK K
          try simp only [Act.put, List.setIfInBounds_toArray, List.set_cons_zero, List.set_cons_succ]
          refine wpAnyH_ready (rs := [17]) (by kernel_rfl) (by simp) ?_
          refine AllReadyH.cons (by simp only [List.getElem?_toArray, List.getElem?_cons_zero, List.getElem?_cons_succ]; rfl) (fun K hK => ?_) AllReadyH.nil
          go_simp
          go_at_call 18
          refine (cal_append _ _ [109, 111, 114, 101] w _ bt bl21 1048576 o21 ((hs.map (·.l)).take i) _ F21 (HW25.out.to ((Below.refl _ _).alloc (Nat.le_refl _) _)) (by omega) (lit_reads8' w25 5 (4, 5) [109, 111, 114, 101] _ 4 rfl rfl (by decide)) (by decide) (fresh_out HW25.out) (by rw [HJL.out]; omega) (by rw [HFE.out]; simp only [List.length_cons, List.length_nil]; omega)).mono ?_
          rintro r w31 ⟨rfl, F31, hW31, hF31, hK31⟩
          have HW31 := Lib.hid hW31
          have HR31 := Lib.hid ((HR25.out.below ((Below.refl _ _).alloc (Nat.le_refl _) _)).step hK31 hF31)
          have HB31 := Lib.hid (Below.refl w31.heap.size w31)
          clear hW31 hF31 hK31
          refine hK.out _ _ ?sq19 (fun hHeld => ?qq19)
          case sq19 => trivial
          clear hHeld hK K
          try simp only [Act.put, List.setIfInBounds_toArray, List.set_cons_zero, List.set_cons_succ]
          refine wpAnyH_take (i := 18) (v := ?vq20) (by simp only [List.getElem?_toArray, List.getElem?_cons_zero, List.getElem?_cons_succ]; rfl) (by kernel_rfl) (by kernel_rfl) (by kernel_rfl) (fun _ _ _ h => h) (Or.inl ⟨by rfl, ?hq20⟩) trivial ?qq20
          case hq20 => (intro w hSw; clear hSw; go_simp <;> with_reducible rfl)
          try simp only [Act.put, List.setIfInBounds_toArray, List.set_cons_zero, List.set_cons_succ]
          refine wpAnyH_take (i := 19) (v := ?vq21) (by simp only [List.getElem?_toArray, List.getElem?_cons_zero, List.getElem?_cons_succ]; rfl) (by kernel_rfl) (by kernel_rfl) (by kernel_rfl) (fun _ _ _ h => h) (Or.inl ⟨by rfl, ?hq21⟩) trivial ?qq21
          case hq21 => (intro w hSw; clear hSw; go_simp <;> with_reducible rfl)
          try simp only [Act.put, List.setIfInBounds_toArray, List.set_cons_zero, List.set_cons_succ]
          refine wpAnyH_take (i := 20) (v := ?vq22) (by simp only [List.getElem?_toArray, List.getElem?_cons_zero, List.getElem?_cons_succ]; rfl) (by kernel_rfl) (by kernel_rfl) (by kernel_rfl) (fun _ _ _ h => h) (Or.inl ⟨by rfl, ?hq22⟩) trivial ?qq22
          case hq22 => (intro w hSw; clear hSw; go_simp <;> with_reducible rfl)
          try simp only [Act.put, List.setIfInBounds_toArray, List.set_cons_zero, List.set_cons_succ]
          refine wpAnyH_take (i := 21) (v := ?vq23) (by simp only [List.getElem?_toArray, List.getElem?_cons_zero, List.getElem?_cons_succ]; rfl) (by kernel_rfl) (by kernel_rfl) (by kernel_rfl) (fun _ _ _ h => h) (Or.inl ⟨by rfl, ?hq23⟩) trivial ?qq23
          case hq23 => (intro w hSw; clear hSw; go_simp <;> with_reducible rfl)
          try simp only [Act.put, List.setIfInBounds_toArray, List.set_cons_zero, List.set_cons_succ]
          refine wpAnyH_take (i := 24) (v := ?vq24) (by simp only [List.getElem?_toArray, List.getElem?_cons_zero, List.getElem?_cons_succ]; rfl) (by kernel_rfl) (by kernel_rfl) (by kernel_rfl) (fun _ _ _ h => h) (Or.inl ⟨by rfl, ?hq24⟩) trivial ?qq24
          case hq24 => (intro w hSw; clear hSw; go_simp <;> with_reducible rfl)
          try simp only [Act.put, List.setIfInBounds_toArray, List.set_cons_zero, List.set_cons_succ]
          refine wpAnyH_take (i := 25) (v := ?vq25) (by simp only [List.getElem?_toArray, List.getElem?_cons_zero, List.getElem?_cons_succ]; rfl) (by kernel_rfl) (by kernel_rfl) (by kernel_rfl) (fun _ _ _ h => h) (Or.inl ⟨by rfl, ?hq25⟩) trivial ?qq25
          case hq25 => (intro w hSw; clear hSw; go_simp <;> with_reducible rfl)
          try simp only [Act.put, List.setIfInBounds_toArray, List.set_cons_zero, List.set_cons_succ]
          refine wpAnyH_take (i := 26) (v := ?vq26) (by simp only [List.getElem?_toArray, List.getElem?_cons_zero, List.getElem?_cons_succ]; rfl) (by kernel_rfl) (by kernel_rfl) (by kernel_rfl) (fun _ _ _ h => h) (Or.inl ⟨by rfl, ?hq26⟩) trivial ?qq26
          case hq26 => (intro w hSw; clear hSw; go_simp <;> with_reducible rfl)
          try simp only [Act.put, List.setIfInBounds_toArray, List.set_cons_zero, List.set_cons_succ]
          have hE : EEnv w w31 bt bl21 _ F31 Av hs i ((hs.map (·.l)).take i ++ [[109, 111, 114, 101]]) := ⟨HW31.out, HR31.out, by omega, hh8, by rw [HJT.out]; rfl, HSW.out⟩
          refine echo_tail hE ⟨⟨rfl, rfl, Below.refl _ _, rfl, rfl, rfl⟩, fun _ => False, (fun _ h => h.elim), (fun _ h => h), trivial⟩ (by simp only [List.getElem?_toArray, List.getElem?_cons_zero, List.getElem?_cons_succ]; rfl) rfl (by simp only [List.getElem?_toArray, List.getElem?_cons_zero, List.getElem?_cons_succ]; rfl) rfl rfl rfl (by simp only [List.getElem?_toArray, List.getElem?_cons_zero, List.getElem?_cons_succ]; rfl) rfl rfl rfl (by simp only [List.getElem?_toArray, List.getElem?_cons_zero, List.getElem?_cons_succ]; rfl) rfl rfl rfl (by simp only [List.getElem?_toArray, List.getElem?_cons_zero, List.getElem?_cons_succ]; rfl) rfl rfl rfl (by simp only [List.getElem?_toArray, List.getElem?_cons_zero, List.getElem?_cons_succ]; rfl) rfl rfl rfl (by simp only [List.getElem?_toArray, List.getElem?_cons_zero, List.getElem?_cons_succ]; rfl) rfl rfl rfl (by simp only [List.getElem?_toArray, List.getElem?_cons_zero, List.getElem?_cons_succ]; rfl) rfl rfl rfl (by simp only [List.getElem?_toArray, List.getElem?_cons_zero, List.getElem?_cons_succ]; rfl) rfl rfl rfl (by simp only [List.getElem?_toArray, List.getElem?_cons_zero, List.getElem?_cons_succ]; rfl) rfl rfl rfl (by simp only [List.getElem?_toArray, List.getElem?_cons_zero, List.getElem?_cons_succ]; rfl) rfl rfl rfl (by kernel_rfl) (by kernel_rfl) (by kernel_rfl) (by kernel_rfl) (by kernel_rfl) (by kernel_rfl) (by kernel_rfl) (by kernel_rfl) (by kernel_rfl) (by kernel_rfl) (by kernel_rfl) (by kernel_rfl) (by kernel_rfl) (by kernel_rfl) (by kernel_rfl) (by kernel_rfl) (by kernel_rfl) (by kernel_rfl) (by kernel_rfl) (by kernel_rfl) (by kernel_rfl) (by kernel_rfl) (by kernel_rfl) (by kernel_rfl) (by rfl) (fun tm wz h4 hBz => NoPanic.normal ?eq)
          case eq =>
            go_wp2_with fail
            go_ret
            exact ⟨by rw [h4], (HW31.out.to hBz).below⟩
theorem echo_row (A0 : Option Addr) (c0 : Nat) (x0 : List (List UInt8)) (keep : Int) (w : World) (hg0 : Laid w) (hr0 : rowsK.C w A0 x0.length x0) (h : x0.length ≤ c0) (_ : (Lit.int .i64 keep).wf = true) :
    Calls Tryd.prog 3 #[.slice A0 x0.length c0, .int .i64 keep] w fun e w' => e = .returned (.bool true) ∧ Below w.heap.size w w' := echo_any A0 c0 x0 keep w hg0 hr0 h
end Go.Proofs.YtfnnjgbldojigaaDoor
