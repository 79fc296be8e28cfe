/- The walk of WireFrames. -/
import Derived.Test.YtkdlghbfplhkpaaFramesP
import Derived.Test.YtkdlghbfplhkpaaLawW
import Derived.Test.YtkdlghbfplhkpaaRefW
import Derived.Test.YtkdlghbfplhkpaaOpen
set_option linter.unusedVariables false
set_option linter.unusedSimpArgs false
namespace Go.Proofs.Ytkdlghbfplhkpaa
open Go.RowKit Go.Proofs.YtkdlghbfplhkpaaW.PrintWords
open Go.Proofs.Mine.Crc

def strB (l : List UInt8) : ByteArray := ⟨l.toArray⟩
theorem conv_str {w : World} {A : Option Addr} {n c : Nat} {l : List UInt8} (h : ReadsOf b8 0 w A n l) : (convert 24 9 (.slice A n c)).run Try.prog w = .ok (.string (strB l)) w := by
  have hI : ReadsInt w .u8 A n (l.map fun x => (x.toNat : Int)) := by
    refine ⟨by simpa using h.1, h.2.1, fun hp => ?_⟩
    obtain ⟨ad, ha, hc⟩ := h.2.2 hp
    refine ⟨ad, ha, fun j hj => ?_⟩
    have hjl : j < l.length := by rw [h.1]; exact hj
    rw [hc j hj]
    simp [List.getD_eq_getElem?_getD, hjl]
  rw [string_of_reads Try.underlying24 Try.underlying5 Try.underlying9 hI]
  congr 2
  simp [strOfNums, strB, List.map_map, Function.comp_def]
theorem Try.info3 : (Try.prog.info? 3).map (fun i => (i.zero, i.size, i.bytes)) = some (some (.int .i64 0), 1, 8) := by kernel_rfl

/-- The numbers behind each of the first k frames. -/
def endsOf (rs : List (List UInt8)) (k : Nat) : List Int := (List.range k).map fun j => (endOf rs (j + 1) : Int)
theorem endsOf_succ (rs : List (List UInt8)) (k : Nat) : endsOf rs (k + 1) = endsOf rs k ++ [(endOf rs (k + 1) : Int)] := by simp [endsOf, List.range_succ]
theorem endsOf_length (rs : List (List UInt8)) (k : Nat) : (endsOf rs k).length = k := by simp [endsOf]
theorem endsOf_get (rs : List (List UInt8)) (k j : Nat) (h : j < k) : rd (endsOf rs k) j = (endOf rs (j + 1) : Int) := by
  unfold rd endsOf
  simp [h]
theorem framesOf_succ (rs : List (List UInt8)) (k : Nat) (h : k < rs.length) : framesOf (rs.take (k + 1)) = framesOf (rs.take k) ++ frameOf (rs.getD k []) := by
  unfold framesOf
  rw [List.take_succ_eq_append_getElem h, List.flatMap_append]
  simp [List.getD_eq_getElem?_getD, h]
theorem endOf_succ (rs : List (List UInt8)) (k : Nat) (h : k < rs.length) : endOf rs (k + 1) = endOf rs k + ((rs.getD k []).length + 8) := by
  unfold endOf
  rw [List.take_succ_eq_append_getElem h, List.map_append, List.sum_append]
  simp [List.getD_eq_getElem?_getD, h]
theorem endOf_take (rs : List (List UInt8)) (n k : Nat) (h : k ≤ n) : endOf (rs.take n) k = endOf rs k := by
  unfold endOf; rw [List.take_take, Nat.min_eq_left h]

theorem framesOf_len (rs : List (List UInt8)) (k : Nat) (h : k ≤ rs.length) : (framesOf (rs.take k)).length = endOf rs k := by
  rw [endOf_all, List.length_take, Nat.min_eq_left h, endOf_take rs k k (Nat.le_refl _)]
theorem framesOf_le (rs : List (List UInt8)) (k : Nat) (h : k ≤ rs.length) (hs : ∀ j, j < k → (rs.getD j []).length ≤ 300) : (framesOf (rs.take k)).length ≤ 308 * k := by
  rw [framesOf_len rs k h]
  induction k with
  | zero => simp [endOf_zero]
  | succ k ih =>
    rw [endOf_succ rs k (by omega)]
    have := hs k (by omega)
    have := ih (by omega) (fun j hj => hs j (by omega))
    omega
theorem row_at {w : World} {A : Option Addr} {n : Nat} {xs : List (List UInt8)} (h : rowsK.C w A n xs) (m : Nat) (hm : m < n) :
    ∃ ad al, A = some ad ∧ (∃ cl, w.cell? (ad.add m) = some (.slice al (xs.getD m []).length cl)) ∧ ReadsOf b8 0 w al (xs.getD m []).length (xs.getD m []) := by
  obtain ⟨ad, cs, hA, hcl, hK, hcell⟩ := Kd.C_get h [] (m : Int) (by omega) (by omega)
  obtain ⟨Ar, cr, hcs, hlr, hCr⟩ := hK
  rw [Int.toNat_natCast] at hcs hlr hCr hcell
  refine ⟨ad, Ar, hA, ⟨cr, ?_⟩, Kd.reads_of_C (enc := b8) (d := (0 : UInt8)) (h1 := fun _ => rfl) hCr⟩
  have := hcell 0 (.slice Ar (xs.getD m []).length cr) (by rw [hcs]; rfl)
  simpa [Kd.slice] using this
theorem take_take_getD (rs : List (List UInt8)) (q k m : Nat) (h1 : m < q) (h2 : m < k) : ((rs.take k).take q).getD m [] = rs.getD m [] := by
  simp [List.getD_eq_getElem?_getD, List.getElem?_take, h1, h2]
set_option maxRecDepth 100000 in
set_option maxHeartbeats 1000000 in
theorem frames_any (A : Option Addr) (cap : Nat) (rs : List (List UInt8)) (cut : Int) (w : World) (hr : rowsK.C w A rs.length rs) :
    Calls Try.prog 3 #[.slice A rs.length cap, .int .i64 cut] w fun e w' => e = .returned (.bool true) ∧ Below w.heap.size w w' := by
  have hmx : rs.length ≤ 9223372036854775807 := hr.2.1
  have HR := Lib.hid hr
  clear hr
  go_enter Try.func3, Try.ntmps3
  go_wp2_with (go_at_call 6; refine (known_any _).mono ?_; rintro e w1 ⟨rfl, hB⟩; have HB1 := Lib.hid hB; clear hB)
  go_loopw [5, 6, 7] (fun v5 v6 i wr => ∃ k : Nat, k ≤ rs.length ∧ k ≤ 12 ∧ i = .int .i64 k ∧ RowKit.Hid (∀ j, j < k → (rs.getD j []).length ≤ 300) ∧ RowKit.Hid (Own wr w.heap.size v5 (framesOf (rs.take k)))
      ∧ RowKit.Hid (wr.ownsRow w.heap.size 3 1 v6 (endsOf rs k).length (nums .i64 (endsOf rs k))) ∧ RowKit.Hid (Below w.heap.size w wr)) (fun _ _ i _ => rs.length - (intOf i).toNat)
  case atStart => exact ⟨0, by omega, by omega, rfl, fun j hj => by omega, own_nil _ _ _ _, own_nil _ _ _ _, HB1.out⟩
  case round =>
    obtain ⟨k, hk, hk12, rfl, HS, HO5, HO6, HB⟩ := hrel
    by_cases hlt : k < rs.length ∧ k < 12
    · obtain ⟨hlt, hlt12⟩ := hlt
      obtain ⟨ad, cs, hA, hcl, hK, hcell⟩ := Kd.C_get HR.out [] (k : Int) (by omega) (by omega)
      obtain ⟨Ar, cr, hcs, hlr, hCr⟩ := hK
      rw [Int.toNat_natCast] at hcs hlr hCr hcell
      subst hA
      have hc0 : w.cell? (ad.add k) = some (.slice Ar (rs.getD k []).length cr) := by
        have := hcell 0 (.slice Ar (rs.getD k []).length cr) (by rw [hcs]; rfl)
        simpa [Kd.slice] using this
      have hc1 := pw_cell_below HB.out hc0
      have HCR := Lib.hid (Kd.reads_of_C (enc := b8) (d := (0 : UInt8)) (h1 := fun _ => rfl) hCr)
      have HF := Lib.hid (framesOf_succ rs k hlt)
      have HE := Lib.hid (endOf_succ rs k hlt)
      have HBE : RowKit.Hid ((framesOf (rs.take k)).length = endOf rs k) := framesOf_len rs k hk
      have HBL : RowKit.Hid ((framesOf (rs.take k)).length ≤ 308 * k) := framesOf_le rs k hk HS.out
      obtain ⟨r, hr0⟩ : ∃ r, rs.getD k [] = r := ⟨_, rfl⟩
      rw [hr0] at hc1 HCR HF HE
      have HR0 := Lib.hid hr0
      clear hcl hcell hcs hlr hCr hc0 hr0
      by_cases h300 : 300 < r.length
      · go_wp2
        go_ret
        exact ⟨rfl, HB.out⟩
      · go_wp2_with fail
        refine (frame_any Ar cr r wr (HCR.out.below HB.out) (by omega)).mono ?_
        rintro e w2 ⟨vf, rfl, hOf, hB2⟩
        obtain ⟨Af, cf, rfl⟩ := own_slice hOf
        have hc2 := pw_cell_below hB2 hc1
        have HB2 := Lib.hid (HB.out.trans (hB2.mono HB.out.size))
        have HO52 := Lib.hid (pw_own_below HO5.out hB2)
        have HO62 := Lib.hid (pw_own_below HO6.out hB2)
        have HOF := Lib.hid hOf
        clear hOf hB2 hc1 HO5 HO6 HB HB1
        go_wp2_with fail
        refine (rframe_any Ar cr r w2 (HCR.out.below HB2.out) (by omega)).mono ?_
        rintro e w3 ⟨vg, rfl, hOg, hB3⟩
        obtain ⟨Ag, cg, rfl⟩ := own_slice hOg
        have HB3 := Lib.hid (HB2.out.trans (hB3.mono HB2.out.size))
        have HO53 := Lib.hid (pw_own_below HO52.out hB3)
        have HO63 := Lib.hid (pw_own_below HO62.out hB3)
        have hOf3 := pw_own_below HOF.out hB3
        obtain ⟨A1, c1, he1, hrf⟩ := own_reads_of (d := 0) hOf3
        obtain ⟨rfl, rfl⟩ : Af = A1 ∧ cf = c1 := by injection he1 with h1 h2 h3; exact ⟨h1, h3⟩
        obtain ⟨A2, c2, he2, hrg⟩ := own_reads_of (d := 0) hOg
        obtain ⟨rfl, rfl⟩ : Ag = A2 ∧ cg = c2 := by injection he2 with h1 h2 h3; exact ⟨h1, h3⟩
        have hcf : (convert 24 9 (.slice Af (frameOf r).length cf)).run Try.prog w3 = .ok (.string (strB (frameOf r))) w3 := conv_str hrf
        have hcg : (convert 24 9 (.slice Ag (frameOf r).length cg)).run Try.prog w3 = .ok (.string (strB (frameOf r))) w3 := conv_str hrg
        have HRF := Lib.hid hrf
        have HFL := Lib.hid (frameOf_length r)
        generalize frameOf r = fr at *
        clear hOg hB3 HO52 HO62 HB2 HOF hOf3 he1 he2 hrf hrg hc2
        go_wp2_with (at_builtin; refine print_append_row_of (w0 := w) b8 0 w.heap.size rfl _ _ 24 5 (.int .u8 0) 1 rfl Try.underlying24 Try.info5 rfl (by decide) b8_one u5 (framesOf (rs.take k)) fr Af _ cf rfl rfl ?d1 ?d2 ?d3 ?d4 ?d5 ?d6)
        case d1 => exact HO53.out
        case d2 => exact HRF.out
        case d3 => exact HB3.out
        case d4 => exact HB3.out.size
        case d5 => have := HFL.out; have := HBL.out; omega
        case d6 =>
          intro v7 w7 hown7 hB7 hg7 _
          have hown6 := own_other HO63.out hg7 (own_type_ne HO63.out HO53.out (by decide))
          have K6 := Lib.hid hown6
          rw [← List.length_append] at hown7
          obtain ⟨A7, c7, rfl⟩ := own_slice hown7
          have hlen7 : (framesOf (rs.take k) ++ fr).length = endOf rs (k + 1) := by rw [List.length_append, HFL.out, HE.out, HBE.out]
          rw [hlen7] at hown7
          have K7 := Lib.hid hown7
          have KB7 := Lib.hid hB7
          have HL7 := Lib.hid hlen7
          rw [hlen7]
          clear hown7 hB7 hg7 hown6 HO63 HO53 HB3 hlen7 HRF hcf hcg
          go_wp2_with (at_builtin; refine print_append_num (w0 := w) w.heap.size rfl _ _ 25 3 .i64 8 rfl Try.underlying25 Try.info3 (by decide) u6 (endsOf rs k) (endOf rs (k + 1) : Int) rfl rfl ?e1 ?e2 ?e3 ?e4 ?e5)
          case e1 => exact K6.out
          case e2 => exact KB7.out
          case e3 => exact KB7.out.size
          case e4 => rw [endsOf_length]; omega
          case e5 =>
            intro v8 w8 hown8 hB8 hg8 _
            have hown57 := own_other K7.out hg8 (own_type_ne K7.out K6.out (by decide))
            have L5 := Lib.hid hown57
            have L6 := Lib.hid hown8
            have LB := Lib.hid hB8
            clear hown57 hown8 hB8 hg8
            go_wp2
            go_roundw
            case rel =>
              refine ⟨k + 1, by omega, by omega, by go_num, ?_, ?_, ?_, LB.out⟩
              · intro j hj
                by_cases h : j = k
                · subst h; rw [HR0.out]; omega
                · exact HS.out j (by omega)
              · rw [HF.out]; unfold RowKit.Hid Own; rw [HL7.out]; exact L5.out
              · rw [endsOf_succ]; unfold RowKit.Hid; simpa using L6.out
            case measure => simp [intOf]; omega
    · have hl := framesOf_len rs k hk
      have hle := framesOf_le rs k hk HS.out
      obtain ⟨rk, hrk⟩ : ∃ q, rs.take k = q := ⟨_, rfl⟩
      have hrkl : rk.length = k := by rw [← hrk, List.length_take]; omega
      have hall : ∀ r ∈ rk, r.length ≤ 65536 := by
        intro r hr
        rw [← hrk] at hr
        obtain ⟨j, hj, he⟩ := List.mem_iff_getElem.1 hr
        have hj1 : j < k := by rw [List.length_take] at hj; omega
        have := HS.out j hj1
        rw [List.getElem_take] at he
        have h2 : rs.getD j [] = rs[j]'(by omega) := by simp [List.getD_eq_getElem?_getD, show j < rs.length by omega]
        rw [h2, he] at this
        omega
      have hends : endsOf rs k = endsOf rk k := by
        unfold endsOf
        apply List.map_congr_left
        intro j hj
        have := List.mem_range.1 hj
        rw [← hrk, endOf_take rs k (j + 1) (by omega)]
      have hO5 := HO5.out
      have hO6 := HO6.out
      rw [hrk] at hO5 hl hle
      rw [hends] at hO6
      obtain ⟨A5, c5, rfl⟩ := own_slice hO5
      obtain ⟨A6, c6, rfl⟩ := own_slice hO6
      have hcle := own_le hO5
      obtain ⟨A5', c5', he5, hr5⟩ := own_reads_of (d := 0) hO5
      obtain ⟨rfl, rfl⟩ : A5 = A5' ∧ c5 = c5' := by injection he5 with h1 h2 h3; exact ⟨h1, h3⟩
      obtain ⟨A6', c6', he6, hr6⟩ := own_reads hO6
      obtain ⟨rfl, rfl⟩ : A6 = A6' ∧ c6 = c6' := by injection he6 with h1 h2 h3; exact ⟨h1, h3⟩
      clear he5 he6
      rw [endsOf_length] at hr6 hO6
      obtain ⟨fs, hfs⟩ : ∃ q, framesOf rk = q := ⟨_, rfl⟩
      rw [hfs] at hr5 hcle hl hle
      obtain ⟨es, hes⟩ : ∃ q, endsOf rk k = q := ⟨_, rfl⟩
      rw [hes] at hr6
      have HFS := Lib.hid hfs
      have HES := Lib.hid hes
      rw [endsOf_length, hfs]
      obtain ⟨i5, hi5, hs5⟩ := Try.info5'
      obtain ⟨c, hc⟩ := Int.eq_ofNat_of_zero_le (Int.emod_nonneg cut (show ((fs.length : Int) + 1) ≠ 0 by omega))
      have hc2 := Int.emod_lt_of_pos cut (show 0 < (fs.length : Int) + 1 by omega)
      rw [hc] at hc2
      obtain ⟨hsl, hrsl, hcsl⟩ := print_take_of (P := Try.prog) b8 0 24 5 .i64 Try.underlying24 hi5 hs5 A5 c5 fs (c : Int) (by omega) (by omega) hcle
      rw [Int.toNat_natCast] at hsl hrsl hcsl
      have HCL : RowKit.Hid ((fs.take c).length = c) := by unfold RowKit.Hid; rw [List.length_take]; omega
      have hsp := split_any A5 c5 (fs.take c) wr (hrsl wr hr5) hcsl (by have := HCL.out; omega)
      have hspl := split_frames rk c ((fs.take c).length + 1) hall (by rw [HCL.out]; have := wholeOf_bytes rk c; omega)
      rw [HFS.out] at hspl
      rw [hspl, show splitE (rk.take (wholeOf rk c), endOf rk (wholeOf rk c), 1).2.2 = 0 from rfl] at hsp
      have HSP := Lib.hid hsp
      have HC := Lib.hid hc
      have HR5 := Lib.hid hr5
      have HR6 := Lib.hid hr6
      have HRK := Lib.hid hrk
      have hq1 := wholeOf_le rk c
      have hq2 := wholeOf_end rk c
      have hq3 := wholeOf_next rk c
      have hq4 := endOf_mono rk
      rw [hrkl] at hq1 hq3
      generalize fs.take c = ft at *
      generalize hq : wholeOf rk c = q at *
      have HQ3 := Lib.hid hq3
      have HQ4 := Lib.hid hq4
      have HQ2 := Lib.hid hq2
      have HLT := Lib.hid hlt
      have HEL : RowKit.Hid (∀ j, j < k → rd es j = (endOf rk (j + 1) : Int)) := by intro j hj; rw [← HES.out]; exact endsOf_get rk k j hj
      clear hc hr5 hr6 hO5 hO6 hspl hsp hrsl hq3 hq4 hq2 hi5 hs5 hends hall hcle hl hfs hes hrk hcsl hlt hq HO5 HO6 HB1
      have hor : (¬ k < rs.length) ∨ (k < rs.length ∧ ¬ k < 12) := by have := HLT.out; omega
      rcases hor with hor | ⟨hor, hor2⟩
      all_goals go_wp2_with (first
        | (go_at_call 9; refine (within_any cut _ _ (by omega) (by omega)).mono ?_; rintro e w3 ⟨rfl, rfl⟩; rw [HC.out])
        | (go_at_call 10; refine HSP.out.mono ?_; rintro e w9 ⟨v9, rfl, hR9, hB9⟩))
      all_goals
        obtain ⟨A9, c9, rfl, hl9, hC9⟩ := Kd.R_reads hR9
        have hq9 : (rk.take q).length = q := by rw [List.length_take]; omega
        rw [hq9] at hC9
        rw [hq9]
        have HC9 := Lib.hid hC9
        have HB9 := Lib.hid hB9
        have HR69 := Lib.hid (ReadsInt.below HR6.out hB9)
        clear hR9 hB9 hC9 hl9 hq9
        go_loop [15] (fun i => ∃ j : Nat, j ≤ q ∧ i = .int .i64 j) (fun i => q - (intOf i).toNat)
        case atStart => exact ⟨0, by omega, rfl⟩
        case round =>
          obtain ⟨j, hj, rfl⟩ := hrel
          by_cases hjq : j < q
          · obtain ⟨ad6, e6, hc6⟩ := ReadsInt.at_ HR69.out (j : Int) (by omega) (by omega)
            rw [Int.toNat_natCast] at hc6
            have hel := HEL.out j (by omega)
            have hm := HQ4.out (j + 1) q (by omega)
            have hm2 := HQ2.out
            have hle6 : decide (endOf rk (j + 1) ≤ c) = true := decide_eq_true (by omega)
            have hle7 : endOf rk (j + 1) ≤ c := by omega
            rw [hel] at hc6
            subst e6
            clear hel hm hm2
            go_wp2
            go_round
            case rel => exact ⟨j + 1, by omega, by go_num⟩
            case measure => simp [intOf]; omega
          · obtain rfl : j = q := by omega
            have hcellj : j < k → ∃ (ad6 : Addr) (ej : Nat), A6 = some ad6 ∧ w9.cell? (ad6.add j) = some (.int .i64 (ej : Int)) ∧ c < ej := by
              intro hjk
              obtain ⟨ad6, e6, hc6⟩ := ReadsInt.at_ HR69.out (j : Int) (by omega) (by omega)
              rw [Int.toNat_natCast, HEL.out j hjk] at hc6
              have hn := HQ3.out hjk
              exact ⟨ad6, _, e6, hc6, hn⟩
            have HCJ := Lib.hid hcellj
            clear hcellj
            by_cases hj0 : j = 0
            · subst hj0
              rw [endOf_zero] at *
              by_cases hjk : 0 < k
              · obtain ⟨ad6, ej, rfl, hc6, hd6⟩ := HCJ.out hjk
                rw [show ad6.add 0 = ad6 from by simp [Addr.add]] at hc6
                go_wp2_with fail
                go_loopw [16] (fun i wr3 => ∃ m : Nat, m ≤ 0 ∧ i = .int .i64 m ∧ RowKit.Hid (Below w9.heap.size w9 wr3)) (fun i _ => 0 - (intOf i).toNat)
                case atStart => exact ⟨0, by omega, rfl, Below.refl _ _⟩
                case round =>
                  obtain ⟨m, hm, rfl, HB3⟩ := hrel
                  by_cases hmq : m < 0
                  · exact absurd hmq (by omega)
                  · obtain rfl : m = 0 := by omega
                    go_wp2
                    go_ret
                    exact ⟨rfl, HB.out.trans (((HB9.out.mono HB.out.size)).trans (HB3.out.mono (Nat.le_trans HB.out.size HB9.out.size)))⟩
              · go_wp2_with fail
                go_loopw [16] (fun i wr3 => ∃ m : Nat, m ≤ 0 ∧ i = .int .i64 m ∧ RowKit.Hid (Below w9.heap.size w9 wr3)) (fun i _ => 0 - (intOf i).toNat)
                case atStart => exact ⟨0, by omega, rfl, Below.refl _ _⟩
                case round =>
                  obtain ⟨m, hm, rfl, HB3⟩ := hrel
                  by_cases hmq : m < 0
                  · exact absurd hmq (by omega)
                  · obtain rfl : m = 0 := by omega
                    go_wp2
                    go_ret
                    exact ⟨rfl, HB.out.trans (((HB9.out.mono HB.out.size)).trans (HB3.out.mono (Nat.le_trans HB.out.size HB9.out.size)))⟩
            · obtain ⟨p, rfl⟩ : ∃ p, j = p + 1 := ⟨j - 1, by omega⟩
              obtain ⟨ad6, rfl, hc6⟩ := ReadsInt.at_ HR69.out (p : Int) (by omega) (by omega)
              rw [Int.toNat_natCast, HEL.out p (by omega)] at hc6
              by_cases hjk : p + 1 < k
              · obtain ⟨ad7, ej, e7, hc7, hd7⟩ := HCJ.out hjk
                obtain rfl : ad6 = ad7 := by injection e7
                have hc8 : w9.cell? ⟨ad6.block, ad6.off + (p + 1), none⟩ = some (.int .i64 (ej : Int)) := by simpa [Addr.add] using hc7
                clear hc7
                go_wp2_with fail
                go_loopw [16] (fun i wr3 => ∃ m : Nat, m ≤ (p + 1) ∧ i = .int .i64 m ∧ RowKit.Hid (Below w9.heap.size w9 wr3)) (fun i _ => (p + 1) - (intOf i).toNat)
                case atStart => exact ⟨0, by omega, rfl, Below.refl _ _⟩
                case round =>
                  obtain ⟨m, hm, rfl, HB3⟩ := hrel
                  by_cases hmq : m < (p + 1)
                  · obtain ⟨adl, al, hAl, hkl, hvl⟩ := row_at HC9.out m (by omega)
                    obtain ⟨adr, ar, hAr, hkr, hvr⟩ := row_at HR.out m (by omega)
                    have hsame : (rk.take (p + 1)).getD m [] = rs.getD m [] := by rw [← HRK.out]; exact take_take_getD rs (p + 1) k m hmq (by omega)
                    rw [hsame] at hkl hvl
                    obtain ⟨cl, hkl⟩ := hkl
                    obtain ⟨cr, hkr⟩ := hkr
                    have hll := pw_cell_below HB3.out hkl
                    have hrr := pw_cell_below (HB.out.trans (((HB9.out.mono HB.out.size)).trans (HB3.out.mono (Nat.le_trans HB.out.size HB9.out.size)))) hkr
                    have hvl3 := ReadsOf.below hvl HB3.out
                    have hvr3 := ReadsOf.below hvr (HB.out.trans (((HB9.out.mono HB.out.size)).trans (HB3.out.mono (Nat.le_trans HB.out.size HB9.out.size))))
                    have hcl : ∀ nq, (convert 24 9 (.slice al (rs.getD m []).length cl)).run Try.prog (wr.drewN nq) = .ok (.string (strB (rs.getD m []))) (wr.drewN nq) := fun nq => conv_str (w := wr.drewN nq) hvl3
                    have hcr : ∀ nq, (convert 24 9 (.slice ar (rs.getD m []).length cr)).run Try.prog (wr.drewN nq) = .ok (.string (strB (rs.getD m []))) (wr.drewN nq) := fun nq => conv_str (w := wr.drewN nq) hvr3
                    generalize rs.getD m [] = row at *
                    subst hAl hAr
                    clear hkl hkr hvl hvr hvl3 hvr3 hsame
                    go_wp2
                    go_quiet (fail)
                    go_wp2
                    go_roundw
                    case rel => exact ⟨m + 1, by omega, by go_num, pw_below_drewN HB3.out _⟩
                    case measure => simp [intOf]; omega
                  · obtain rfl : m = (p + 1) := by omega
                    go_wp2
                    go_ret
                    exact ⟨rfl, HB.out.trans (((HB9.out.mono HB.out.size)).trans (HB3.out.mono (Nat.le_trans HB.out.size HB9.out.size)))⟩
              · go_wp2_with fail
                go_loopw [16] (fun i wr3 => ∃ m : Nat, m ≤ (p + 1) ∧ i = .int .i64 m ∧ RowKit.Hid (Below w9.heap.size w9 wr3)) (fun i _ => (p + 1) - (intOf i).toNat)
                case atStart => exact ⟨0, by omega, rfl, Below.refl _ _⟩
                case round =>
                  obtain ⟨m, hm, rfl, HB3⟩ := hrel
                  by_cases hmq : m < (p + 1)
                  · obtain ⟨adl, al, hAl, hkl, hvl⟩ := row_at HC9.out m (by omega)
                    obtain ⟨adr, ar, hAr, hkr, hvr⟩ := row_at HR.out m (by omega)
                    have hsame : (rk.take (p + 1)).getD m [] = rs.getD m [] := by rw [← HRK.out]; exact take_take_getD rs (p + 1) k m hmq (by omega)
                    rw [hsame] at hkl hvl
                    obtain ⟨cl, hkl⟩ := hkl
                    obtain ⟨cr, hkr⟩ := hkr
                    have hll := pw_cell_below HB3.out hkl
                    have hrr := pw_cell_below (HB.out.trans (((HB9.out.mono HB.out.size)).trans (HB3.out.mono (Nat.le_trans HB.out.size HB9.out.size)))) hkr
                    have hvl3 := ReadsOf.below hvl HB3.out
                    have hvr3 := ReadsOf.below hvr (HB.out.trans (((HB9.out.mono HB.out.size)).trans (HB3.out.mono (Nat.le_trans HB.out.size HB9.out.size))))
                    have hcl : ∀ nq, (convert 24 9 (.slice al (rs.getD m []).length cl)).run Try.prog (wr.drewN nq) = .ok (.string (strB (rs.getD m []))) (wr.drewN nq) := fun nq => conv_str (w := wr.drewN nq) hvl3
                    have hcr : ∀ nq, (convert 24 9 (.slice ar (rs.getD m []).length cr)).run Try.prog (wr.drewN nq) = .ok (.string (strB (rs.getD m []))) (wr.drewN nq) := fun nq => conv_str (w := wr.drewN nq) hvr3
                    generalize rs.getD m [] = row at *
                    subst hAl hAr
                    clear hkl hkr hvl hvr hvl3 hvr3 hsame
                    go_wp2
                    go_quiet (fail)
                    go_wp2
                    go_roundw
                    case rel => exact ⟨m + 1, by omega, by go_num, pw_below_drewN HB3.out _⟩
                    case measure => simp [intOf]; omega
                  · obtain rfl : m = (p + 1) := by omega
                    go_wp2
                    go_ret
                    exact ⟨rfl, HB.out.trans (((HB9.out.mono HB.out.size)).trans (HB3.out.mono (Nat.le_trans HB.out.size HB9.out.size)))⟩
theorem frames_walk (A : Option Addr) (cap : Nat) (rs : List (List UInt8)) (cut : Int) (w : World) (hr : rowsK.C w A rs.length rs) (_ : rs.length ≤ cap) (_ : (Lit.int .i64 cut).wf = true) :
    Calls Try.prog 3 #[.slice A rs.length cap, .int .i64 cut] w fun e w' => e = .returned (.bool true) ∧ Below w.heap.size w w' := frames_any A cap rs cut w hr
end Go.Proofs.Ytkdlghbfplhkpaa
