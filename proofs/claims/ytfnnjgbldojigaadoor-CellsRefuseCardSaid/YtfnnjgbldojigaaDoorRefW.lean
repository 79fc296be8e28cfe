/- The walks of the reference's four, Crc, Frame. -/
import Derived.Test.YtfnnjgbldojigaaDoorFrameW
set_option linter.unusedVariables false
set_option linter.unusedSimpArgs false
namespace Go.Proofs.YtfnnjgbldojigaaDoor
open Go.RowKit Go.Proofs.YtfnnjgbldojigaaDoorW.PrintWords
open Go.Proofs.Mine.Crc

set_option maxHeartbeats 400000 in
theorem rfour_any (w0 w : World) (base n : Nat) (v : Value) (xs : List UInt8) (hn : n < 4294967296) (HO : Own w base v xs) (HB : Below base w0 w) (hbase : base ≤ w.heap.size) (hl : xs.length ≤ 140737488355000) :
    Calls Tryd.prog 44 #[v, .int .u32 (n : Int)] w fun e w' => ∃ v', e = .returned v' ∧ Own w' base v' (xs ++ fourOf n) ∧ Below base w0 w' ∧ w.grownBy w' v.ownBlock ∧ (v'.ownBlock = v.ownBlock ∨ ∃ b, v'.ownBlock = some b ∧ w.heap.size ≤ b) := by
  have HO' := Lib.hid HO
  have HB' := Lib.hid HB
  have hc := Lib.hid (fourOf_cells n hn)
  clear HO HB
  go_enter Tryd.func44, Tryd.ntmps44
  go_wp2_with (at_builtin; refine print_append_row_of (w0 := w0) b8 0 base rfl _ _ 32 5 (.int .u8 0) 1 rfl Tryd.underlying32 Tryd.info5 rfl (by decide) b8_one v xs (fourOf n) _ _ _ rfl rfl ?c1 ?c2 ?c3 ?c4 ?c5 ?c6)
  case c1 => exact HO'.out.alloc _
  case c2 => exact lit_reads8 w 5 _ _ _ hc.out rfl (by decide)
  case c3 => exact HB'.out.alloc hbase _
  case c4 => simp; omega
  case c5 => omega
  case c6 =>
    intro v1 w1 hown hB hg hat
    have K1 := Lib.hid hown
    have K2 := Lib.hid hB
    have K3 := Lib.hid hg
    clear hown hB hg
    go_wp2
    go_ret
    refine ⟨v1, rfl, by have := K1.out; rwa [← List.length_append] at this, K2.out, World.grownBy.trans (World.grownBy_alloc w _ _) K3.out, ?_⟩
    rcases hat with hat | ⟨b, hb, hle⟩
    · exact .inl hat
    · exact .inr ⟨b, hb, by omega⟩

set_option maxRecDepth 100000 in
set_option maxHeartbeats 400000 in
theorem rcrc_same (A : Option Addr) (cap : Nat) (l : List UInt8) (w : World) (hr : Bytes w A l) :
    Calls Tryd.prog 45 #[.slice A l.length cap] w fun e w' => e = .returned (.int .u32 ((crc l).toNat : Int)) ∧ w = w' := by
  have hmx : l.length ≤ 9223372036854775807 := hr.2.1
  have HR := Lib.hid hr
  clear hr
  go_enter Tryd.func45, Tryd.ntmps45
  go_wp2
  go_loop [3, 4, 5] (fun c' i _ => ∃ (k : Nat), k ≤ l.length ∧ i = .int .i64 k ∧ c' = .int .u32 ((sumS crc0 (l.take k)).toNat : Int)) (fun _ i _ => l.length - (intOf i).toNat)
  case atStart => exact ⟨0, by omega, rfl, rfl⟩
  case round =>
    obtain ⟨k, hk, rfl, rfl⟩ := hrel
    by_cases hlt : k < l.length
    · obtain ⟨ad, rfl, hc⟩ := HR.out.2.2 (by omega)
      have hck := hc k hlt
      clear hc
      have hsn : RowKit.Hid (l.take (k + 1) = l.take k ++ [l.getD k 0]) := by
        rw [List.take_succ_eq_append_getElem hlt, List.getD_eq_getElem?_getD, List.getElem?_eq_getElem hlt]; rfl
      generalize l.getD k 0 = x at *
      generalize hsum : sumS crc0 (l.take k) = c at *
      have hsum' := Lib.hid hsum
      clear hsum
      have hx := xorw c x
      have hx1 := x.toNat_lt
      generalize hcx : c ^^^ wide x = d at *
      have hcx' := Lib.hid hcx
      clear hcx
      go_wp2_with fail
      go_loop [3, 5] (fun c' i => ∃ (j : Nat), j ≤ 8 ∧ i = .int .i64 j ∧ c' = .int .u32 ((turnN j d).toNat : Int)) (fun _ i => 8 - (intOf i).toNat)
      case atStart => exact ⟨0, by omega, rfl, rfl⟩
      case round =>
        obtain ⟨j, hj, rfl, rfl⟩ := hrel
        clear hx
        have hH := Lib.hid (half32 (turnN j d))
        have hA := Lib.hid (and1_32 (turnN j d))
        have hP : RowKit.Hid ((2197175160 : Int) = (poly.toNat : Int)) := Lib.hid rfl
        by_cases hlt8 : j < 8
        · cases hb : (turnN j d).getLsbD 0
          · have h1 : (bits .and .u32 ((turnN j d).toNat : Int) 1 == 1) = false := by rw [hA.out, hb]; rfl
            have HB := Lib.hid hb; clear hb
            go_wp2
            go_round
            case rel => exact ⟨j + 1, by omega, by go_num, by rw [hH.out, turnN, turn1, HB.out]; rfl⟩
            case measure => simp [intOf]; omega
          · have h1 : (bits .and .u32 ((turnN j d).toNat : Int) 1 == 1) = true := by rw [hA.out, hb]; rfl
            have HB := Lib.hid hb; clear hb
            go_wp2
            go_round
            case rel => exact ⟨j + 1, by omega, by go_num, by rw [hH.out, hP.out, xor32, turnN, turn1, HB.out]; rfl⟩
            case measure => simp [intOf]; omega
        · obtain rfl : j = 8 := by omega
          go_wp2
          go_round
          case rel => exact ⟨k + 1, by omega, by go_num, by rw [hsn.out, sumS_snoc, hsum'.out, turnB, hcx'.out]; rfl⟩
          case measure => simp [intOf]; omega
    · obtain rfl : k = l.length := by omega
      have hn := Lib.hid (not32 (sumS crc0 l))
      rw [List.take_length]
      have hmax := Lib.hid (show IntKind.u32.max = 4294967295 from rfl)
      go_wp2
      go_ret
      exact ⟨ret_u32 (by rw [hmax.out, hn.out]; rfl), rfl⟩
theorem rcrc_any (A : Option Addr) (cap : Nat) (l : List UInt8) (w : World) (hr : Bytes w A l) :
    Calls Tryd.prog 45 #[.slice A l.length cap] w fun e w' => e = .returned (.int .u32 ((crc l).toNat : Int)) ∧ Below w.heap.size w w' :=
  (rcrc_same A cap l w hr).mono fun e w' ⟨h, h'⟩ => ⟨h, h' ▸ Below.refl _ _⟩
set_option maxHeartbeats 400000 in
theorem rframe_long (A : Option Addr) (cap : Nat) (l : List UInt8) (w : World) (hl : 65536 < l.length) :
    Calls Tryd.prog 17 #[.slice A l.length cap] w fun e w' => e = .returned (.tuple #[.slice none 0 0, .int .i64 5]) ∧ w' = w := by
  go_enter Tryd.func17, Tryd.ntmps17
  go_wp2
  go_ret2
  exact ⟨rfl, rfl⟩
set_option maxHeartbeats 400000 in
theorem rframe_any (A : Option Addr) (cap : Nat) (l : List UInt8) (w : World) (hr : Bytes w A l) (hl : l.length ≤ 65536) :
    Calls Tryd.prog 17 #[.slice A l.length cap] w fun e w' => ∃ v, e = .returned (.tuple #[v, .int .i64 0]) ∧ Own w' w.heap.size v (frameOf l) ∧ Below w.heap.size w w' := by
  have HR := Lib.hid hr
  clear hr
  go_enter Tryd.func17, Tryd.ntmps17
  go_wp2_with fail
  refine (rfour_any w w w.heap.size l.length (.slice none 0 0) [] (by omega) (own_nil _ _ _ _) (Below.refl _ _) (Nat.le_refl _) (by simp)).mono ?_
  rintro e w1 ⟨v1, rfl, O1, B1, _, _⟩
  have HO1 := Lib.hid O1
  have HB1 := Lib.hid B1
  clear O1 B1
  go_wp2_with fail
  refine (rcrc_any A cap l w1 (HR.out.below HB1.out)).mono ?_
  rintro e w2 ⟨rfl, B2⟩
  have HO2 := Lib.hid (pw_own_below HO1.out B2)
  have HB2 := Lib.hid (HB1.out.trans (B2.mono HB1.out.size))
  clear B2 HO1 HB1
  go_wp2_with fail
  refine (rfour_any w w2 w.heap.size (crc l).toNat v1 _ (crc l).isLt HO2.out HB2.out HB2.out.size (by simp [fourOf])).mono ?_
  rintro e w3 ⟨v3, rfl, O3, B3, _, _⟩
  have HO3 := Lib.hid O3
  have HB3 := Lib.hid B3
  clear O3 B3 HO2 HB2
  go_wp2_with (at_builtin; refine print_append_row_of (w0 := w) b8 0 w.heap.size rfl _ _ 32 5 (.int .u8 0) 1 rfl Tryd.underlying32 Tryd.info5 rfl (by decide) b8_one v3 _ l _ _ _ rfl rfl HO3.out ?c2 HB3.out ?c4 ?c5 ?c6)
  case c2 => exact HR.out.below HB3.out
  case c4 => exact HB3.out.size
  case c5 => simp [fourOf]; omega
  case c6 =>
    intro v1 w1 hown hB hg hat
    have K1 := Lib.hid hown
    have K2 := Lib.hid hB
    clear hown hB hg hat
    go_wp2
    go_ret2
    refine ⟨v1, rfl, ?_, K2.out⟩
    simpa [Own, frameOf] using K1.out
end Go.Proofs.YtfnnjgbldojigaaDoor
