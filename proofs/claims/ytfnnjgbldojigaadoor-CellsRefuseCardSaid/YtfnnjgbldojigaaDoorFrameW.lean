/- The walks of four, Frame, and of the reference's four, Crc, Frame. -/
import Derived.Test.YtfnnjgbldojigaaDoorCrcW
set_option linter.unusedVariables false
set_option linter.unusedSimpArgs false
namespace Go.Proofs.YtfnnjgbldojigaaDoor
open Go.RowKit Go.Proofs.YtfnnjgbldojigaaDoorW.PrintWords
open Go.Proofs.Mine.Crc

theorem Tryd.info5 : (Tryd.prog.info? 5).map (fun i => (i.zero, i.size, i.bytes)) = some (some (.int .u8 0), 1, 1) := by kernel_rfl
theorem b8_one (x : UInt8) : (b8 x).oneCell' = true := rfl
abbrev Own (w : World) (base : Nat) (v : Value) (xs : List UInt8) : Prop := w.ownsRow base 5 1 v xs.length (encs b8 xs)

/-- The walk's own spelling of a literal's block reads as bytes. -/
theorem lit_reads8 (W : World) (e : TypeId) (xs : List UInt8) (cs : Array Value) (m : Nat) (h : cs = (encs b8 xs).toArray) (hm : xs.length = m) (hx : m ≤ 9223372036854775807) : ReadsOf b8 0 (W.alloc (.cells cs e)) (some ⟨W.heap.size, 0, none⟩) m xs := by
  refine ⟨hm, hx, fun _ => ⟨_, rfl, fun j hj => ?_⟩⟩
  rw [add_plain, World.cell?_alloc_new, h]
  have := encs_get (enc := b8) (d := 0) xs j (by omega)
  simpa using this
def fourOf (n : Nat) : List UInt8 := [UInt8.ofNat (n / 16777216), UInt8.ofNat (n / 65536), UInt8.ofNat (n / 256), UInt8.ofNat n]
theorem fourOf_cells (n : Nat) (hn : n < 4294967296) : #[Value.int .u8 ((n : Int) / 16777216), .int .u8 ((n : Int) / 65536 % 256), .int .u8 ((n : Int) / 256 % 256), .int .u8 ((n : Int) % 256)] = (encs b8 (fourOf n)).toArray := by
  simp only [encs, fourOf, List.map_cons, List.map_nil, b8, UInt8.toNat_ofNat']
  congr 2
  · congr 1; omega
set_option maxHeartbeats 400000 in
theorem four_any (w0 w : World) (base n : Nat) (v : Value) (xs : List UInt8) (hn : n < 4294967296) (HO : Own w base v xs) (HB : Below base w0 w) (hbase : base ≤ w.heap.size) (hl : xs.length ≤ 140737488355000) :
    Calls Tryd.prog 59 #[v, .int .u32 (n : Int)] w fun e w' => ∃ v', e = .returned v' ∧ Own w' base v' (xs ++ fourOf n) ∧ Below base w0 w' ∧ w.grownBy w' v.ownBlock ∧ (v'.ownBlock = v.ownBlock ∨ ∃ b, v'.ownBlock = some b ∧ w.heap.size ≤ b) := by
  have HO' := Lib.hid HO
  have HB' := Lib.hid HB
  have hc := Lib.hid (fourOf_cells n hn)
  clear HO HB
  go_enter Tryd.func59, Tryd.ntmps59
  go_wp2_with (at_builtin; refine print_append_row_of (w0 := w0) b8 0 base rfl _ _ 32 5 (.int .u8 0) 1 rfl Tryd.underlying32 Tryd.info5 rfl (by decide) b8_one v xs (fourOf n) _ _ _ rfl rfl ?c1 ?c2 ?c3 ?c4 ?c5 ?c6)
  case c1 => exact HO'.out.alloc _
  case c2 => exact lit_reads8 w 5 _ _ _ hc.out rfl (by decide)
  case c3 => exact HB'.out.alloc hbase _
  case c4 => simp; omega
  case c5 => omega
  case c6 =>
    intro v1 w1 hown hB hg hat
    have K1 := Lib.hid hown
    have K2 := Lib.hid hB
    have K3 := Lib.hid hg
    clear hown hB hg
    go_wp2
    go_ret
    refine ⟨v1, rfl, by have := K1.out; rwa [← List.length_append] at this, K2.out, World.grownBy.trans (World.grownBy_alloc w _ _) K3.out, ?_⟩
    rcases hat with hat | ⟨b, hb, hle⟩
    · exact .inl hat
    · exact .inr ⟨b, hb, by omega⟩

set_option maxHeartbeats 400000 in
theorem frame_long (A : Option Addr) (cap : Nat) (l : List UInt8) (w : World) (hl : 65536 < l.length) :
    Calls Tryd.prog 46 #[.slice A l.length cap] w fun e w' => e = .returned (.tuple #[.slice none 0 0, .int .i64 5]) ∧ w' = w := by
  go_enter Tryd.func46, Tryd.ntmps46
  go_wp2
  go_ret2
  exact ⟨rfl, rfl⟩
def frameOf (l : List UInt8) : List UInt8 := fourOf l.length ++ fourOf (crc l).toNat ++ l
set_option maxHeartbeats 400000 in
theorem frame_any (A : Option Addr) (cap : Nat) (l : List UInt8) (w : World) (hr : Bytes w A l) (hl : l.length ≤ 65536) :
    Calls Tryd.prog 46 #[.slice A l.length cap] w fun e w' => ∃ v, e = .returned (.tuple #[v, .int .i64 0]) ∧ Own w' w.heap.size v (frameOf l) ∧ Below w.heap.size w w' := by
  have HR := Lib.hid hr
  clear hr
  go_enter Tryd.func46, Tryd.ntmps46
  go_wp2_with fail
  refine (four_any w w w.heap.size l.length (.slice none 0 0) [] (by omega) (own_nil _ _ _ _) (Below.refl _ _) (Nat.le_refl _) (by simp)).mono ?_
  rintro e w1 ⟨v1, rfl, O1, B1, _, _⟩
  have HO1 := Lib.hid O1
  have HB1 := Lib.hid B1
  clear O1 B1
  go_wp2_with fail
  refine (crc_any A cap l w1 (HR.out.below HB1.out)).mono ?_
  rintro e w2 ⟨rfl, B2⟩
  have HO2 := Lib.hid (pw_own_below HO1.out B2)
  have HB2 := Lib.hid (HB1.out.trans (B2.mono HB1.out.size))
  clear B2 HO1 HB1
  go_wp2_with fail
  refine (four_any w w2 w.heap.size (crc l).toNat v1 _ (crc l).isLt HO2.out HB2.out HB2.out.size (by simp [fourOf])).mono ?_
  rintro e w3 ⟨v3, rfl, O3, B3, _, _⟩
  have HO3 := Lib.hid O3
  have HB3 := Lib.hid B3
  clear O3 B3 HO2 HB2
  go_wp2_with (at_builtin; refine print_append_row_of (w0 := w) b8 0 w.heap.size rfl _ _ 32 5 (.int .u8 0) 1 rfl Tryd.underlying32 Tryd.info5 rfl (by decide) b8_one v3 _ l _ _ _ rfl rfl HO3.out ?c2 HB3.out ?c4 ?c5 ?c6)
  case c2 => exact HR.out.below HB3.out
  case c4 => exact HB3.out.size
  case c5 => simp [fourOf]; omega
  case c6 =>
    intro v1 w1 hown hB hg hat
    have K1 := Lib.hid hown
    have K2 := Lib.hid hB
    clear hown hB hg hat
    go_wp2
    go_ret2
    refine ⟨v1, rfl, ?_, K2.out⟩
    simpa [Own, frameOf] using K1.out
end Go.Proofs.YtfnnjgbldojigaaDoor
