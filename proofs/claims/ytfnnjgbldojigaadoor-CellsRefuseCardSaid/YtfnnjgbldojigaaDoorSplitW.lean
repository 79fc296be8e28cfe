/- The walks of begins and Split. -/
import Derived.Test.YtfnnjgbldojigaaDoorFrameW
import Derived.Deep.LoopGhost
set_option linter.unusedVariables false
set_option linter.unusedSimpArgs false
namespace Go.Proofs.YtfnnjgbldojigaaDoor
open Go.RowKit Go.Proofs.YtfnnjgbldojigaaDoorW.PrintWords
open Go.Proofs.Mine.Crc

theorem wordOf_lt (l : List UInt8) : wordOf l < 4294967296 := by
  rw [wordOf_eq]
  have h0 := (l.getD 0 0).toNat_lt
  have h1 := (l.getD 1 0).toNat_lt
  have h2 := (l.getD 2 0).toNat_lt
  have h3 := (l.getD 3 0).toNat_lt
  omega
/-- What stands at the beginning of bytes: 0 a whole frame, 1 a part, 2 one too long, 3 one of another sum. -/
noncomputable def beginsK (l : List UInt8) : Nat :=
  if l.length < 4 then 1 else if 65536 < wordOf l then 2 else if l.length < 8 + wordOf l then 1
  else if (crc ((l.take (8 + wordOf l)).drop 8)).toNat = wordOf (l.drop 4) then 0 else 3
noncomputable def beginsN (l : List UInt8) : Nat := if beginsK l = 0 then wordOf l else 0

theorem Tryd.info5' : ∃ i, Tryd.prog.info? 5 = some i ∧ i.size = 1 := by
  obtain ⟨i, hi, hz⟩ := Option.map_eq_some_iff.1 Tryd.info5
  exact ⟨i, hi, by simp only [Prod.mk.injEq] at hz; exact hz.2.1⟩

theorem below_from_drewN {w w' : World} {n : Nat} (h : Below (w.drewN n).heap.size (w.drewN n) w') : Below w.heap.size w w' := (pw_below_drewN (Below.refl _ w) n).trans h
set_option maxHeartbeats 400000 in
theorem begins_short (A : Option Addr) (cap : Nat) (l : List UInt8) (w : World) (hl : l.length < 4) :
    Calls Tryd.prog 74 #[.slice A l.length cap] w fun e w' => e = .returned (.tuple #[.int .i64 1, .int .i64 0]) ∧ w' = w := by
  go_enter Tryd.func74, Tryd.ntmps74
  go_wp2
  go_ret2
  exact ⟨rfl, rfl⟩
set_option maxHeartbeats 400000 in
theorem begins_long (A : Option Addr) (cap : Nat) (l : List UInt8) (w : World) (hr : Bytes w A l) (hl : ¬ l.length < 4) (h : 65536 < wordOf l) :
    Calls Tryd.prog 74 #[.slice A l.length cap] w fun e w' => e = .returned (.tuple #[.int .i64 2, .int .i64 0]) ∧ ∃ n, w' = w.drewN n := by
  have HR := Lib.hid hr
  have hw := wordOf_lt l
  clear hr
  go_enter Tryd.func74, Tryd.ntmps74
  go_wp2_with (go_at_call 84; refine (word_any A cap l w HR.out (by omega)).mono ?_; rintro e w' ⟨rfl, n, rfl⟩)
  go_ret2
  exact ⟨rfl, _, rfl⟩
set_option maxHeartbeats 400000 in
theorem begins_part (A : Option Addr) (cap : Nat) (l : List UInt8) (w : World) (hr : Bytes w A l) (hl : ¬ l.length < 4) (h : ¬ 65536 < wordOf l) (h2 : l.length < 8 + wordOf l) :
    Calls Tryd.prog 74 #[.slice A l.length cap] w fun e w' => e = .returned (.tuple #[.int .i64 1, .int .i64 0]) ∧ ∃ n, w' = w.drewN n := by
  have HR := Lib.hid hr
  clear hr
  go_enter Tryd.func74, Tryd.ntmps74
  go_wp2_with (go_at_call 84; refine (word_any A cap l w HR.out (by omega)).mono ?_; rintro e w' ⟨rfl, n, rfl⟩)
  go_ret2
  exact ⟨rfl, _, rfl⟩
set_option maxHeartbeats 400000 in
theorem begins_whole (A : Option Addr) (cap : Nat) (l : List UInt8) (w : World) (hr : Bytes w A l) (hcap : l.length ≤ cap) (hl : ¬ l.length < 4) (h : ¬ 65536 < wordOf l) (h2 : ¬ l.length < 8 + wordOf l) :
    Calls Tryd.prog 74 #[.slice A l.length cap] w fun e w' => e = .returned (.tuple #[.int .i64 (beginsK l), .int .i64 (beginsN l)]) ∧ Below w.heap.size w w' := by
  obtain ⟨i5, hi5, hs5⟩ := Tryd.info5'
  obtain ⟨A4, hs4, hr4, hc4⟩ := print_drop_of (P := Tryd.prog) b8 0 32 5 .i64 Tryd.underlying32 hi5 hs5 A cap l 4 (by omega) (by omega) hcap
  obtain ⟨A8, hs8, hr8, hc8⟩ := print_mid_of (P := Tryd.prog) b8 0 32 5 .i64 .i64 Tryd.underlying32 hi5 hs5 A cap l 8 (8 + (wordOf l : Int)) (by omega) (by omega) (by omega) hcap
  have hmx : l.length ≤ 9223372036854775807 := hr.2.1
  have HR := Lib.hid hr
  have r4 := hr4 w hr
  have r8 := hr8 w hr
  have hk : RowKit.Hid ((crc ((l.take (8 + wordOf l)).drop 8)).toNat = wordOf (l.drop 4) → beginsK l = 0 ∧ beginsN l = wordOf l) := by
    intro he
    have : beginsK l = 0 := by unfold beginsK; rw [if_neg hl, if_neg h, if_neg h2, if_pos he]
    exact ⟨this, by unfold beginsN; rw [if_pos this]⟩
  have hk' : RowKit.Hid (¬ (crc ((l.take (8 + wordOf l)).drop 8)).toNat = wordOf (l.drop 4) → beginsK l = 3 ∧ beginsN l = 0) := by
    intro he
    have : beginsK l = 3 := by unfold beginsK; rw [if_neg hl, if_neg h, if_neg h2, if_neg he]
    exact ⟨this, by unfold beginsN; rw [if_neg (by omega)]⟩
  rw [show ((8 : Int) + (wordOf l : Int)).toNat = 8 + wordOf l from by omega] at hs8 r8
  rw [show Int.toNat 8 = 8 from rfl] at hs8 r8
  rw [show Int.toNat 4 = 4 from rfl] at hs4 r4
  have hl4 : 4 ≤ (l.drop 4).length := by simp; omega
  generalize l.drop 4 = l4 at *
  generalize (l.take (8 + wordOf l)).drop 8 = l8 at *
  have HR4 := Lib.hid r4
  have HR8 := Lib.hid r8
  clear hr hr4 hr8 hi5 hs5 r4 r8 hc4 hc8
  have hsum : IntKind.i64.wrap (8 + (wordOf l : Int)) = 8 + (wordOf l : Int) := IntWalk.i64_in _ (by omega)
  by_cases he : (crc l8).toNat = wordOf l4
  · obtain ⟨e1, e2⟩ := hk.out he
    have hb : (((crc l8).toNat : Int) != (wordOf l4 : Int)) = false := by rw [he]; simp
    have hb' : (((crc l8).toNat : Int) == (wordOf l4 : Int)) = true := by rw [he]; simp
    rw [e1, e2]
    clear e1 e2 hk hk' he
    go_enter Tryd.func74, Tryd.ntmps74
    go_wp2_with (go_at_call 84; refine (word_any A cap l w HR.out (by omega)).mono ?_; rintro e w' ⟨rfl, n, rfl⟩)
    go_region_with (first
      | (go_at_call 60; refine (crc_any A8 _ l8 _ ?_).mono ?_; exact HR8.out; rintro e w' ⟨rfl, hB⟩)
      | (go_at_call 84; refine (word_any A4 _ l4 _ ?_ hl4).mono ?_; first | exact HR4.out | exact ReadsOf.below (w := (w.drewN n).drew) HR4.out (by assumption); rintro e w' ⟨rfl, m, rfl⟩))
    all_goals
      have HB := Lib.hid hB
      clear hB
      go_wp2
      go_ret2
      exact ⟨rfl, by first | exact below_from_drewN HB.out | exact pw_below_drewN (below_from_drewN HB.out) _⟩
  · obtain ⟨e1, e2⟩ := hk'.out he
    have hb : (((crc l8).toNat : Int) != (wordOf l4 : Int)) = true := by simp; omega
    have hb' : (((crc l8).toNat : Int) == (wordOf l4 : Int)) = false := by simp; omega
    rw [e1, e2]
    clear e1 e2 hk hk' he
    go_enter Tryd.func74, Tryd.ntmps74
    go_wp2_with (go_at_call 84; refine (word_any A cap l w HR.out (by omega)).mono ?_; rintro e w' ⟨rfl, n, rfl⟩)
    go_region_with (first
      | (go_at_call 60; refine (crc_any A8 _ l8 _ ?_).mono ?_; exact HR8.out; rintro e w' ⟨rfl, hB⟩)
      | (go_at_call 84; refine (word_any A4 _ l4 _ ?_ hl4).mono ?_; first | exact HR4.out | exact ReadsOf.below (w := (w.drewN n).drew) HR4.out (by assumption); rintro e w' ⟨rfl, m, rfl⟩))
    all_goals
      have HB := Lib.hid hB
      clear hB
      go_wp2
      go_ret2
      exact ⟨rfl, by first | exact below_from_drewN HB.out | exact pw_below_drewN (below_from_drewN HB.out) _⟩

theorem begins_any (A : Option Addr) (cap : Nat) (l : List UInt8) (w : World) (hr : Bytes w A l) (hcap : l.length ≤ cap) :
    Calls Tryd.prog 74 #[.slice A l.length cap] w fun e w' => e = .returned (.tuple #[.int .i64 (beginsK l), .int .i64 (beginsN l)]) ∧ Below w.heap.size w w' := by
  by_cases hl : l.length < 4
  · have e1 : beginsK l = 1 := by unfold beginsK; rw [if_pos hl]
    have e2 : beginsN l = 0 := by unfold beginsN; rw [e1]; rfl
    exact (begins_short A cap l w hl).mono fun e w' ⟨h, h'⟩ => ⟨by rw [h, e1, e2]; rfl, h' ▸ Below.refl _ _⟩
  · by_cases h : 65536 < wordOf l
    · have e1 : beginsK l = 2 := by unfold beginsK; rw [if_neg hl, if_pos h]
      have e2 : beginsN l = 0 := by unfold beginsN; rw [e1]; rfl
      exact (begins_long A cap l w hr hl h).mono fun e w' ⟨h, n, h'⟩ => ⟨by rw [h, e1, e2]; rfl, h' ▸ pw_below_drewN (Below.refl _ _) n⟩
    · by_cases h2 : l.length < 8 + wordOf l
      · have e1 : beginsK l = 1 := by unfold beginsK; rw [if_neg hl, if_neg h, if_pos h2]
        have e2 : beginsN l = 0 := by unfold beginsN; rw [e1]; rfl
        exact (begins_part A cap l w hr hl h h2).mono fun e w' ⟨h, n, h'⟩ => ⟨by rw [h, e1, e2]; rfl, h' ▸ pw_below_drewN (Below.refl _ _) n⟩
      · exact begins_whole A cap l w hr hcap hl h h2

/-! Split -/
theorem Tryd.info24 : (Tryd.prog.info? 32).map (fun i => (i.zero, i.size, i.bytes)) = some (some (.slice none 0 0), 1, 24) := by kernel_rfl
/-- The frames at the beginning of bytes: their rows, how many bytes they take, what kind of thing stands behind them (1, 2, 3). -/
noncomputable def splitOf : Nat → List UInt8 → List (List UInt8) × Nat × Nat
  | 0, _ => ([], 0, 1)
  | f + 1, l => if beginsK l = 0 then
      let r := splitOf f (l.drop (8 + wordOf l))
      (((l.take (8 + wordOf l)).drop 8) :: r.1, 8 + wordOf l + r.2.1, r.2.2)
    else ([], 0, beginsK l)
def splitE (k : Nat) : Int := if k = 2 then 5 else if k = 3 then 11 else 0
abbrev bytesK : Kd UInt8 := Kd.scalar b8 (fun _ => rfl)
abbrev rowsK : Kd (List UInt8) := Kd.slice 5 bytesK
theorem beginsK_cases (l : List UInt8) : beginsK l = 0 ∨ beginsK l = 1 ∨ beginsK l = 2 ∨ beginsK l = 3 := by
  unfold beginsK
  repeat (first | (split; · simp) | simp)
theorem beginsK_zero {l : List UInt8} (h : beginsK l = 0) : 8 + wordOf l ≤ l.length ∧ wordOf l ≤ 65536 ∧ beginsN l = wordOf l := by
  refine ⟨?_, ?_, by unfold beginsN; rw [if_pos h]⟩
  all_goals
    unfold beginsK at h
    split at h; · omega
    split at h; · omega
    split at h; · omega
    omega
theorem mid_list (l : List UInt8) (k m : Nat) : ((l.take (k + (8 + m))).drop (k + 8)) = (((l.drop k).take (8 + m)).drop 8) := by
  rw [List.take_drop, List.drop_drop]
theorem mid_at (A : Option Addr) (cap : Nat) (l : List UInt8) (w : World) (hr : Bytes w A l) (hcap : l.length ≤ cap) (k m : Nat) (h : 8 + m ≤ (l.drop k).length) (hk : k ≤ l.length) :
    ∃ A' : Option Addr, (∀ W : World, (Instr.slice 32 (.slice A l.length cap) (some (.int .i64 ((k : Int) + 8))) (some (.int .i64 ((k : Int) + 8 + (m : Int)))) none).run Tryd.prog W = .ok (.slice A' (((l.drop k).take (8 + m)).drop 8).length (cap - (k + 8))) W) ∧ ReadsOf b8 0 w A' (((l.drop k).take (8 + m)).drop 8).length (((l.drop k).take (8 + m)).drop 8) := by
  obtain ⟨i5, hi5, hs5⟩ := Tryd.info5'
  have hlk : (l.drop k).length = l.length - k := List.length_drop
  obtain ⟨A', h1, h2, _⟩ := print_mid_of (P := Tryd.prog) b8 0 32 5 .i64 .i64 Tryd.underlying32 hi5 hs5 A cap l ((k : Int) + 8) ((k : Int) + 8 + (m : Int)) (by omega) (by omega) (by omega) hcap
  have e1 : ((k : Int) + 8 + (m : Int)).toNat = k + (8 + m) := by omega
  have e2 : ((k : Int) + 8).toNat = k + 8 := by omega
  rw [e1, e2, mid_list] at h1 h2
  exact ⟨A', h1, h2 w hr⟩
set_option maxHeartbeats 1000000 in
theorem split_any (A : Option Addr) (cap : Nat) (l : List UInt8) (w : World) (hr : Bytes w A l) (hcap : l.length ≤ cap) (hl : l.length ≤ 1000000) :
    Calls Tryd.prog 57 #[.slice A l.length cap] w fun e w' => ∃ v, e = .returned (.tuple #[v, .int .i64 (splitOf (l.length + 1) l).2.1, .int .i64 (splitE (splitOf (l.length + 1) l).2.2)])
      ∧ rowsK.R 32 w' w.heap.size (fun _ => True) v (splitOf (l.length + 1) l).1 ∧ Below w.heap.size w w' := by
  have HR := Lib.hid hr
  clear hr
  obtain ⟨i5, hi5, hs5⟩ := Tryd.info5'
  generalize hF : l.length + 1 = F
  have HF := Lib.hid hF
  clear hF
  go_enter Tryd.func57, Tryd.ntmps57
  go_wp2_with fail
  go_loopg [5, 6] F (fun f v5 i wr => ∃ (k : Nat) (done : List (List UInt8)), k ≤ l.length ∧ i = .int .i64 k ∧ done.length ≤ k ∧ (l.drop k).length + 1 ≤ f ∧ RowKit.Hid (rowsK.R 32 wr w.heap.size (fun _ => True) v5 done) ∧ RowKit.Hid (Below w.heap.size w wr)
      ∧ RowKit.Hid (splitOf F l = (done ++ (splitOf f (l.drop k)).1, k + (splitOf f (l.drop k)).2.1, (splitOf f (l.drop k)).2.2)))
  case atStart => exact ⟨0, [], by omega, rfl, by simp, by simp; have := HF.out; omega, Kd.R_nil _ _ _ _ _, Below.refl _ _, by simp [RowKit.Hid]⟩
  case round =>
    obtain ⟨k, done, hk, rfl, hd, hf, HO, HB, HS⟩ := hrel
    obtain ⟨Ak, hsA, hrA, hcA⟩ := print_drop_of (P := Tryd.prog) b8 0 32 5 .i64 Tryd.underlying32 hi5 hs5 A cap l (k : Int) (by omega) (by omega) hcap
    rw [Int.toNat_natCast] at hsA hrA hcA
    have HRA := Lib.hid (hrA w HR.out)
    clear hrA
    have HMID := Lib.hid (fun h => mid_at A cap l w HR.out hcap k (wordOf (l.drop k)) h hk)
    have hsp : ∀ f, splitOf (f + 1) (l.drop k) = if beginsK (l.drop k) = 0 then
      ((((l.drop k).take (8 + wordOf (l.drop k))).drop 8) :: (splitOf f ((l.drop k).drop (8 + wordOf (l.drop k)))).1, 8 + wordOf (l.drop k) + (splitOf f ((l.drop k).drop (8 + wordOf (l.drop k)))).2.1, (splitOf f ((l.drop k).drop (8 + wordOf (l.drop k)))).2.2)
      else ([], 0, beginsK (l.drop k)) := fun f => rfl
    have HSP := Lib.hid hsp
    clear hsp
    have hbc := beginsK_cases (l.drop k)
    have HBZ := Lib.hid (@beginsK_zero (l.drop k))
    have HBN : RowKit.Hid (beginsK (l.drop k) ≠ 0 → beginsN (l.drop k) = 0) := fun h => by unfold beginsN; rw [if_neg h]
    have HDD : RowKit.Hid (∀ m, (l.drop k).drop m = l.drop (k + m)) := fun m => List.drop_drop
    have HLK : RowKit.Hid ((l.drop k).length = l.length - k) := List.length_drop
    have hbeg := begins_any Ak _ (l.drop k) wr (HRA.out.below HB.out) hcA
    have HL := Lib.hid hl
    clear hl hcA
    generalize l.drop k = lk at *
    cases gk with
    | zero => omega
    | succ f =>
    have HSP2 := Lib.hid (HSP.out f)
    clear HSP
    rcases hbc with hq | hq | hq | hq
    · obtain ⟨h1, h2, h3⟩ := HBZ.out hq
      obtain ⟨A', hsM, hrM⟩ := HMID.out h1
      have HRM := Lib.hid hrM
      rw [hq, h3] at hbeg
      have HBEG := Lib.hid hbeg
      have HQ := Lib.hid hq
      clear hrM HBZ HMID HBN hbeg hq h3
      have hlm : ((lk.take (8 + wordOf lk)).drop 8).length ≤ 65536 := by simp; omega
      generalize (lk.take (8 + wordOf lk)).drop 8 = lm at *
      have HLM := Lib.hid hlm
      clear hlm
      generalize hm : wordOf lk = m at *
      have HM := Lib.hid hm
      clear hm
      have hkm : k + 8 + m ≤ 1000000 := by have := HL.out; have := HLK.out; omega
      go_wp2_with (first
        | (go_at_call 74; refine HBEG.out.mono ?_; rintro e w' ⟨rfl, hB⟩; have HB' := Lib.hid hB; clear hB)
        | (at_builtin; refine print_append_row_of (w0 := w') b8 0 w'.heap.size rfl _ _ 32 5 (.int .u8 0) 1 rfl Tryd.underlying32 Tryd.info5 rfl (by decide) b8_one (.slice (some ⟨w'.heap.size, 0, none⟩) 0 0) [] lm A' _ _ rfl rfl ?d1 ?d2 ?d3 ?d4 ?d5 ?d6))
      case d1 => exact own_lit_of (enc := b8) w' w'.heap.size 5 [] (Nat.le_refl _) (by decide)
      case d2 => exact HRM.out.below ((HB.out.mono (Nat.le_refl _)).trans ((HB'.out.mono HB.out.size).alloc (by have := HB.out.size; have := HB'.out.size; omega) _))
      case d3 => exact (Below.refl _ _).alloc (Nat.le_refl _) _
      case d4 => simp
      case d5 => have := HLM.out; simp; omega
      case d6 =>
        intro v1 w1 hown hB1 hg hat
        obtain ⟨A1, c1, rfl⟩ := own_slice hown
        have K1 := Lib.hid hown
        have K2 := Lib.hid hB1
        clear hown hB1 hg hat
        have hHO : rowsK.R 32 w1 w.heap.size (fun _ => True) u5 done := Kd.R_below HO.out (HB'.out.trans (K2.out.mono HB'.out.size))
        have hob := Kd.R_own HO.out
        go_wp2_with (at_builtin; refine Kd.R_append rowsK (w0 := w) w.heap.size rfl _ _ 22 32 (.slice none 0 0) 24 rfl Tryd.underlying22 Tryd.info24 rfl (by decide) (by decide) u5 done lm [.slice A1 _ c1] (fun _ => True) (fun k => w'.heap.size ≤ k) rfl rfl ?e1 ?e2 ?e3 ?e4 ?e5 ?e6 ?e7 ?e8)
        case e1 => exact ⟨_, rfl, Kd.R_of_own (by have := own_weaken K1.out (Nat.le_trans HB.out.size HB'.out.size); simpa using this) (fun k hk => own_base K1.out k hk)⟩
        case e2 =>
          intro j hj
          refine ⟨trivial, fun hne => ?_⟩
          obtain ⟨inner, ho⟩ := hob
          have h1 := own_lt ho j hne.symm
          have h2 := HB'.out.size
          omega
        case e3 => exact fun _ _ => trivial
        case e4 => exact hHO
        case e5 => exact (HB.out.trans (HB'.out.mono HB.out.size)).trans (K2.out.mono (Nat.le_trans HB.out.size HB'.out.size))
        case e6 => exact Nat.le_trans (Nat.le_trans HB.out.size HB'.out.size) K2.out.size
        case e7 => omega
        case e8 =>
          intro v2 w2 hR hB2 _ _
          have L1 := Lib.hid hR
          have L2 := Lib.hid hB2
          clear hR hB2 hHO hob
          go_wp2
          go_roundg f
          case measure => omega
          case rel =>
            have hLK := HLK.out
            have hS := HS.out
            rw [HSP2.out, if_pos HQ.out] at hS
            refine ⟨k + (8 + m), done ++ [lm], by omega, by go_num, by simp; omega, ?_, L1.out, L2.out, ?_⟩
            · rw [← HDD.out]; simp; omega
            · unfold RowKit.Hid
              rw [hS, HDD.out]
              simp [Nat.add_assoc]
    · have hn := HBN.out (by omega)
      clear HBZ HBN HMID
      rw [hq, hn] at hbeg
      have HQ := Lib.hid hq
      have HBEG := Lib.hid hbeg
      clear hq hn hbeg
      go_wp2_with (go_at_call 74; refine HBEG.out.mono ?_; rintro e w' ⟨rfl, hB⟩)
      go_ret3
      have hS := HS.out
      rw [HSP2.out, if_neg (by rw [HQ.out]; decide), HQ.out] at hS
      refine ⟨u5, ?_, ?_, HB.out.trans (hB.mono HB.out.size)⟩
      · rw [hS]; simp [splitE]
      · rw [hS]; simpa using Kd.R_below HO.out hB
    · have hn := HBN.out (by omega)
      clear HBZ HBN HMID
      rw [hq, hn] at hbeg
      have HQ := Lib.hid hq
      have HBEG := Lib.hid hbeg
      clear hq hn hbeg
      go_wp2_with (go_at_call 74; refine HBEG.out.mono ?_; rintro e w' ⟨rfl, hB⟩)
      go_ret3
      have hS := HS.out
      rw [HSP2.out, if_neg (by rw [HQ.out]; decide), HQ.out] at hS
      refine ⟨u5, ?_, ?_, HB.out.trans (hB.mono HB.out.size)⟩
      · rw [hS]; simp [splitE]
      · rw [hS]; simpa using Kd.R_below HO.out hB
    · have hn := HBN.out (by omega)
      clear HBZ HBN HMID
      rw [hq, hn] at hbeg
      have HQ := Lib.hid hq
      have HBEG := Lib.hid hbeg
      clear hq hn hbeg
      go_wp2_with (go_at_call 74; refine HBEG.out.mono ?_; rintro e w' ⟨rfl, hB⟩)
      go_ret3
      have hS := HS.out
      rw [HSP2.out, if_neg (by rw [HQ.out]; decide), HQ.out] at hS
      refine ⟨u5, ?_, ?_, HB.out.trans (hB.mono HB.out.size)⟩
      · rw [hS]; simp [splitE]
      · rw [hS]; simpa using Kd.R_below HO.out hB
end Go.Proofs.YtfnnjgbldojigaaDoor
