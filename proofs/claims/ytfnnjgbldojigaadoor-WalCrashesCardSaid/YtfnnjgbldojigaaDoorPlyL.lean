/- WalPlays. -/
import Derived.Test.YtfnnjgbldojigaaDoorPlyP
set_option linter.unusedVariables false
set_option linter.unusedSimpArgs false
namespace Go.Proofs.YtfnnjgbldojigaaDoor
open Go.RowKit Go.Proofs.YtfnnjgbldojigaaDoorW.PrintWords Go.Proofs.Mine Go.Proofs.Mine.Crc

theorem plays_room (hs : List Hd) (h : ∀ y ∈ hs, y.l.length ≤ 300) : (framesOf (hs.map (·.l))).length ≤ 308 * hs.length := by
  have h1 := small_room (hs.map (·.l)) 300 (fun r hr => by obtain ⟨z, hz, rfl⟩ := List.mem_map.1 hr; exact h z hz)
  rw [List.length_map] at h1
  exact h1
theorem mid_start {w wr w2 : World} {bt bl : Nat} {s : TS} {ls : LS} {F : Nat → Prop} {av : Value} {hs : List Hd} {o : Array Value} (h : WalIn w bt bl s ls wr F) (ha : OwnOk wr F w.heap.size av hs) (hw : w2 = wr.alloc (.cells o 47)) : MidW w bt bl s ls F av hs wr.heap.size o 0 0 w2 := by
  subst hw
  have hB : Below wr.heap.size wr (wr.alloc (.cells o 47)) := (Below.refl _ _).alloc (Nat.le_refl _) _
  refine ⟨h.to hB, ha.below hB, heap_alloc_new wr _, ⟨fun hf => by have := (h.lt _ hf).2; omega, fun e => by have := own_lt ha.1 _ e; omega, h.below.size⟩, fun hp => absurd hp (by decide)⟩
theorem mine_of {w w2 w3 : World} {bt bl : Nat} {s : TS} {ls : LS} {F : Nat → Prop} {av : Value} {hs : List Hd} {pc : Nat} {o : Array Value} {A : Option Addr} {n c : Nat} {xs : List Value} (h : MidW w bt bl s ls F av hs pc o 0 0 w2) (hB : Below w2.heap.size w2 w3) (hown : w3.ownsRow w2.heap.size 5 1 (.slice A n c) n xs) (hpc : pc < w2.heap.size) : ∃ g, (0 < n → A = some ⟨g, 0, none⟩) ∧ MidW w bt bl s ls F av hs pc o g n w3 := by
  have h3 := h.to hB
  rcases hown.2 with ⟨e, _⟩ | ⟨g, cap, cur, e, hb, hh, r⟩
  · injection e with e1 e2 e3
    exact ⟨0, fun hp => by omega, h3.win, h3.all, h3.box, h3.pout, fun hp => by omega⟩
  · injection e with e1 e2 e3
    refine ⟨g, fun _ => e1, h3.win, h3.all, h3.box, h3.pout, fun hp => ⟨⟨cur, hh, ?_⟩, fun hf => by have := (h.win.lt _ hf).2; omega, fun e => by have := own_lt h.all.1 _ e; omega, Nat.le_trans h.win.below.size hb, fun e => by omega⟩⟩
    obtain ⟨r1, r2, r3, r4⟩ := r
    omega
set_option maxRecDepth 100000 in
set_option maxHeartbeats 2000000 in
theorem wplays_any (A1 : Option Addr) (cap1 : Nat) (cs : List Cl) (w : World) (hg0 : Laid w) (hr1 : clK.C w A1 cs.length cs) :
    Calls Tryd.prog 6 #[.slice A1 cs.length cap1] w fun e w' => e = .returned (.bool true) ∧ Below w.heap.size w w' := by
  have HG := Lib.hid hg0
  have R1 := Lib.hid hr1
  have hm1 : cs.length ≤ 9223372036854775807 := hr1.2.1
  clear hg0 hr1
  go_enter Tryd.func6, Tryd.ntmps6
  go_wp2_with (first
    | (go_at_call 13; refine (known4_any w HG.out).mono ?_; rintro r w1 ⟨rfl, hB⟩; have HB1 := Lib.hid hB; clear hB)
    | (go_at_call 14; refine (new_ok 1048576 w1 (by decide) (by decide)).mono ?_; rintro r w3 ⟨rfl, hw3⟩
       have HI := Lib.hid (wal_start HG.out HB1.out 1048576 (by decide) (by decide) hw3)
       clear hw3
       generalize w1.heap.size = bt at *)
    | (go_at_call 15; refine (cal_open w w3 bt 1048576 0 [] 0 _ HI.out (by decide) (by simp) (by simp [framesOf])).mono ?_
       rintro r w4 ⟨bl4, F4, o3, rfl, hW4, ho3, ho3', hF4, hK4⟩
       have HW4 := Lib.hid hW4
       clear hW4 hF4 hK4))
  clear HI
  go_loopw [5, 7, 8] (fun lv av iv wr => ∃ (k bl : Nat) (hs : List Hd) (sy : Nat) (o : Int) (F : Nat → Prop), k ≤ 60 ∧ k ≤ cs.length ∧ lv = .pointer (some ⟨bl, 0, none⟩) ∧ iv = .int .i64 (k : Int) ∧ 0 ≤ o ∧ o ≤ (k : Int) + 1 ∧ hs.length ≤ k + 8 ∧ RowKit.Hid (WalIn w bt bl (gs 1048576 (hs.map (·.l)) sy o) (gl (hs.map (·.l))) wr F) ∧ RowKit.Hid (OwnOk wr F w.heap.size av hs) ∧ RowKit.Hid (HdsIn w hs) ∧ RowKit.Hid (∀ y ∈ hs, y.l.length ≤ 300)) (fun _ _ iv _ => 60 - (intOf iv).toNat)
  case atStart => exact ⟨0, bl4, [], 0, o3, F4, by omega, by omega, rfl, rfl, ho3, by omega, by simp, HW4, Lib.hid ⟨own_nil _ _ _ _, fun k hk => by cases hk⟩, Lib.hid (HdsIn.nil w), Lib.hid (fun y hy => by cases hy)⟩
  case round =>
    obtain ⟨k, bl, hs, sy, o, F, hk60, hkl, rfl, rfl, ho0, ho1, hhl, HW, HA, HI, HSM⟩ := hrel
    obtain ⟨Aa, ca, rfl⟩ := own_slice HA.out.1
    by_cases hlt : k < cs.length ∧ k < 60
    · obtain ⟨x, hx⟩ : ∃ x, cs[k]? = some x := ⟨_, List.getElem?_eq_getElem hlt.1⟩
      obtain ⟨kd, xb, xr⟩ := x
      obtain ⟨ad, B, c, D, d, rfl, h00, h1, h2, hB, hcB, hD, hcD⟩ := cl_at R1.out hx
      dsimp only at h00 h1 h2 hB hcB hD hcD
      obtain ⟨h0, hm0, hq0, hi0⟩ := hds_of_rows hD
      have hxl : xr.length = h0.length := by rw [← hm0, List.length_map]
      rw [hxl] at h2 hq0
      obtain ⟨ea, hea⟩ : ∃ ea, ea = ad.add (k * 3) := ⟨_, rfl⟩
      rw [← hea] at h00 h1 h2
      have q0 : wr.cell? ea = some (.int .i64 kd) := pw_cell_below HW.out.below h00
      have q1 : wr.cell? ⟨ea.block, ea.off + 1, none⟩ = some (.slice B xb.length c) := pw_cell_below HW.out.below h1
      have q2 : wr.cell? ⟨ea.block, ea.off + 2, none⟩ = some (.slice D h0.length d) := pw_cell_below HW.out.below h2
      have hlt1 : (k : Int) < (cs.length : Int) := by omega
      have hlt2 : (k : Int) < 60 := by omega
      have hk0 : (0 : Int) ≤ (k : Int) := by omega
      have hea2 := hea.symm
      have hfr := plays_room hs HSM.out
      have HFR := Lib.hid (show (framesOf (hs.map (·.l))).length ≤ 30000 from by omega)
      have QB := Lib.hid hB
      have QR := Lib.hid hq0
      have HIS := Lib.hid (HdsIn.sub hi0 (fun y (hy : y ∈ smallH h0) => (smallH_mem hy).1))
      have HSS := Lib.hid (fun y (hy : y ∈ smallH h0) => (smallH_mem hy).2)
      have hs8 := smallH_len h0
      clear hx h00 h1 h2 hea hB hD hm0 hfr hxl hq0 hi0
      rcases four_ways kd with hkd | hkd | hkd | hkd
      · by_cases hx3 : (300 : Int) < (xb.length : Int)
        · go_wp2_with (first
          | (go_at_call 23; refine (within4_any kd 4 _ (by decide) (by decide)).mono ?_; rintro e w2 ⟨rfl, hw2⟩
             have hM2 := mid_start HW.out HA.out hw2.symm
             have qb : w2.cell? ⟨wr.heap.size, 1, none⟩ = some (.slice B xb.length c) := blk_cell hM2.box 1
             have qr : w2.cell? ⟨wr.heap.size, 2, none⟩ = some (.slice D h0.length d) := blk_cell hM2.box 2
             have HM := Lib.hid hM2
             have HPC := Lib.hid (blk_lt hM2.box)
             rw [hkd]
             clear hw2 hM2 q0 q1 q2
             generalize wr.heap.size = pc at *)
          | fail)
          exact ⟨⟨k + 1, bl, hs, sy, o, F, by omega, by omega, rfl, by simp, ho0, by push_cast; omega, by omega, Lib.hid HM.out.win, Lib.hid HM.out.all, HI, HSM⟩, by simp [intOf]; omega⟩
        have hx4 : xb.length ≤ 300 := by omega
        go_wp2_with (first
          | (go_at_call 23; refine (within4_any kd 4 _ (by decide) (by decide)).mono ?_; rintro e w2 ⟨rfl, hw2⟩
             have hM2 := mid_start HW.out HA.out hw2.symm
             have qb : w2.cell? ⟨wr.heap.size, 1, none⟩ = some (.slice B xb.length c) := blk_cell hM2.box 1
             have qr : w2.cell? ⟨wr.heap.size, 2, none⟩ = some (.slice D h0.length d) := blk_cell hM2.box 2
             have qbl : (w2.alloc (.cells #[] 5)).cell? ⟨wr.heap.size, 1, none⟩ = some (.slice B xb.length c) := pw_cell_below ((Below.refl _ _).alloc (Nat.le_refl _) _) qb
             have HM := Lib.hid hM2
             have HPC := Lib.hid (blk_lt hM2.box)
             rw [hkd]
             clear hw2 hM2 q0 q1 q2
             generalize wr.heap.size = pc at *)
          | (at_builtin; refine print_append_row_of (w0 := w2) b8 0 w2.heap.size rfl _ _ 32 5 (.int .u8 0) 1 rfl Tryd.underlying32 Tryd.info5 rfl (by decide) b8_one (.slice (some ⟨w2.heap.size, 0, none⟩) 0 0) [] xb B xb.length c rfl rfl ?d1 ?d2 ?d3 ?d4 ?d5 ?d6))
        case d1 => exact own_lit_of (enc := b8) w2 w2.heap.size 5 [] (Nat.le_refl _) (by decide)
        case d2 => exact (QB.out.below HM.out.win.below).below ((Below.refl _ _).alloc (Nat.le_refl _) _)
        case d3 => exact (Below.refl _ _).alloc (Nat.le_refl _) _
        case d4 => simp
        case d5 => simp; omega
        case d6 =>
          intro v3 w3 hown hB3 _ _
          have hown' : w3.ownsRow w2.heap.size 5 1 v3 xb.length (encs b8 xb) := hown
          obtain ⟨A3, c3, rfl, hr3⟩ := own_reads_of (d := (0 : UInt8)) hown'
          obtain ⟨g, hg, hM3⟩ := mine_of HM.out hB3 hown' HPC.out
          have HG3 := Lib.hid hg
          have HR3 := Lib.hid (show Bytes w3 A3 xb from hr3)
          have HM3 := Lib.hid hM3
          have HF3 := Lib.hid (fun j => HM.out.win.lt j)
          have HOB := Lib.hid (fun j (hj : (Value.slice A3 xb.length c3).ownBlock = some j) => own_base hown' j hj)
          clear hown hown' hB3 hr3 hg hM3 HM
          go_wp2_with (go_at_call 18; refine (cal_append A3 c3 xb w w3 bt bl 1048576 o (hs.map (·.l)) sy F HM3.out.win (by omega) HR3.out (by omega) (fun hp a ha hf => by
                         subst ha
                         have := HOB.out a.block rfl
                         have := (HF3.out _ hf).2
                         omega) (by rw [List.length_map]; omega) (by have := HFR.out; omega)).mono ?_; rintro r w4 ⟨rfl, hO4⟩
                       obtain ⟨F4, hM4⟩ := HM3.out.step hO4
                       have HM4 := Lib.hid hM4
                       clear hO4 hM4)
          go_loopw [11] (fun kv wr => ∃ (j : Nat), j ≤ xb.length ∧ kv = .int .i64 (j : Int) ∧ RowKit.Hid (MidW w bt bl (gs 1048576 (hs.map (·.l) ++ [xb]) sy (o + 1)) (gl (hs.map (·.l) ++ [xb])) F4 (.slice Aa hs.length ca) hs pc #[.int .i64 kd, .slice B xb.length c, .slice D h0.length d] g xb.length wr)) (fun kv _ => xb.length - (intOf kv).toNat)
          case atStart => exact ⟨0, by omega, rfl, HM4⟩
          case round =>
            obtain ⟨j, hj, rfl, HWP⟩ := hrel
            by_cases hjl : (j : Int) < (xb.length : Int)
            · obtain rfl := HG3.out (by omega)
              obtain ⟨⟨cur, hg1, hg2⟩, _⟩ := HWP.out.mine (by omega)
              have hj0 : (0 : Int) ≤ (j : Int) := by omega
              obtain ⟨u, hcu⟩ : ∃ u, wr.cell? ⟨g, j, none⟩ = some u := ⟨_, by rw [cell_of_row _ g j _ _ _ hg1]; exact Array.getElem?_eq_getElem (by omega)⟩
              have hfz : wr.frozen? ⟨g, j, none⟩ = false := blk_frozen hg1 j
              have HWD := Lib.hid (HWP.out.store (by omega) j (.int .u8 238))
              clear hg1 hg2
              go_wp2
              exact ⟨⟨j + 1, by omega, by simp, HWD⟩, by simp [intOf]; omega⟩
            · have qb2 : wr.cell? ⟨pc, 1, none⟩ = some (.slice B xb.length c) := blk_cell HWP.out.box 1
              have hjn : ¬ (j < xb.length) := by omega
              go_wp2_with (at_builtin; refine print_append_of (w0 := w) (W := wr) Hd.v w.heap.size rfl _ _ 22 32 (.slice none 0 0) 24 rfl Tryd.underlying22 infoR rfl (by decide) (.slice Aa hs.length ca) hs ⟨B, c, xb⟩ rfl rfl (hd_one _) HWP.out.all.1 HWP.out.win.below HWP.out.win.below.size (by omega) ?g6)
              case g6 =>
                intro v5 w5 hown hB5 hg5 hat5
                have hown' : HOwn w5 w.heap.size v5 (hs ++ [(⟨B, c, xb⟩ : Hd)]) := by show w5.ownsRow _ _ 1 _ (hs ++ [(⟨B, c, xb⟩ : Hd)]).length _; rw [List.length_append]; exact hown
                obtain ⟨A5, c5, rfl⟩ := own_slice hown'
                obtain ⟨hw5, ha5⟩ := all_more HWP.out.win HWP.out.all (Below.refl _ _) hg5 hat5 hown'
                obtain ⟨wq, hwq⟩ : ∃ wq : List Hd, wq = hs ++ [⟨B, c, xb⟩] := ⟨_, rfl⟩
                have hmq : hs.map (·.l) ++ [xb] = wq.map (·.l) := by rw [hwq]; simp
                have hql : wq.length ≤ k + 9 := by rw [hwq, List.length_append]; simp only [List.length_cons, List.length_nil]; omega
                have HIQ := Lib.hid (show HdsIn w wq from by rw [hwq]; exact HdsIn.app HI.out (HdsIn.one QB.out hcB))
                have hsm : ∀ y ∈ wq, y.l.length ≤ 300 := by
                  rw [hwq]
                  intro y hy
                  rcases List.mem_append.1 hy with hy | hy
                  · exact HSM.out y hy
                  · rw [List.mem_singleton.1 hy]; exact hx4
                rw [← hwq] at ha5
                rw [← hwq]
                rw [hmq] at hw5
                have HW5 := Lib.hid hw5
                have HA5 := Lib.hid ha5
                clear HSM
                have HSM := Lib.hid hsm
                clear hown hown' hB5 hg5 hat5 hw5 ha5 hwq hmq hsm
                have HFB := Lib.hid (plays_room wq HSM.out)
                have hqk : wq.length ≤ 70 := by omega
                go_wp2_with (first
                  | (have hnn : (framesOf (wq.map (·.l))).length ≤ 1000000000 := by have := HFB.out; omega
                     go_at_call 27; refine (size_any A5 c5 wq w35 (own_reads_of' (HA35.out.1)) hnn).mono ?_; rintro r w37 ⟨rfl, rfl⟩
                     clear hnn)
                  | (go_at_call 26; refine (cal_size w w35 bt bl _ (wq.map (·.l)) F4 HW35.out).mono ?_; rintro r w36 ⟨rfl, rfl⟩)
                  | (go_at_call 20; refine (same_any A32 A5 c32 c5 g32 wq w32 HQ32.out (own_reads_of' (HA32.out.1)) HI32.out (HIQ.out.below HW32.out.below)).mono ?_; rintro r w35 ⟨rfl, hB35⟩; rw [decide_eq_true HM32.out]
                     have HW35 := Lib.hid (HW32.out.to hB35)
                     have HA35 := Lib.hid (HA32.out.below hB35)
                     clear hB35)
                  | (go_at_call 21; refine (cal_all w w5 bt bl _ (wq.map (·.l)) F4 HW5.out (by rw [List.length_map]; omega) (fun r hr => by obtain ⟨z, hz, rfl⟩ := List.mem_map.1 hr; exact Nat.le_trans (HSM.out z hz) (by decide))).mono ?_; rintro r w32 ⟨v32, rfl, hv32, hB32⟩
                     obtain ⟨A32, c32, rfl⟩ := Kd.R_slice hv32
                     obtain ⟨g32, hm32, hq32, hi32⟩ := hds_of_rows (Kd.R_reads' hv32).2.2
                     have hl32 := congrArg List.length hm32
                     rw [List.length_map] at hl32
                     rw [← hl32] at hq32
                     rw [← hl32]
                     have HQ32 := Lib.hid hq32
                     have HI32 := Lib.hid hi32
                     have HM32 := Lib.hid hm32
                     have HW32 := Lib.hid (HW5.out.to hB32)
                     have HA32 := Lib.hid (HA5.out.below hB32)
                     clear hv32 hm32 hq32 hi32 hB32 hl32))
                exact ⟨⟨k + 1, bl, wq, sy, (o + 1), F4, by omega, by omega, rfl, by simp, by omega, by push_cast; omega, by omega, HW35, HA35, HIQ, HSM⟩, by simp [intOf]; omega⟩
      · go_wp2_with (first
          | (go_at_call 23; refine (within4_any kd 4 _ (by decide) (by decide)).mono ?_; rintro e w2 ⟨rfl, hw2⟩
             have hM2 := mid_start HW.out HA.out hw2.symm
             have qb : w2.cell? ⟨wr.heap.size, 1, none⟩ = some (.slice B xb.length c) := blk_cell hM2.box 1
             have qr : w2.cell? ⟨wr.heap.size, 2, none⟩ = some (.slice D h0.length d) := blk_cell hM2.box 2
             have HM := Lib.hid hM2
             have HPC := Lib.hid (blk_lt hM2.box)
             rw [hkd]
             clear hw2 hM2 q0 q1 q2
             generalize wr.heap.size = pc at *)
          | (go_at_call 24; refine (cal_sync w w2 bt bl 1048576 o (hs.map (·.l)) sy F HM.out.win (by omega)).mono ?_; rintro r w4 ⟨rfl, F4, hW4, hF4, hK4⟩
             have HW4 := Lib.hid hW4
             have HA4 := Lib.hid (HM.out.all.step hK4 hF4)
             clear hW4 hF4 hK4))
        have HFB := Lib.hid (plays_room hs HSM.out)
        have hqk : hs.length ≤ 70 := by omega
        go_wp2_with (first
          | (have hnn : (framesOf (hs.map (·.l))).length ≤ 1000000000 := by have := HFB.out; omega
             go_at_call 27; refine (size_any Aa ca hs w35 (own_reads_of' (HA35.out.1)) hnn).mono ?_; rintro r w37 ⟨rfl, rfl⟩
             clear hnn)
          | (go_at_call 26; refine (cal_size w w35 bt bl _ (hs.map (·.l)) F4 HW35.out).mono ?_; rintro r w36 ⟨rfl, rfl⟩)
          | (go_at_call 20; refine (same_any A32 Aa c32 ca g32 hs w32 HQ32.out (own_reads_of' (HA32.out.1)) HI32.out (HI.out.below HW32.out.below)).mono ?_; rintro r w35 ⟨rfl, hB35⟩; rw [decide_eq_true HM32.out]
             have HW35 := Lib.hid (HW32.out.to hB35)
             have HA35 := Lib.hid (HA32.out.below hB35)
             clear hB35)
          | (go_at_call 21; refine (cal_all w w4 bt bl _ (hs.map (·.l)) F4 HW4.out (by rw [List.length_map]; omega) (fun r hr => by obtain ⟨z, hz, rfl⟩ := List.mem_map.1 hr; exact Nat.le_trans (HSM.out z hz) (by decide))).mono ?_; rintro r w32 ⟨v32, rfl, hv32, hB32⟩
             obtain ⟨A32, c32, rfl⟩ := Kd.R_slice hv32
             obtain ⟨g32, hm32, hq32, hi32⟩ := hds_of_rows (Kd.R_reads' hv32).2.2
             have hl32 := congrArg List.length hm32
             rw [List.length_map] at hl32
             rw [← hl32] at hq32
             rw [← hl32]
             have HQ32 := Lib.hid hq32
             have HI32 := Lib.hid hi32
             have HM32 := Lib.hid hm32
             have HW32 := Lib.hid (HW4.out.to hB32)
             have HA32 := Lib.hid (HA4.out.below hB32)
             clear hv32 hm32 hq32 hi32 hB32 hl32))
        exact ⟨⟨k + 1, bl, hs, (framesOf (hs.map (·.l))).length, (o + 1), F4, by omega, by omega, rfl, by simp, by omega, by push_cast; omega, by omega, HW35, HA35, HI, HSM⟩, by simp [intOf]; omega⟩
      · go_wp2_with (first
          | (go_at_call 23; refine (within4_any kd 4 _ (by decide) (by decide)).mono ?_; rintro e w2 ⟨rfl, hw2⟩
             have hM2 := mid_start HW.out HA.out hw2.symm
             have qb : w2.cell? ⟨wr.heap.size, 1, none⟩ = some (.slice B xb.length c) := blk_cell hM2.box 1
             have qr : w2.cell? ⟨wr.heap.size, 2, none⟩ = some (.slice D h0.length d) := blk_cell hM2.box 2
             have HM := Lib.hid hM2
             have HPC := Lib.hid (blk_lt hM2.box)
             rw [hkd]
             clear hw2 hM2 q0 q1 q2
             generalize wr.heap.size = pc at *)
          | (go_at_call 16; refine (small_any D d h0 w2 (QR.out.below HM.out.win.below)).mono ?_
             rintro r w3 ⟨v3, rfl, hv3, hB3⟩
             obtain ⟨A3, c3, rfl⟩ := own_slice hv3
             have HW3 := Lib.hid (HM.out.win.to hB3)
             have HA3 := Lib.hid (show OwnOk w3 F w.heap.size (.slice A3 (smallH h0).length c3) (smallH h0) from ⟨own_less hv3 HM.out.win.below.size, fun j hj hf => by have := own_base hv3 j hj; have := (HM.out.win.lt j hf).2; omega⟩)
             clear hv3 hB3)
          | (go_at_call 25; refine (cal_keep A3 c3 (smallH h0) w w3 bt bl 1048576 o (hs.map (·.l)) sy F HW3.out (by omega) (own_reads_of' HA3.out.1) (HIS.out.below HW3.out.below) (by omega) (fun y hy => Nat.le_trans (HSS.out y hy) (by decide)) (by have := plays_room (smallH h0) HSS.out; omega)).mono ?_; rintro r w4 ⟨rfl, F4, hW4, hF4, hK4⟩
             have HW4 := Lib.hid hW4
             have HA4 := Lib.hid (HA3.out.step hK4 hF4)
             clear hW4 hF4 hK4))
        clear HSM HA HI
        have HSM := HSS
        generalize smallH h0 = wq at *
        have hql : wq.length ≤ k + 9 := by omega
        have HFB := Lib.hid (plays_room wq HSM.out)
        have hqk : wq.length ≤ 70 := by omega
        go_wp2_with (first
          | (have hnn : (framesOf (wq.map (·.l))).length ≤ 1000000000 := by have := HFB.out; omega
             go_at_call 27; refine (size_any A3 c3 wq w35 (own_reads_of' (HA35.out.1)) hnn).mono ?_; rintro r w37 ⟨rfl, rfl⟩
             clear hnn)
          | (go_at_call 26; refine (cal_size w w35 bt bl _ (wq.map (·.l)) F4 HW35.out).mono ?_; rintro r w36 ⟨rfl, rfl⟩)
          | (go_at_call 20; refine (same_any A32 A3 c32 c3 g32 wq w32 HQ32.out (own_reads_of' (HA32.out.1)) HI32.out (HIS.out.below HW32.out.below)).mono ?_; rintro r w35 ⟨rfl, hB35⟩; rw [decide_eq_true HM32.out]
             have HW35 := Lib.hid (HW32.out.to hB35)
             have HA35 := Lib.hid (HA32.out.below hB35)
             clear hB35)
          | (go_at_call 21; refine (cal_all w w4 bt bl _ (wq.map (·.l)) F4 HW4.out (by rw [List.length_map]; omega) (fun r hr => by obtain ⟨z, hz, rfl⟩ := List.mem_map.1 hr; exact Nat.le_trans (HSM.out z hz) (by decide))).mono ?_; rintro r w32 ⟨v32, rfl, hv32, hB32⟩
             obtain ⟨A32, c32, rfl⟩ := Kd.R_slice hv32
             obtain ⟨g32, hm32, hq32, hi32⟩ := hds_of_rows (Kd.R_reads' hv32).2.2
             have hl32 := congrArg List.length hm32
             rw [List.length_map] at hl32
             rw [← hl32] at hq32
             rw [← hl32]
             have HQ32 := Lib.hid hq32
             have HI32 := Lib.hid hi32
             have HM32 := Lib.hid hm32
             have HW32 := Lib.hid (HW4.out.to hB32)
             have HA32 := Lib.hid (HA4.out.below hB32)
             clear hv32 hm32 hq32 hi32 hB32 hl32))
        exact ⟨⟨k + 1, bl, wq, (framesOf (wq.map (·.l))).length, (o + 1), F4, by omega, by omega, rfl, by simp, by omega, by push_cast; omega, by omega, HW35, HA35, HIS, HSM⟩, by simp [intOf]; omega⟩
      · go_wp2_with (first
          | (go_at_call 23; refine (within4_any kd 4 _ (by decide) (by decide)).mono ?_; rintro e w2 ⟨rfl, hw2⟩
             have hM2 := mid_start HW.out HA.out hw2.symm
             have qb : w2.cell? ⟨wr.heap.size, 1, none⟩ = some (.slice B xb.length c) := blk_cell hM2.box 1
             have qr : w2.cell? ⟨wr.heap.size, 2, none⟩ = some (.slice D h0.length d) := blk_cell hM2.box 2
             have HM := Lib.hid hM2
             have HPC := Lib.hid (blk_lt hM2.box)
             rw [hkd]
             clear hw2 hM2 q0 q1 q2
             generalize wr.heap.size = pc at *)
          | (go_at_call 15; refine (cal_open w w2 bt 1048576 o (hs.map (·.l)) sy F HM.out.win.tape (by omega) (fun r hr => by obtain ⟨z, hz, rfl⟩ := List.mem_map.1 hr; exact Nat.le_trans (HSM.out z hz) (by decide)) (by have := HFR.out; omega)).mono ?_; rintro r w4 ⟨bl4, F4, o4, rfl, hW4, ho4, ho4', hF4, hK4⟩
             have HW4 := Lib.hid hW4
             have HA4 := Lib.hid (HM.out.all.step hK4 hF4)
             clear hW4 hF4 hK4))
        have HFB := Lib.hid (plays_room hs HSM.out)
        have hqk : hs.length ≤ 70 := by omega
        go_wp2_with (first
          | (have hnn : (framesOf (hs.map (·.l))).length ≤ 1000000000 := by have := HFB.out; omega
             go_at_call 27; refine (size_any Aa ca hs w35 (own_reads_of' (HA35.out.1)) hnn).mono ?_; rintro r w37 ⟨rfl, rfl⟩
             clear hnn)
          | (go_at_call 26; refine (cal_size w w35 bt bl4 _ (hs.map (·.l)) F4 HW35.out).mono ?_; rintro r w36 ⟨rfl, rfl⟩)
          | (go_at_call 20; refine (same_any A32 Aa c32 ca g32 hs w32 HQ32.out (own_reads_of' (HA32.out.1)) HI32.out (HI.out.below HW32.out.below)).mono ?_; rintro r w35 ⟨rfl, hB35⟩; rw [decide_eq_true HM32.out]
             have HW35 := Lib.hid (HW32.out.to hB35)
             have HA35 := Lib.hid (HA32.out.below hB35)
             clear hB35)
          | (go_at_call 21; refine (cal_all w w4 bt bl4 _ (hs.map (·.l)) F4 HW4.out (by rw [List.length_map]; omega) (fun r hr => by obtain ⟨z, hz, rfl⟩ := List.mem_map.1 hr; exact Nat.le_trans (HSM.out z hz) (by decide))).mono ?_; rintro r w32 ⟨v32, rfl, hv32, hB32⟩
             obtain ⟨A32, c32, rfl⟩ := Kd.R_slice hv32
             obtain ⟨g32, hm32, hq32, hi32⟩ := hds_of_rows (Kd.R_reads' hv32).2.2
             have hl32 := congrArg List.length hm32
             rw [List.length_map] at hl32
             rw [← hl32] at hq32
             rw [← hl32]
             have HQ32 := Lib.hid hq32
             have HI32 := Lib.hid hi32
             have HM32 := Lib.hid hm32
             have HW32 := Lib.hid (HW4.out.to hB32)
             have HA32 := Lib.hid (HA4.out.below hB32)
             clear hv32 hm32 hq32 hi32 hB32 hl32))
        exact ⟨⟨k + 1, bl4, hs, sy, o4, F4, by omega, by omega, rfl, by simp, by omega, by push_cast; omega, by omega, HW35, HA35, HI, HSM⟩, by simp [intOf]; omega⟩
    · have ht : ¬ (k < cs.length) ∨ (k < cs.length ∧ (60 : Int) ≤ (k : Int)) := by
        by_cases h1 : k < cs.length
        · exact .inr ⟨h1, by omega⟩
        · exact .inl h1
      rcases ht with ht | ⟨ht0, ht⟩
      all_goals
        go_wp2_with fail
        go_ret
        exact ⟨rfl, HW.out.below⟩
theorem wplays_row (a1 : Option Addr) (cap1 : Nat) (l1 : List Cl) (w : World) (hg : Laid w) (hr1 : clK.C w a1 l1.length l1) (_ : l1.length ≤ cap1) :
    Calls Tryd.prog 6 #[.slice a1 l1.length cap1] w fun e w' => e = .returned (.bool true) ∧ Below w.heap.size w w' := wplays_any a1 cap1 l1 w hg hr1
end Go.Proofs.YtfnnjgbldojigaaDoor
