/- WalCrashes. -/
import Derived.Test.YtfnnjgbldojigaaDoorCraP
import Derived.Test.YtfnnjgbldojigaaDoorPlyL
set_option linter.unusedVariables false
set_option linter.unusedSimpArgs false
namespace Go.Proofs.YtfnnjgbldojigaaDoor
open Go.RowKit Go.Proofs.YtfnnjgbldojigaaDoorW.PrintWords Go.Proofs.Mine Go.Proofs.Mine.Crc

theorem cut_toR (A : Option Addr) (L c k : Nat) (h : k ≤ c) (W : World) : (Instr.slice 22 (.slice A L c) none (some (.int .i64 (k : Int))) none).run Tryd.prog W = .ok (.slice A k c) W := by
  have h1 : ¬ ((k : Int) < 0) := by omega
  have h2 : ¬ ((c : Int) < (k : Int)) := by omega
  simp [Instr.slice, run_underlying Tryd.underlying22, Instr.sliceBounds, Instr.sliceBound, asIntOf, h1, h2, h]
  intro _
  cases A <;> simp [Addr.add]
theorem app_out {w0 w w' : World} {bt bl : Nat} {s1 : TS} {E : Int} {ls ls1 G : LS} {F : Nat → Prop} {r : Ending} (h : AppPost w0 bt bl s1 E ls ls1 w F r w') (hE : E = 0 ∨ (E = 13 ∧ s1.dead = true)) (hG : ls1 = G) : ∃ ls', r = .returned (.int .i64 E) ∧ WalOut w0 bt bl s1 ls' w F w' ∧ (s1.dead = false → ls' = G) := by
  obtain ⟨h1, h2, h3⟩ := h
  rcases hE with hE | ⟨hE, hd⟩
  · exact ⟨ls1, h1, h2 hE, fun _ => hG⟩
  · exact ⟨ls, h1, h3 (by rw [hE]; decide), fun e => by rw [hd] at e; cases e⟩
set_option maxRecDepth 100000 in
set_option maxHeartbeats 4000000 in
theorem wcrashes_any (A1 : Option Addr) (cap1 : Nat) (cs : List Cl) (stop : Int) (A2 : Option Addr) (c2 : Nat) (l2 : List Int) (A3 : Option Addr) (c3 : Nat) (l3 : List Int) (w : World) (hg0 : Laid w) (hr1 : clK.C w A1 cs.length cs) (hr2 : ReadsInt w .i64 A2 l2.length l2) (hr3 : ReadsInt w .i64 A3 l3.length l3) :
    Calls Tryd.prog 7 #[.slice A1 cs.length cap1, .int .i64 stop, .slice A2 l2.length c2, .slice A3 l3.length c3] w fun e w' => e = .returned (.bool true) ∧ Below w.heap.size w w' := by
  have HG := Lib.hid hg0
  have R1 := Lib.hid hr1
  have R2 := Lib.hid hr2
  have R3 := Lib.hid hr3
  have hm1 : cs.length ≤ 9223372036854775807 := hr1.2.1
  have hm2 : l2.length ≤ 9223372036854775807 := hr2.2.1
  have hm3 : l3.length ≤ 9223372036854775807 := hr3.2.1
  obtain ⟨q60, hq⟩ : ∃ q : Nat, stop % 60 = (q : Int) := ⟨(stop % 60).toNat, by omega⟩
  have hq60 : q60 < 60 := by omega
  have HQ60 := Lib.hid hq
  clear hg0 hr1 hr2 hr3 hq
  go_enter Tryd.func7, Tryd.ntmps7
  go_wp2_with (first
    | (go_at_call 13; refine (known4_any w HG.out).mono ?_; rintro r w1 ⟨rfl, hB⟩; have HB1 := Lib.hid hB; clear hB)
    | (go_at_call 14; refine (new_ok 1048576 w1 (by decide) (by decide)).mono ?_; rintro r w3 ⟨rfl, hw3⟩
       have HI := Lib.hid (wal_start HG.out HB1.out 1048576 (by decide) (by decide) hw3)
       clear hw3
       generalize w1.heap.size = bt at *)
    | (go_at_call 15; refine (cal_open w w3 bt 1048576 0 [] 0 _ HI.out (by decide) (by simp) (by simp [framesOf])).mono ?_
       rintro r w4 ⟨bl, F4, o3, rfl, hW4, ho3, ho3', hF4, hK4⟩
       have HW4 := Lib.hid hW4
       clear hW4 hF4 hK4)
    | (go_at_call 23; refine (within4_any stop 60 w4 (by decide) (by decide)).mono ?_; rintro r w5 ⟨rfl, rfl⟩; rw [HQ60.out])
    | (go_at_call 28; refine (wstop_any (1 + (q60 : Int)) w w4 bt bl _ _ F4 HW4.out (by omega)).mono ?_; rintro r w5 ⟨rfl, F5, hW5, hF5, hK5⟩
       have HW5 := Lib.hid hW5
       clear hW5 hF5 hK5))
  clear HI
  go_loopw [13, 14, 15, 16, 17] (fun dv av kv cv iv wr => ∃ (k m : Nat) (hs ks : List Hd) (s : TS) (ls : LS) (F : Nat → Prop) (Ad : Option Addr) (cd : Nat) (cut : Bool), k ≤ 40 ∧ k ≤ cs.length ∧ dv = .slice Ad m cd ∧ cv = .bool cut ∧ iv = .int .i64 (k : Int) ∧ s.ops ≤ (k : Int) + 1 ∧ hs.length ≤ k + 8 ∧ ks.length ≤ 8 ∧ RowKit.Hid (WalIn w bt bl s ls wr F) ∧ RowKit.Hid (Bear s (hs.map (·.l)) m) ∧ RowKit.Hid (s.dead = false → ls = gl (hs.map (·.l))) ∧ RowKit.Hid (OwnOk wr F w.heap.size av hs) ∧ RowKit.Hid (OwnOk wr F w.heap.size kv ks) ∧ RowKit.Hid (∀ j, kv.ownBlock = some j → av.ownBlock ≠ some j) ∧ RowKit.Hid (HdsIn w hs) ∧ RowKit.Hid (HdsIn w ks) ∧ RowKit.Hid (∀ y ∈ hs, y.l.length ≤ 300)) (fun _ _ _ _ iv _ => 40 - (intOf iv).toNat)
  case atStart => exact ⟨0, 0, [], [], _, _, F5, none, 0, false, by omega, by omega, rfl, rfl, rfl, by show o3 ≤ _; omega, by simp, by simp, HW5, Lib.hid ⟨rfl, rfl, Nat.le_refl _, Nat.le_refl _⟩, Lib.hid (fun _ => rfl), Lib.hid ⟨own_nil _ _ _ _, fun k hk => by cases hk⟩, Lib.hid ⟨own_nil _ _ _ _, fun k hk => by cases hk⟩, Lib.hid (fun j hj => by cases hj), Lib.hid (HdsIn.nil w), Lib.hid (HdsIn.nil w), Lib.hid (fun y hy => by cases hy)⟩
  case round =>
    obtain ⟨k, m, hs, ks, s, ls, F, Ad, cd, cut, hk40, hkl, rfl, rfl, rfl, ho1, hhl, hkl8, HW, HBE, HLS, HA, HK, HDJ, HI, HIK, HSM⟩ := hrel
    obtain ⟨Aa, ca, rfl⟩ := own_slice HA.out.1
    obtain ⟨Ak, ck, rfl⟩ := own_slice HK.out.1
    have HT := Lib.hid HW.out.tape
    have hfr := plays_room hs HSM.out
    have HFR := Lib.hid (show (framesOf (hs.map (·.l))).length ≤ 30000 from by omega)
    clear hfr
    by_cases hlt : (k < cs.length ∧ k < 40) ∧ s.dead = false
    · obtain ⟨hlt, hdd0⟩ := hlt
      have HD := Lib.hid hdd0
      clear hdd0
      generalize hkv : (Value.slice Ak ks.length ck) = kv at *
      clear hkv
      obtain ⟨x, hx⟩ : ∃ x, cs[k]? = some x := ⟨_, List.getElem?_eq_getElem hlt.1⟩
      obtain ⟨kd, xb, xr⟩ := x
      obtain ⟨ad, B, c, D, d, rfl, h00, h1, h2, hB, hcB, hD, hcD⟩ := cl_at R1.out hx
      dsimp only at h00 h1 h2 hB hcB hD hcD
      obtain ⟨h0, hm0, hq0, hi0⟩ := hds_of_rows hD
      have hxl : xr.length = h0.length := by rw [← hm0, List.length_map]
      rw [hxl] at h2 hq0
      obtain ⟨ea, hea⟩ : ∃ ea, ea = ad.add (k * 3) := ⟨_, rfl⟩
      rw [← hea] at h00 h1 h2
      have q0 : wr.cell? ea = some (.int .i64 kd) := pw_cell_below HW.out.below h00
      have q1 : wr.cell? ⟨ea.block, ea.off + 1, none⟩ = some (.slice B xb.length c) := pw_cell_below HW.out.below h1
      have q2 : wr.cell? ⟨ea.block, ea.off + 2, none⟩ = some (.slice D h0.length d) := pw_cell_below HW.out.below h2
      have hlt1 : (k : Int) < (cs.length : Int) := by omega
      have hlt2 : (k : Int) < 40 := by omega
      have hk0 : (0 : Int) ≤ (k : Int) := by omega
      have hea2 := hea.symm
      have QB := Lib.hid hB
      have QR := Lib.hid hq0
      have HIS := Lib.hid (HdsIn.sub hi0 (fun y (hy : y ∈ smallH h0) => (smallH_mem hy).1))
      have HSS := Lib.hid (fun y (hy : y ∈ smallH h0) => (smallH_mem hy).2)
      have hs8 := smallH_len h0
      clear hx h00 h1 h2 hea hB hD hm0 hxl hq0 hi0
      rcases three_ways kd with hkd | hkd | hkd
      · by_cases hx3 : (300 : Int) < (xb.length : Int)
        · go_wp2_with (first
          | (go_at_call 29; refine (dead_any wr w.heap.size bt F s HT.out.at_).mono ?_; rintro r w2 ⟨rfl, rfl⟩; rw [HD.out])
          | (go_at_call 23; refine (within4_any kd 3 _ (by decide) (by decide)).mono ?_; rintro e w2 ⟨rfl, hw2⟩
             have hM2 := mid_start HW.out HA.out hw2.symm
             have hB2 : Below wr.heap.size wr w2 := by rw [← hw2]; exact (Below.refl _ _).alloc (Nat.le_refl _) _
             have qb : w2.cell? ⟨wr.heap.size, 1, none⟩ = some (.slice B xb.length c) := blk_cell hM2.box 1
             have qr : w2.cell? ⟨wr.heap.size, 2, none⟩ = some (.slice D h0.length d) := blk_cell hM2.box 2
             have HM := Lib.hid hM2
             have HK2 := Lib.hid (HK.out.below hB2)
             rw [hkd]
             clear hw2 hM2 q0 q1 q2 hB2
             generalize wr.heap.size = pc at *)
          | fail)
          have HOP := Lib.hid (show s.ops ≤ s.ops + 1 from by omega)
          exact ⟨⟨k + 1, m, hs, ks, s, ls, F, Ad, cd, cut, by omega, by omega, rfl, rfl, by simp, by have := HOP.out; have := ho1; push_cast; omega, by omega, by omega, Lib.hid HM.out.win, HBE, HLS, Lib.hid HM.out.all, HK2, HDJ, HI, HIK, HSM⟩, by simp [intOf]; omega⟩
        have hx4 : xb.length ≤ 300 := by omega
        obtain ⟨hE, hbe, hop1, hop2⟩ := bear_append HBE.out HD.out xb (by have := HFR.out; omega)
        have HE := Lib.hid hE
        have HBE2 := Lib.hid hbe
        have HOP := Lib.hid hop2
        clear hE hbe hop1 hop2
        go_wp2_with (first
          | (go_at_call 29; refine (dead_any wr w.heap.size bt F s HT.out.at_).mono ?_; rintro r w2 ⟨rfl, rfl⟩; rw [HD.out])
          | (go_at_call 23; refine (within4_any kd 3 _ (by decide) (by decide)).mono ?_; rintro e w2 ⟨rfl, hw2⟩
             have hM2 := mid_start HW.out HA.out hw2.symm
             have hB2 : Below wr.heap.size wr w2 := by rw [← hw2]; exact (Below.refl _ _).alloc (Nat.le_refl _) _
             have qb : w2.cell? ⟨wr.heap.size, 1, none⟩ = some (.slice B xb.length c) := blk_cell hM2.box 1
             have qr : w2.cell? ⟨wr.heap.size, 2, none⟩ = some (.slice D h0.length d) := blk_cell hM2.box 2
             have HM := Lib.hid hM2
             have HK2 := Lib.hid (HK.out.below hB2)
             rw [hkd]
             clear hw2 hM2 q0 q1 q2 hB2
             generalize wr.heap.size = pc at *)
          | (at_builtin; refine print_append_of (w0 := w) (W := w2) Hd.v w.heap.size rfl _ _ 22 32 (.slice none 0 0) 24 rfl Tryd.underlying22 infoR rfl (by decide) (.slice Aa hs.length ca) hs ⟨B, c, xb⟩ rfl rfl (hd_one _) HM.out.all.1 HM.out.win.below HM.out.win.below.size (by omega) ?g6))
        case g6 =>
          intro v5 w5 hown hB5 hg5 hat5
          have hown' : HOwn w5 w.heap.size v5 (hs ++ [(⟨B, c, xb⟩ : Hd)]) := by show w5.ownsRow _ _ 1 _ (hs ++ [(⟨B, c, xb⟩ : Hd)]).length _; rw [List.length_append]; exact hown
          obtain ⟨hw5, ha5⟩ := all_more HM.out.win HM.out.all (Below.refl _ _) hg5 hat5 hown'
          have hk5 : Keep (fun k => (Value.slice Aa hs.length ca).ownBlock = some k) w2 w5 := Keep.of_grown hg5 (fun k hk => hk)
          have hkk : OwnOk w5 F w.heap.size kv ks := ⟨hk5.own HK2.out.1 (fun j hj => HDJ.out j hj), HK2.out.2⟩
          have hdj : ∀ j, kv.ownBlock = some j → v5.ownBlock ≠ some j := fun j hj e => by
            rcases hat5 with e2 | ⟨bb, e2, hle⟩
            · exact HDJ.out j hj (e2 ▸ e)
            · rw [e2] at e; injection e with e; have := own_lt HK2.out.1 j hj; omega
          have qb5 : w5.cell? ⟨pc, 1, none⟩ = some (.slice B xb.length c) := blk_cell (blk_keep hk5 HM.out.box HM.out.pout.2.1) 1
          obtain ⟨A5, c5, rfl⟩ := own_slice hown'
          obtain ⟨wq, hwq⟩ : ∃ wq : List Hd, wq = hs ++ [⟨B, c, xb⟩] := ⟨_, rfl⟩
          have hmq : hs.map (·.l) ++ [xb] = wq.map (·.l) := by rw [hwq]; simp
          have hql : wq.length ≤ k + 9 := by rw [hwq, List.length_append]; simp only [List.length_cons, List.length_nil]; omega
          have HIQ := Lib.hid (show HdsIn w wq from by rw [hwq]; exact HdsIn.app HI.out (HdsIn.one QB.out hcB))
          have hsm : ∀ y ∈ wq, y.l.length ≤ 300 := by
            rw [hwq]
            intro y hy
            rcases List.mem_append.1 hy with hy | hy
            · exact HSM.out y hy
            · rw [List.mem_singleton.1 hy]; exact hx4
          rw [← hwq] at ha5 hdj
          rw [← hwq]
          rw [hmq] at HBE2
          have HMQ := Lib.hid hmq
          have HW5 := Lib.hid hw5
          have HA5 := Lib.hid ha5
          have HK5 := Lib.hid hkk
          have HDJ5 := Lib.hid hdj
          have HSM5 := Lib.hid hsm
          clear hown hown' hB5 hg5 hat5 hw5 ha5 hwq hmq hsm hkk hdj hk5
          go_wp2_with (go_at_call 18; refine (wlappend_any B c xb w w5 bt bl s ls F HW5.out (by omega) (QB.out.below HW5.out.below) (by omega) (fun hp a ha hf => by have := reads_lt QB.out hp a ha; have := (HW5.out.lt _ hf).1; omega) (by rw [HLS.out HD.out]; show (hs.map (·.l)).length ≤ _; rw [List.length_map]; omega) (by rw [HLS.out HD.out]; show (framesOf (hs.map (·.l))).length ≤ _; have := HFR.out; omega)).mono ?_; intro r w6 hap
                       obtain ⟨ls6, rfl, ⟨F6, hW6, hF6, hK6⟩, hls6⟩ := app_out hap HE.out (G := gl (wq.map (·.l))) (by rw [HLS.out HD.out, ← HMQ.out]; unfold gl; rw [frames_len_snoc])
                       have HW6 := Lib.hid hW6
                       have HA6 := Lib.hid (HA5.out.step hK6 hF6)
                       have HK6 := Lib.hid (HK5.out.step hK6 hF6)
                       have HLS6 := Lib.hid hls6
                       clear hap hW6 hF6 hK6 hls6)
          exact ⟨⟨k + 1, m, wq, ks, _, ls6, F6, Ad, cd, cut, by omega, by omega, rfl, rfl, by simp, by have := HOP.out; have := ho1; push_cast; omega, by omega, by omega, HW6, HBE2, HLS6, HA6, HK6, HDJ5, HIQ, HIK, HSM5⟩, by simp [intOf]; omega⟩
      · obtain ⟨hE, hop1, hop2⟩ := bear_sync HBE.out HD.out
        have HOP := Lib.hid hop2
        have HLS2 := Lib.hid (show (syncS s).dead = false → ls = gl (hs.map (·.l)) from fun _ => HLS.out HD.out)
        clear hop1 hop2
        rcases hE with ⟨hE, hbe⟩ | ⟨hE, hdd, hbe⟩
        · have HE := Lib.hid hE
          rw [List.length_map] at hbe
          have HBE2 := Lib.hid hbe
          clear hE hbe
          go_wp2_with (first
            | (go_at_call 29; refine (dead_any wr w.heap.size bt F s HT.out.at_).mono ?_; rintro r w2 ⟨rfl, rfl⟩; rw [HD.out])
            | (go_at_call 23; refine (within4_any kd 3 _ (by decide) (by decide)).mono ?_; rintro e w2 ⟨rfl, hw2⟩
               have hM2 := mid_start HW.out HA.out hw2.symm
               have hB2 : Below wr.heap.size wr w2 := by rw [← hw2]; exact (Below.refl _ _).alloc (Nat.le_refl _) _
               have qb : w2.cell? ⟨wr.heap.size, 1, none⟩ = some (.slice B xb.length c) := blk_cell hM2.box 1
               have qr : w2.cell? ⟨wr.heap.size, 2, none⟩ = some (.slice D h0.length d) := blk_cell hM2.box 2
               have HM := Lib.hid hM2
               have HK2 := Lib.hid (HK.out.below hB2)
               rw [hkd]
               clear hw2 hM2 q0 q1 q2 hB2
               generalize wr.heap.size = pc at *)
            | (go_at_call 24; refine (wsync_any w w2 bt bl s ls F HM.out.win (by omega)).mono ?_; rintro r w4 ⟨rfl, F4, hW4, hF4, hK4⟩
               rw [HE.out]
               have HW4 := Lib.hid hW4
               have HA4 := Lib.hid (HM.out.all.step hK4 hF4)
               have HK4 := Lib.hid (HK2.out.step hK4 hF4)
               clear hW4 hF4 hK4)
            | (at_builtin; refine print_append_row_of (w0 := w4) Hd.v hd0 w4.heap.size rfl _ _ 22 32 (.slice none 0 0) 24 rfl Tryd.underlying22 infoR rfl (by decide) hd_one (.slice (some ⟨w4.heap.size, 0, none⟩) 0 0) [] hs Aa hs.length ca rfl rfl ?y1 ?y2 ?y3 ?y4 ?y5 ?y6))
          case y1 => exact own_lit_of (enc := Hd.v) w4 w4.heap.size 32 [] (Nat.le_refl _) (by decide)
          case y2 => exact (own_reads_of' (HA4.out.1)).below ((Below.refl _ _).alloc (Nat.le_refl _) _)
          case y3 => exact (Below.refl _ _).alloc (Nat.le_refl _) _
          case y4 => simp
          case y5 => simp; omega
          case y6 =>
            intro v6 w6 hown hB _ _
            have hown' : HOwn w6 w4.heap.size v6 hs := hown
            obtain ⟨A6, c6, rfl⟩ := own_slice hown'
            have HW6 := Lib.hid (HW4.out.to hB)
            have HA6 := Lib.hid (HA4.out.below hB)
            have HK6 := Lib.hid (HK4.out.below hB)
            clear hown hown' hB
            go_wp2_with fail
            exact ⟨⟨k + 1, hs.length, hs, ks, _, ls, F4, A6, c6, cut, by omega, by omega, rfl, rfl, by simp, by have := HOP.out; have := ho1; push_cast; omega, by omega, by omega, HW6, HBE2, HLS2, HA6, HK6, HDJ, HI, HIK, HSM⟩, by simp [intOf]; omega⟩

        · have HE := Lib.hid hE
          have HBE2 := Lib.hid hbe
          clear hE hbe
          go_wp2_with (first
            | (go_at_call 29; refine (dead_any wr w.heap.size bt F s HT.out.at_).mono ?_; rintro r w2 ⟨rfl, rfl⟩; rw [HD.out])
            | (go_at_call 23; refine (within4_any kd 3 _ (by decide) (by decide)).mono ?_; rintro e w2 ⟨rfl, hw2⟩
               have hM2 := mid_start HW.out HA.out hw2.symm
               have hB2 : Below wr.heap.size wr w2 := by rw [← hw2]; exact (Below.refl _ _).alloc (Nat.le_refl _) _
               have qb : w2.cell? ⟨wr.heap.size, 1, none⟩ = some (.slice B xb.length c) := blk_cell hM2.box 1
               have qr : w2.cell? ⟨wr.heap.size, 2, none⟩ = some (.slice D h0.length d) := blk_cell hM2.box 2
               have HM := Lib.hid hM2
               have HK2 := Lib.hid (HK.out.below hB2)
               rw [hkd]
               clear hw2 hM2 q0 q1 q2 hB2
               generalize wr.heap.size = pc at *)
            | (go_at_call 24; refine (wsync_any w w2 bt bl s ls F HM.out.win (by omega)).mono ?_; rintro r w4 ⟨rfl, F4, hW4, hF4, hK4⟩
               rw [HE.out]
               have HW4 := Lib.hid hW4
               have HA4 := Lib.hid (HM.out.all.step hK4 hF4)
               have HK4 := Lib.hid (HK2.out.step hK4 hF4)
               clear hW4 hF4 hK4)
            | fail)
          exact ⟨⟨k + 1, m, hs, ks, _, ls, F4, Ad, cd, cut, by omega, by omega, rfl, rfl, by simp, by have := HOP.out; have := ho1; push_cast; omega, by omega, by omega, HW4, HBE2, HLS2, HA4, HK4, HDJ, HI, HIK, HSM⟩, by simp [intOf]; omega⟩
      · have hfk : (framesOf ((smallH h0).map (·.l))).length ≤ 1048576 := by have := plays_room (smallH h0) HSS.out; omega
        obtain ⟨hE, hop1, hop2⟩ := bear_keep HBE.out HD.out ((smallH h0).map (·.l)) hfk
        have HOP := Lib.hid hop2
        clear hop1 hop2 hfk
        rcases hE with ⟨hE, hbe⟩ | ⟨hE, hdd, hbe⟩
        · have HE := Lib.hid hE
          have HE2 := Lib.hid (show replaceE s (n8 (framesOf ((smallH h0).map (·.l)))) = 0 ∨ (replaceE s (n8 (framesOf ((smallH h0).map (·.l)))) = 13 ∧ (replaceS s (n8 (framesOf ((smallH h0).map (·.l))))).dead = true) from .inl hE)
          rw [List.length_map] at hbe
          have HBE2 := Lib.hid hbe
          clear hE hbe
          go_wp2_with (first
            | (go_at_call 29; refine (dead_any wr w.heap.size bt F s HT.out.at_).mono ?_; rintro r w2 ⟨rfl, rfl⟩; rw [HD.out])
            | (go_at_call 23; refine (within4_any kd 3 _ (by decide) (by decide)).mono ?_; rintro e w2 ⟨rfl, hw2⟩
               have hM2 := mid_start HW.out HA.out hw2.symm
               have hB2 : Below wr.heap.size wr w2 := by rw [← hw2]; exact (Below.refl _ _).alloc (Nat.le_refl _) _
               have qb : w2.cell? ⟨wr.heap.size, 1, none⟩ = some (.slice B xb.length c) := blk_cell hM2.box 1
               have qr : w2.cell? ⟨wr.heap.size, 2, none⟩ = some (.slice D h0.length d) := blk_cell hM2.box 2
               have HM := Lib.hid hM2
               have HK2 := Lib.hid (HK.out.below hB2)
               rw [hkd]
               clear hw2 hM2 q0 q1 q2 hB2
               generalize wr.heap.size = pc at *)
            | (go_at_call 16; refine (small_any D d h0 w2 (QR.out.below HM.out.win.below)).mono ?_
               rintro r w3 ⟨v3, rfl, hv3, hB3⟩
               obtain ⟨A3, c3, rfl⟩ := own_slice hv3
               have HW3 := Lib.hid (HM.out.win.to hB3)
               have HA3 := Lib.hid (HM.out.all.below hB3)
               have HK3 := Lib.hid (show OwnOk w3 F w.heap.size (.slice A3 (smallH h0).length c3) (smallH h0) from ⟨own_less hv3 HM.out.win.below.size, fun j hj hf => by have := own_base hv3 j hj; have := (HM.out.win.lt j hf).2; omega⟩)
               have HDJ3 := Lib.hid (fun j (hj : (Value.slice A3 (smallH h0).length c3).ownBlock = some j) => (show (Value.slice Aa hs.length ca).ownBlock ≠ some j from fun e => by have := own_base hv3 j hj; have := own_lt HM.out.all.1 j e; omega))
               clear hv3 hB3)
            | (go_at_call 25; refine (wlkeep_any A3 c3 (smallH h0) w w3 bt bl s ls F HW3.out (by omega) (own_reads_of' HK3.out.1) (HIS.out.below HW3.out.below) (by omega) (fun y hy => Nat.le_trans (HSS.out y hy) (by decide))).mono ?_; intro r w4 hap
               obtain ⟨ls4, rfl, ⟨F4, hW4, hF4, hK4⟩, hls4⟩ := app_out hap HE2.out (G := gl ((smallH h0).map (·.l))) rfl
               rw [HE.out]
               have HW4 := Lib.hid hW4
               have HA4 := Lib.hid (HA3.out.step hK4 hF4)
               have HK4 := Lib.hid (HK3.out.step hK4 hF4)
               have HLS4 := Lib.hid hls4
               clear hap hW4 hF4 hK4 hls4)
            | (at_builtin; refine print_append_row_of (w0 := w4) Hd.v hd0 w4.heap.size rfl _ _ 22 32 (.slice none 0 0) 24 rfl Tryd.underlying22 infoR rfl (by decide) hd_one (.slice (some ⟨w4.heap.size, 0, none⟩) 0 0) [] (smallH h0) A3 (smallH h0).length c3 rfl rfl ?ka1 ?ka2 ?ka3 ?ka4 ?ka5 ?ka6))
          case ka1 => exact own_lit_of (enc := Hd.v) w4 w4.heap.size 32 [] (Nat.le_refl _) (by decide)
          case ka2 => exact (own_reads_of' (HK4.out.1)).below ((Below.refl _ _).alloc (Nat.le_refl _) _)
          case ka3 => exact (Below.refl _ _).alloc (Nat.le_refl _) _
          case ka4 => simp
          case ka5 => simp; omega
          case ka6 =>
            intro v7 w7 hown hB _ _
            have hown' : HOwn w7 w4.heap.size v7 (smallH h0) := hown
            obtain ⟨A7, c7, rfl⟩ := own_slice hown'
            have HW7 := Lib.hid (HW4.out.to hB)
            have HA7 := Lib.hid (show OwnOk w7 F4 w.heap.size (.slice A7 (smallH h0).length c7) (smallH h0) from ⟨own_less hown' HW4.out.below.size, fun j hj hf => by have := own_base hown' j hj; have := (HW4.out.lt j hf).2; omega⟩)
            have HK7 := Lib.hid (HK4.out.below hB)
            have HDJ7 := Lib.hid (fun j (hj : (Value.slice A3 (smallH h0).length c3).ownBlock = some j) => (show (Value.slice A7 (smallH h0).length c7).ownBlock ≠ some j from fun e => by have := own_base hown' j e; have := own_lt HK4.out.1 j hj; omega))
            clear hown hown' hB
            go_wp2_with (first
              | (at_builtin; refine print_append_row_of (w0 := w7) Hd.v hd0 w7.heap.size rfl _ _ 22 32 (.slice none 0 0) 24 rfl Tryd.underlying22 infoR rfl (by decide) hd_one (.slice (some ⟨w7.heap.size, 0, none⟩) 0 0) [] (smallH h0) A3 (smallH h0).length c3 rfl rfl ?kb1 ?kb2 ?kb3 ?kb4 ?kb5 ?kb6))
            case kb1 => exact own_lit_of (enc := Hd.v) w7 w7.heap.size 32 [] (Nat.le_refl _) (by decide)
            case kb2 => exact (own_reads_of' (HK7.out.1)).below ((Below.refl _ _).alloc (Nat.le_refl _) _)
            case kb3 => exact (Below.refl _ _).alloc (Nat.le_refl _) _
            case kb4 => simp
            case kb5 => simp; omega
            case kb6 =>
              intro v8 w8 hown hB _ _
              have hown' : HOwn w8 w7.heap.size v8 (smallH h0) := hown
              obtain ⟨A8, c8, rfl⟩ := own_slice hown'
              have HW8 := Lib.hid (HW7.out.to hB)
              have HA8 := Lib.hid (HA7.out.below hB)
              have HK8 := Lib.hid (HK7.out.below hB)
              clear hown hown' hB
              go_wp2_with fail
              exact ⟨⟨k + 1, (smallH h0).length, (smallH h0), (smallH h0), _, ls4, F4, A8, c8, cut, by omega, by omega, rfl, rfl, by simp, by have := HOP.out; have := ho1; push_cast; omega, by omega, by omega, HW8, HBE2, HLS4, HA8, HK8, HDJ7, HIS, HIS, HSS⟩, by simp [intOf]; omega⟩

        · have HE := Lib.hid hE
          have HE2 := Lib.hid (show replaceE s (n8 (framesOf ((smallH h0).map (·.l)))) = 0 ∨ (replaceE s (n8 (framesOf ((smallH h0).map (·.l)))) = 13 ∧ (replaceS s (n8 (framesOf ((smallH h0).map (·.l))))).dead = true) from .inr ⟨hE, hdd⟩)
          have HBE2 := Lib.hid hbe
          have HLS9 := Lib.hid (show (replaceS s (n8 (framesOf ((smallH h0).map (·.l))))).dead = false → ∀ lx, lx = gl (hs.map (·.l)) from fun e => by rw [hdd] at e; cases e)
          clear hE hbe hdd
          go_wp2_with (first
            | (go_at_call 29; refine (dead_any wr w.heap.size bt F s HT.out.at_).mono ?_; rintro r w2 ⟨rfl, rfl⟩; rw [HD.out])
            | (go_at_call 23; refine (within4_any kd 3 _ (by decide) (by decide)).mono ?_; rintro e w2 ⟨rfl, hw2⟩
               have hM2 := mid_start HW.out HA.out hw2.symm
               have hB2 : Below wr.heap.size wr w2 := by rw [← hw2]; exact (Below.refl _ _).alloc (Nat.le_refl _) _
               have qb : w2.cell? ⟨wr.heap.size, 1, none⟩ = some (.slice B xb.length c) := blk_cell hM2.box 1
               have qr : w2.cell? ⟨wr.heap.size, 2, none⟩ = some (.slice D h0.length d) := blk_cell hM2.box 2
               have HM := Lib.hid hM2
               have HK2 := Lib.hid (HK.out.below hB2)
               rw [hkd]
               clear hw2 hM2 q0 q1 q2 hB2
               generalize wr.heap.size = pc at *)
            | (go_at_call 16; refine (small_any D d h0 w2 (QR.out.below HM.out.win.below)).mono ?_
               rintro r w3 ⟨v3, rfl, hv3, hB3⟩
               obtain ⟨A3, c3, rfl⟩ := own_slice hv3
               have HW3 := Lib.hid (HM.out.win.to hB3)
               have HA3 := Lib.hid (HM.out.all.below hB3)
               have HK3 := Lib.hid (show OwnOk w3 F w.heap.size (.slice A3 (smallH h0).length c3) (smallH h0) from ⟨own_less hv3 HM.out.win.below.size, fun j hj hf => by have := own_base hv3 j hj; have := (HM.out.win.lt j hf).2; omega⟩)
               have HDJ3 := Lib.hid (fun j (hj : (Value.slice A3 (smallH h0).length c3).ownBlock = some j) => (show (Value.slice Aa hs.length ca).ownBlock ≠ some j from fun e => by have := own_base hv3 j hj; have := own_lt HM.out.all.1 j e; omega))
               clear hv3 hB3)
            | (go_at_call 25; refine (wlkeep_any A3 c3 (smallH h0) w w3 bt bl s ls F HW3.out (by omega) (own_reads_of' HK3.out.1) (HIS.out.below HW3.out.below) (by omega) (fun y hy => Nat.le_trans (HSS.out y hy) (by decide))).mono ?_; intro r w4 hap
               obtain ⟨ls4, rfl, ⟨F4, hW4, hF4, hK4⟩, hls4⟩ := app_out hap HE2.out (G := gl ((smallH h0).map (·.l))) rfl
               rw [HE.out]
               have HW4 := Lib.hid hW4
               have HA4 := Lib.hid (HA3.out.step hK4 hF4)
               have HK4 := Lib.hid (HK3.out.step hK4 hF4)
               have HLS4 := Lib.hid hls4
               clear hap hW4 hF4 hK4 hls4)
            | fail)
          exact ⟨⟨k + 1, m, hs, (smallH h0), _, ls4, F4, Ad, cd, true, by omega, by omega, rfl, rfl, by simp, by have := HOP.out; have := ho1; push_cast; omega, by omega, by omega, HW4, HBE2, Lib.hid (fun e => HLS9.out e _), HA4, HK4, HDJ3, HI, HIS, HSM⟩, by simp [intOf]; omega⟩
    · have ht : ¬ (k < cs.length) ∨ (k < cs.length ∧ (40 : Int) ≤ (k : Int)) ∨ (k < cs.length ∧ (k : Int) < 40 ∧ s.dead = true) := by
        by_cases h1 : k < cs.length
        · by_cases h2 : k < 40
          · right; right; refine ⟨h1, by omega, ?_⟩
            cases h3 : s.dead
            · exact absurd ⟨⟨h1, h2⟩, h3⟩ hlt
            · rfl
          · exact .inr (.inl ⟨h1, by omega⟩)
        · exact .inl h1
      clear hlt
      have HOK := Lib.hid HW.out.ok
      have hso : s.ops ≤ 41 := by omega
      obtain ⟨db, hdb⟩ : ∃ db, db = s.dead := ⟨_, rfl⟩
      have HD := Lib.hid hdb.symm
      rw [← hdb] at ht
      clear hdb
      rcases ht with ht | ⟨ht0, ht⟩ | ⟨ht0, ht, rfl⟩
      all_goals
        go_wp2_with (first
          | (go_at_call 29; refine (dead_any wr w.heap.size bt F s HT.out.at_).mono ?_; rintro r w2 ⟨rfl, rfl⟩; rw [HD.out])
          | fail)
        obtain ⟨HT, HC⟩ : RowKit.Hid (TapeIn w bt s wr F) ∧ RowKit.Hid (Cut s (hs.map (·.l)) m (framesOf (hs.map (·.l))).length) := ⟨Lib.hid HW.out.tape, Lib.hid HBE.out.cut⟩
        go_loopw [19] (fun iv wr => ∃ (i c : Nat) (s : TS) (F : Nat → Prop), i ≤ 4 ∧ i ≤ l3.length ∧ iv = .int .i64 (i : Int) ∧ s.ops ≤ 41 + (i : Int) ∧ RowKit.Hid (TapeIn w bt s wr F) ∧ RowKit.Hid (Cut s (hs.map (·.l)) m c) ∧ RowKit.Hid (OwnOk wr F w.heap.size (.slice Aa hs.length ca) hs) ∧ RowKit.Hid (OwnOk wr F w.heap.size (.slice Ak ks.length ck) ks)) (fun iv _ => 4 - (intOf iv).toNat)
        case atStart => exact ⟨0, _, s, F, by omega, by omega, rfl, by omega, HT, HC, HA, HK⟩
        case round =>
          clear HW HBE HLS HT HC HA HK HOK HDJ
          obtain ⟨i, c, s, F, hi4, hil, rfl, hops, HT, HC, HA, HK⟩ := hrel
          by_cases hlt3 : i < l3.length ∧ i < 4
          · obtain ⟨ad, rfl, hc3⟩ := R3.out.2.2 (by omega)
            have hcg := hc3 i hlt3.1
            clear hc3
            have HCG := Lib.hid hcg
            generalize l3.getD i 0 = ag at *
            obtain ⟨q, hq⟩ : ∃ q : Nat, ag % 4 = (q : Int) := ⟨(ag % 4).toNat, by omega⟩
            have hq4 : q < 4 := by omega
            have HQ := Lib.hid hq
            have hi1 : (i : Int) < (l3.length : Int) := by omega
            have hi2 : (i : Int) < 4 := by omega
            have hi0 : (0 : Int) ≤ (i : Int) := by omega
            have HCC := Lib.hid (HC.out.crash HT.out.ok (pickV l2 (i : Int)))
            clear hq hcg
            go_wp2_with (first
              | (go_at_call 30; refine (pick_any A2 c2 l2 (i : Int) wr (ReadsInt.below R2.out HT.out.below)).mono ?_; rintro r w6 ⟨rfl, rfl⟩)
              | (go_at_call 19; refine (crash_in (pickV l2 (i : Int)) w wr bt F s HT.out).mono ?_; rintro r w7 ⟨rfl, F7, hT7, hF7, hK7⟩
                 have qg : w7.cell? (ad.add i) = some (.int .i64 ag) := pw_cell_below hT7.below HCG.out
                 have HT7 := Lib.hid hT7
                 have HA7 := Lib.hid (HA.out.step hK7 hF7)
                 have HK7 := Lib.hid (HK.out.step hK7 hF7)
                 clear hT7 hF7 hK7)
              | (go_at_call 23; refine (within4_any ag 4 w7 (by decide) (by decide)).mono ?_; rintro r w8 ⟨rfl, rfl⟩; rw [HQ.out])
              | (go_at_call 28; refine (stop_in (1 + (q : Int)) w w7 bt F7 _ HT7.out (by omega)).mono ?_; rintro r w8 ⟨rfl, F8, hT8, hF8, hK8⟩
                 have HT8 := Lib.hid hT8
                 have HA8 := Lib.hid (HA7.out.step hK8 hF8)
                 have HK8 := Lib.hid (HK7.out.step hK8 hF8)
                 clear hT8 hF8 hK8)
              | (go_at_call 15; refine (cra_open w w8 bt _ (hs.map (·.l)) m _ F8 HT8.out (HCC.out.2.1.stop (1 + (q : Int))) rfl (by show s.ops < _; omega) (fun r hr => by obtain ⟨z, hz, rfl⟩ := List.mem_map.1 hr; exact Nat.le_trans (HSM.out z hz) (by decide)) (by have := HFR.out; omega)).mono ?_; rintro r w9 ⟨v9, s9, c9, F9, rfl, hT9, hC9, ho9, hF9, hK9⟩
                 have HT9 := Lib.hid hT9
                 have HC9 := Lib.hid hC9
                 have HO9 := Lib.hid (show s9.ops ≤ s.ops + 1 from ho9)
                 have HA9 := Lib.hid (HA8.out.step hK9 hF9)
                 have HK9 := Lib.hid (HK8.out.step hK9 hF9)
                 clear hT9 hC9 ho9 hF9 hK9))
            exact ⟨⟨i + 1, c9, s9, F9, by omega, by omega, by simp, by have := HO9.out; push_cast; omega, HT9, HC9, HA9, HK9⟩, by simp [intOf]; omega⟩
          · obtain ⟨hce, _, hcl⟩ := HC.out.crash HT.out.ok (pickV l2 ((l2.length : Int) - 1))
            obtain ⟨e, he⟩ : ∃ e, e = s.synced + crashK s (pickV l2 ((l2.length : Int) - 1)) := ⟨_, rfl⟩
            have hme : endOf (hs.map (·.l)) m ≤ e := by have := HC.out.2.2.2.2; omega
            rw [← he] at hce hcl
            obtain ⟨j, hj⟩ : ∃ j, j = wholeOf (hs.map (·.l)) e := ⟨_, rfl⟩
            have hmj : m ≤ j := by rw [hj]; exact whole_ge HC.out.2.2.2.1 hme
            have hjl : j ≤ hs.length := by have := wholeOf_le (hs.map (·.l)) e; rw [List.length_map] at this; omega
            have HJL := Lib.hid (show ((hs.map (·.l)).take (wholeOf (hs.map (·.l)) e)).length = j from by rw [← hj, List.length_take, List.length_map]; omega)
            have HJT := Lib.hid (show (hs.map (·.l)).take (wholeOf (hs.map (·.l)) e) = (hs.take j).map (·.l) from by rw [← hj, List.map_take])
            have HTJ := Lib.hid (show (hs.take j).length = j from by rw [List.length_take]; omega)
            have HCE := Lib.hid hce
            have HCL := Lib.hid hcl
            have hmj2 : (m : Int) ≤ (j : Int) := by omega
            have hjl2 : (j : Int) ≤ (hs.length : Int) := by omega
            have hjc : j ≤ ca := by have := own_le HA.out.1; omega
            have hsl := cut_toR Aa hs.length ca j hjc
            have hmx2 := R2.out.2.1
            have hi3 : ¬ (i < l3.length) ∨ (i < l3.length ∧ (4 : Int) ≤ (i : Int)) := by
              by_cases h1 : i < l3.length
              · exact .inr ⟨h1, by omega⟩
              · exact .inl h1
            clear hce hcl he hme hj
            have hc2 : cut = false ∨ (cut = true ∧ decide ((hs.take j).map (·.l) = ks.map (·.l)) = true) ∨ (cut = true ∧ decide ((hs.take j).map (·.l) = ks.map (·.l)) = false) := by
              cases cut
              · exact .inl rfl
              · by_cases h : (hs.take j).map (·.l) = ks.map (·.l)
                · exact .inr (.inl ⟨rfl, decide_eq_true h⟩)
                · exact .inr (.inr ⟨rfl, decide_eq_false h⟩)
            rcases hi3 with hi3 | ⟨hi3a, hi3⟩
            all_goals
              rcases hc2 with rfl | ⟨rfl, hdec⟩ | ⟨rfl, hdec⟩
              · go_wp2_with (first
                  | (go_at_call 30; refine (pick_any A2 c2 l2 ((l2.length : Int) - 1) wr (ReadsInt.below R2.out HT.out.below)).mono ?_; rintro r w6 ⟨rfl, rfl⟩)
                  | (go_at_call 19; refine (crash_in (pickV l2 ((l2.length : Int) - 1)) w wr bt F s HT.out).mono ?_; rintro r w7 ⟨rfl, F7, hT7, hF7, hK7⟩
                     rw [HCE.out] at hT7
                     have HT7 := Lib.hid hT7
                     have HA7 := Lib.hid (HA.out.step hK7 hF7)
                     have HK7 := Lib.hid (HK.out.step hK7 hF7)
                     clear hT7 hF7 hK7)
                  | (go_at_call 15; refine (cal_reopen w w7 bt 1048576 s.ops (hs.map (·.l)) _ F7 HT7.out (by omega) (fun r hr => by obtain ⟨z, hz, rfl⟩ := List.mem_map.1 hr; exact Nat.le_trans (HSM.out z hz) (by decide)) (by have := HFR.out; omega) HCL.out).mono ?_; rintro r w9 ⟨bl9, F9, o9, rfl, hW9, ho9, ho9', hF9, hK9⟩
                     have HW9 := Lib.hid hW9
                     have HA9 := Lib.hid (HA7.out.step hK9 hF9)
                     have HK9 := Lib.hid (HK7.out.step hK9 hF9)
                     clear hW9 hF9 hK9)
                  | (go_at_call 21; refine (cal_all w w9 bt bl9 _ _ F9 HW9.out (by rw [List.length_take, List.length_map]; omega) (fun r hr => by obtain ⟨z, hz, rfl⟩ := List.mem_map.1 (List.mem_of_mem_take hr); exact Nat.le_trans (HSM.out z hz) (by decide))).mono ?_; rintro r w32 ⟨v32, rfl, hv32, hB32⟩
                     obtain ⟨A32, c32, rfl⟩ := Kd.R_slice hv32
                     obtain ⟨g32, hm32, hq32, hi32⟩ := hds_of_rows (Kd.R_reads' hv32).2.2
                     rw [HJL.out] at hq32
                     rw [HJL.out]
                     have hl32 : g32.length = j := by have := congrArg List.length hm32; rw [List.length_map, HJL.out] at this; exact this
                     have HQ32 := Lib.hid (show HRow w32 A32 g32.length g32 from by rw [hl32]; exact hq32)
                     have HI32 := Lib.hid hi32
                     have HM32 := Lib.hid (hm32.trans HJT.out)
                     have HL32 := Lib.hid hl32
                     have HW32 := Lib.hid (HW9.out.to hB32)
                     have HA32 := Lib.hid (HA9.out.below hB32)
                     have HK32 := Lib.hid (HK9.out.below hB32)
                     clear hv32 hm32 hq32 hi32 hB32 hl32)
                  | (go_at_call 20; have hsj := HL32.out; have htj : (hs.take j).length = j := HTJ.out; refine (by have h := same_any A32 Aa c32 ca g32 (hs.take j) w32 HQ32.out (row_take (own_reads_of' HA32.out.1) j (by omega)) HI32.out ((HdsIn.sub HI.out (fun y hy => List.mem_of_mem_take hy)).below HW32.out.below); rw [hsj, htj] at h; exact h : Calls Tryd.prog 20 #[.slice A32 j c32, .slice Aa j ca] w32 _).mono ?_; rintro r w40 ⟨rfl, hB40⟩
                     rw [decide_eq_true HM32.out]
                     have HW40 := Lib.hid (HW32.out.to hB40)
                     clear hB40 hsj htj)
                  | fail)
                go_ret
                exact ⟨rfl, HW40.out.below⟩
              · have HDEC := Lib.hid hdec
                clear hdec
                go_wp2_with (first
                  | (go_at_call 30; refine (pick_any A2 c2 l2 ((l2.length : Int) - 1) wr (ReadsInt.below R2.out HT.out.below)).mono ?_; rintro r w6 ⟨rfl, rfl⟩)
                  | (go_at_call 19; refine (crash_in (pickV l2 ((l2.length : Int) - 1)) w wr bt F s HT.out).mono ?_; rintro r w7 ⟨rfl, F7, hT7, hF7, hK7⟩
                     rw [HCE.out] at hT7
                     have HT7 := Lib.hid hT7
                     have HA7 := Lib.hid (HA.out.step hK7 hF7)
                     have HK7 := Lib.hid (HK.out.step hK7 hF7)
                     clear hT7 hF7 hK7)
                  | (go_at_call 15; refine (cal_reopen w w7 bt 1048576 s.ops (hs.map (·.l)) _ F7 HT7.out (by omega) (fun r hr => by obtain ⟨z, hz, rfl⟩ := List.mem_map.1 hr; exact Nat.le_trans (HSM.out z hz) (by decide)) (by have := HFR.out; omega) HCL.out).mono ?_; rintro r w9 ⟨bl9, F9, o9, rfl, hW9, ho9, ho9', hF9, hK9⟩
                     have HW9 := Lib.hid hW9
                     have HA9 := Lib.hid (HA7.out.step hK9 hF9)
                     have HK9 := Lib.hid (HK7.out.step hK9 hF9)
                     clear hW9 hF9 hK9)
                  | (go_at_call 21; refine (cal_all w w9 bt bl9 _ _ F9 HW9.out (by rw [List.length_take, List.length_map]; omega) (fun r hr => by obtain ⟨z, hz, rfl⟩ := List.mem_map.1 (List.mem_of_mem_take hr); exact Nat.le_trans (HSM.out z hz) (by decide))).mono ?_; rintro r w32 ⟨v32, rfl, hv32, hB32⟩
                     obtain ⟨A32, c32, rfl⟩ := Kd.R_slice hv32
                     obtain ⟨g32, hm32, hq32, hi32⟩ := hds_of_rows (Kd.R_reads' hv32).2.2
                     rw [HJL.out] at hq32
                     rw [HJL.out]
                     have hl32 : g32.length = j := by have := congrArg List.length hm32; rw [List.length_map, HJL.out] at this; exact this
                     have HQ32 := Lib.hid (show HRow w32 A32 g32.length g32 from by rw [hl32]; exact hq32)
                     have HI32 := Lib.hid hi32
                     have HM32 := Lib.hid (hm32.trans HJT.out)
                     have HL32 := Lib.hid hl32
                     have HW32 := Lib.hid (HW9.out.to hB32)
                     have HA32 := Lib.hid (HA9.out.below hB32)
                     have HK32 := Lib.hid (HK9.out.below hB32)
                     clear hv32 hm32 hq32 hi32 hB32 hl32)
                  | (go_at_call 20; have hsk := (show g32.length = j from HL32.out); refine (by have h := same_any A32 Ak c32 ck g32 ks w32 HQ32.out (own_reads_of' HK32.out.1) HI32.out (HIK.out.below HW32.out.below); rw [hsk] at h; exact h : Calls Tryd.prog 20 #[.slice A32 j c32, .slice Ak ks.length ck] w32 _).mono ?_; rintro r w35 ⟨rfl, hB35⟩
                     rw [HM32.out, HDEC.out]
                     have HW35 := Lib.hid (HW32.out.to hB35)
                     have HA35 := Lib.hid (HA32.out.below hB35)
                     have HQ35 := Lib.hid (HQ32.out.below hB35)
                     have HI35 := Lib.hid (HI32.out.below hB35)
                     clear hB35 hsk)
                  | fail)
                go_ret
                exact ⟨rfl, HW35.out.below⟩
              · have HDEC := Lib.hid hdec
                clear hdec
                go_wp2_with (first
                  | (go_at_call 20; have hsj := HL32.out; have htj : (hs.take j).length = j := HTJ.out; refine (by have h := same_any A32 Aa c32 ca g32 (hs.take j) w35 HQ35.out (row_take (own_reads_of' HA35.out.1) j (by omega)) HI35.out ((HdsIn.sub HI.out (fun y hy => List.mem_of_mem_take hy)).below HW35.out.below); rw [hsj, htj] at h; exact h : Calls Tryd.prog 20 #[.slice A32 j c32, .slice Aa j ca] w35 _).mono ?_; rintro r w40 ⟨rfl, hB40⟩
                     rw [decide_eq_true HM32.out]
                     have HW40 := Lib.hid (HW35.out.to hB40)
                     clear hB40 hsj htj)
                  | (go_at_call 30; refine (pick_any A2 c2 l2 ((l2.length : Int) - 1) wr (ReadsInt.below R2.out HT.out.below)).mono ?_; rintro r w6 ⟨rfl, rfl⟩)
                  | (go_at_call 19; refine (crash_in (pickV l2 ((l2.length : Int) - 1)) w wr bt F s HT.out).mono ?_; rintro r w7 ⟨rfl, F7, hT7, hF7, hK7⟩
                     rw [HCE.out] at hT7
                     have HT7 := Lib.hid hT7
                     have HA7 := Lib.hid (HA.out.step hK7 hF7)
                     have HK7 := Lib.hid (HK.out.step hK7 hF7)
                     clear hT7 hF7 hK7)
                  | (go_at_call 15; refine (cal_reopen w w7 bt 1048576 s.ops (hs.map (·.l)) _ F7 HT7.out (by omega) (fun r hr => by obtain ⟨z, hz, rfl⟩ := List.mem_map.1 hr; exact Nat.le_trans (HSM.out z hz) (by decide)) (by have := HFR.out; omega) HCL.out).mono ?_; rintro r w9 ⟨bl9, F9, o9, rfl, hW9, ho9, ho9', hF9, hK9⟩
                     have HW9 := Lib.hid hW9
                     have HA9 := Lib.hid (HA7.out.step hK9 hF9)
                     have HK9 := Lib.hid (HK7.out.step hK9 hF9)
                     clear hW9 hF9 hK9)
                  | (go_at_call 21; refine (cal_all w w9 bt bl9 _ _ F9 HW9.out (by rw [List.length_take, List.length_map]; omega) (fun r hr => by obtain ⟨z, hz, rfl⟩ := List.mem_map.1 (List.mem_of_mem_take hr); exact Nat.le_trans (HSM.out z hz) (by decide))).mono ?_; rintro r w32 ⟨v32, rfl, hv32, hB32⟩
                     obtain ⟨A32, c32, rfl⟩ := Kd.R_slice hv32
                     obtain ⟨g32, hm32, hq32, hi32⟩ := hds_of_rows (Kd.R_reads' hv32).2.2
                     rw [HJL.out] at hq32
                     rw [HJL.out]
                     have hl32 : g32.length = j := by have := congrArg List.length hm32; rw [List.length_map, HJL.out] at this; exact this
                     have HQ32 := Lib.hid (show HRow w32 A32 g32.length g32 from by rw [hl32]; exact hq32)
                     have HI32 := Lib.hid hi32
                     have HM32 := Lib.hid (hm32.trans HJT.out)
                     have HL32 := Lib.hid hl32
                     have HW32 := Lib.hid (HW9.out.to hB32)
                     have HA32 := Lib.hid (HA9.out.below hB32)
                     have HK32 := Lib.hid (HK9.out.below hB32)
                     clear hv32 hm32 hq32 hi32 hB32 hl32)
                  | (go_at_call 20; have hsk := (show g32.length = j from HL32.out); refine (by have h := same_any A32 Ak c32 ck g32 ks w32 HQ32.out (own_reads_of' HK32.out.1) HI32.out (HIK.out.below HW32.out.below); rw [hsk] at h; exact h : Calls Tryd.prog 20 #[.slice A32 j c32, .slice Ak ks.length ck] w32 _).mono ?_; rintro r w35 ⟨rfl, hB35⟩
                     rw [HM32.out, HDEC.out]
                     have HW35 := Lib.hid (HW32.out.to hB35)
                     have HA35 := Lib.hid (HA32.out.below hB35)
                     have HQ35 := Lib.hid (HQ32.out.below hB35)
                     have HI35 := Lib.hid (HI32.out.below hB35)
                     clear hB35 hsk)
                  | fail)
                go_ret
                exact ⟨rfl, HW40.out.below⟩
theorem wcrashes_row (a1 : Option Addr) (cap1 : Nat) (l1 : List Cl) (stop : Int) (a2 : Option Addr) (c2 : Nat) (l2 : List Int) (a3 : Option Addr) (c3 : Nat) (l3 : List Int) (w : World) (hg : Laid w) (hr1 : clK.C w a1 l1.length l1) (_ : l1.length ≤ cap1) (_ : (Lit.int .i64 stop).wf = true) (hr2 : ReadsInt w .i64 a2 l2.length l2) (_ : l2.length ≤ c2) (_ : l2.length * 8 ≤ 140737488351232) (_ : ∀ x ∈ l2, (Lit.int .i64 x).wf = true) (hr3 : ReadsInt w .i64 a3 l3.length l3) (_ : l3.length ≤ c3) (_ : l3.length * 8 ≤ 140737488351232) (_ : ∀ x ∈ l3, (Lit.int .i64 x).wf = true) :
    Calls Tryd.prog 7 #[.slice a1 l1.length cap1, .int .i64 stop, .slice a2 l2.length c2, .slice a3 l3.length c3] w fun e w' => e = .returned (.bool true) ∧ Below w.heap.size w w' := wcrashes_any a1 cap1 l1 stop a2 c2 l2 a3 c3 l3 w hg hr1 hr2 hr3
end Go.Proofs.YtfnnjgbldojigaaDoor
