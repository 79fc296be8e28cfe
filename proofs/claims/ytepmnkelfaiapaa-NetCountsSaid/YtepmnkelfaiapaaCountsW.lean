/- The walk of NetCounts. -/
import Derived.Test.YtepmnkelfaiapaaCallsK
set_option linter.unusedVariables false
set_option linter.unusedSimpArgs false
namespace Go.Proofs.Ytepmnkelfaiapaa
open Go.RowKit Go.Proofs.YtepmnkelfaiapaaW.PrintWords Go.Proofs.Mine

theorem send_sum (s : NSt) (m : Pm) : (send1 s m).lost + ((send1 s m).l.length : Int) = s.lost + (s.l.length : Int) + 1 ∧ s.lost ≤ (send1 s m).lost := by
  unfold send1
  split <;> simp <;> omega
theorem dels_len {s : NSt} {k : Int} {m : Pm} (h : got s k = some m) : (dels s k).l.length + 1 = s.l.length ∧ (dels s k).lost = s.lost := by
  obtain ⟨hlt, _⟩ := List.getElem?_eq_some_iff.1 h
  refine ⟨?_, rfl⟩
  show (s.l.eraseIdx (gotI s k)).length + 1 = s.l.length
  rw [List.length_eraseIdx_of_lt hlt]; omega
theorem drops_sum (s : NSt) (k : Int) : (drops s k).lost + ((drops s k).l.length : Int) = s.lost + (s.l.length : Int) ∧ s.lost ≤ (drops s k).lost := by
  cases h : got s k with
  | none => unfold drops; rw [h]; simp
  | some m =>
    have h1 := dels_len h
    have h2 : drops s k = { dels s k with lost := s.lost + 1 } := by unfold drops; rw [h]; rfl
    rw [h2]
    refine ⟨?_, ?_⟩
    · show s.lost + 1 + ((dels s k).l.length : Int) = _; omega
    · show s.lost ≤ s.lost + 1; omega
theorem dbls_sum (s : NSt) (k : Int) : (dbls s k).lost = s.lost ∧ ((codeOf s k = 0 ∧ (dbls s k).l.length = s.l.length + 1) ∨ (codeOf s k = 2 ∧ (dbls s k).l.length = s.l.length)) := by
  cases h : got s k with
  | none => unfold dbls codeOf; rw [h]; simp
  | some m => unfold dbls codeOf; rw [h]; simp
theorem cutL_sum (s : NSt) (side : List Int) : (cutL s side).lost + ((cutL s side).l.length : Int) = s.lost + (s.l.length : Int) ∧ s.lost ≤ (cutL s side).lost := by
  have h := List.length_filter_le (stays { s with side := some (sideOf side) }) s.l
  have h2 : (cutL s side).lost = s.lost + ((s.l.length : Int) - ((cutL s side).l.length : Int)) := rfl
  have h3 : (cutL s side).l.length ≤ s.l.length := h
  omega
theorem within6 (x : Int) : x % 6 = 0 ∨ x % 6 = 1 ∨ x % 6 = 2 ∨ x % 6 = 3 ∨ x % 6 = 4 ∨ x % 6 = 5 := by omega
set_option maxRecDepth 100000 in
set_option maxHeartbeats 4000000 in
theorem netCounts_any (A : Option Addr) (cap : Nat) (cl : List Cl) (w : World) (hr : callK.C w A cl.length cl) (hc : cl.length ≤ cap) :
    Calls Try.prog 6 #[.slice A cl.length cap] w fun e w' => e = .returned (.bool true) ∧ Below w.heap.size w w' := by
  have HR := Lib.hid hr
  have hmx : cl.length ≤ 9223372036854775807 := hr.2.1
  clear hr
  go_enter Try.func6, Try.ntmps6
  go_wp2_with (first
    | (go_at_call 7; refine (known_any _).mono ?_; rintro e w1 ⟨rfl, hB⟩; have HB1 := Lib.hid hB; clear hB)
    | (go_at_call 9; refine (new_any _).mono ?_; rintro e w3 ⟨rfl, hw3⟩
       have N3 := Lib.hid (NetIn.new HB1.out); rw [← hw3] at N3; have hz3 := HB1.out.size; have hz4 : w1.heap.size < w3.heap.size := (by rw [hw3]; simp); clear hw3))
  generalize hb : w1.heap.size = b at *
  go_loopw [4, 5, 6] (fun mv gv iv wr => ∃ (k : Nat) (made got : Int) (s : NSt) (F : Nat → Prop), k ≤ cl.length ∧ k ≤ 80 ∧ iv = .int .i64 k ∧ mv = .int .i64 made ∧ gv = .int .i64 got ∧ 0 ≤ got ∧ 0 ≤ s.lost ∧ made ≤ k ∧ made = got + s.lost + s.l.length ∧ NetIn w b s wr F) (fun _ _ iv _ => 80 - (intOf iv).toNat)
  case atStart => exact ⟨0, 0, 0, net0, _, by omega, by omega, rfl, rfl, rfl, by decide, by decide, by decide, by decide, N3.out⟩
  case round =>
    obtain ⟨k, made, got, s, F, hk, hk80, rfl, rfl, rfl, hg0, hl0, hmk, hmade, hN⟩ := hrel
    have HN := Lib.hid hN
    clear hN
    by_cases hin : k < cl.length ∧ k < 80
    · obtain ⟨hin1, hin2⟩ := hin
      obtain ⟨ad, cs, hAd, hcl, hK, hcell⟩ := Kd.C_get HR.out ⟨0, 0, 0, 0, []⟩ (k : Int) (by omega) (by omega)
      rw [Int.toNat_natCast] at hK hcell
      subst hAd
      generalize cl.getD k ⟨0, 0, 0, 0, []⟩ = c at *
      obtain ⟨A', cap', rfl, hside⟩ := hK
      generalize hea : ad.add (k * 5) = ea
      have q0 : wr.cell? ea = some (.int .i64 c.kd) := by rw [← hea]; have h0 : wr.cell? (ad.add (k * 5)) = some (.int .i64 c.kd) := pw_cell_below HN.out.2 (hcell 0 _ rfl); exact h0
      have q : ∀ j u, [Value.int .i64 c.kd, .int .i64 c.num, .int .i64 c.fr, .int .i64 c.dst, .slice A' c.side.length cap'][j]? = some u → wr.cell? (ea.add j) = some u := by
        intro j u hj
        rw [← hea, ← addAdd]
        exact pw_cell_below HN.out.2 (hcell j u hj)
      have q1 : wr.cell? ⟨ea.block, ea.off + 1, none⟩ = some (.int .i64 c.num) := by simpa [Addr.add] using q 1 _ rfl
      have q2 : wr.cell? ⟨ea.block, ea.off + 2, none⟩ = some (.int .i64 c.fr) := by simpa [Addr.add] using q 2 _ rfl
      have q3 : wr.cell? ⟨ea.block, ea.off + 3, none⟩ = some (.int .i64 c.dst) := by simpa [Addr.add] using q 3 _ rfl
      have q4 : wr.cell? ⟨ea.block, ea.off + 4, none⟩ = some (.slice A' c.side.length cap') := by simpa [Addr.add] using q 4 _ rfl
      have HS := Lib.hid hside
      clear q hcell hcl hside
      by_cases hlong : 20 < c.side.length
      · go_wp2_with fail
        exact ⟨⟨k + 1, made, got, s, F, by omega, by omega, by simp, rfl, rfl, hg0, hl0, by omega, hmade, HN.out.alloc _⟩, by simp [intOf]; omega⟩
      · have hshort : c.side.length ≤ 20 := by omega
        go_wp2_with fail
        generalize hn : wr.heap.size = n at *
        generalize hW : wr.alloc _ = W
        have hbx : W.heap[n]? = some (.cells #[.int .i64 c.kd, .int .i64 c.num, .int .i64 c.fr, .int .i64 c.dst, .slice A' c.side.length cap'] 46 (0, 0)) := by rw [← hW, ← hn]; exact heap_alloc_new wr _
        have HN1 : RowKit.Hid (NetIn w b s W F) := by rw [← hW]; exact HN.out.alloc _
        have p0 := blk_cell hbx 0
        have p1 := blk_cell hbx 1
        have p2 := blk_cell hbx 2
        have p3 := blk_cell hbx 3
        have p4 := blk_cell hbx 4
        have d2 : W.drew.cell? ⟨n, 2, none⟩ = some (.int .i64 c.fr) := p2
        have d3 : W.drew.cell? ⟨n, 3, none⟩ = some (.int .i64 c.dst) := p3
        have hll : s.l.length ≤ 80 := by omega
        have hlo : s.lost ≤ 80 := by omega
        have HMD := Lib.hid hmade
        clear hmade
        clear hW hbx hn q0 q1 q2 q3 q4
        refine (within_any c.kd 6 _ (by decide) (by decide)).mono ?_
        rintro e W' ⟨rfl, rfl⟩
        rcases within6 c.kd with hkd | hkd | hkd | hkd | hkd | hkd <;> rw [hkd] <;> clear hkd
        · -- Send
          go_wp2_with fail
          go_region_law (first
            | (go_simp; go_at_call 8; refine (within_any _ 5 _ (by decide) (by decide)).mono ?_; rintro e w' ⟨rfl, rfl⟩)
            | (go_simp; go_at_call 10; refine (send_one (w := W.drew) ⟨c.fr % 5, c.dst % 5, 1, 0⟩ (HN1.out.other ((Keep.refl _ W).drew)) (by omega) hl0 (by omega)).mono ?_; rintro e w6 ⟨rfl, F6, hN6⟩
               have hsm := send_sum s ⟨c.fr % 5, c.dst % 5, 1, 0⟩
               have HN6 := Lib.hid hN6
               clear hN6
               generalize send1 s ⟨c.fr % 5, c.dst % 5, 1, 0⟩ = s6 at *))
          all_goals
            obtain ⟨hsm1, hsm2⟩ := hsm
            have hl6 : s6.l.length ≤ 81 := by have := HMD.out; omega
            have hlo6 : s6.lost ≤ 81 := by have := HMD.out; omega
            have hsum : got + s6.lost + (s6.l.length : Int) = made + 1 := by have := HMD.out; omega
            go_wp2_with (first
              | (go_at_call 13; refine (lost_any _ w.heap.size F6 b _ HN6.out.1).mono ?_; rintro e w7 ⟨rfl, rfl⟩)
              | (go_at_call 11; refine (len_any _ w.heap.size F6 b _ HN6.out.1).mono ?_; rintro e w7 ⟨rfl, rfl⟩))
            exact ⟨⟨k + 1, made + 1, got, s6, F6, by omega, by omega, by simp, by simp, rfl, by have := HMD.out; omega, by have := HMD.out; omega, by have := HMD.out; omega, by have := HMD.out; omega, HN6.out⟩, by simp [intOf]; omega⟩
        · -- Deliver
          have hd := deliver_any W w.heap.size F b s c.num HN1.out.1 (by omega)
          cases hg : Ytepmnkelfaiapaa.got s c.num with
          | none =>
            have hv : gotV s c.num = .tuple #[.agg #[.int .i64 0, .int .i64 0, .int .i64 0, .int .i64 0, .int .i64 0, .int .i64 0, .int .i64 0, .int .i64 0, .bool false, .slice none 0 0, .slice none 0 0, .slice none 0 0, .slice none 0 0], .int .i64 2] := by unfold gotV; rw [show Ytepmnkelfaiapaa.got s c.num = none from hg]; rfl
            rw [hv, got_none_dels hg] at hd
            have hl6 : s.l.length ≤ 81 := by have := HMD.out; omega
            have hlo6 : s.lost ≤ 81 := by have := HMD.out; omega
            have hsum : got + s.lost + (s.l.length : Int) = made := by have := HMD.out; omega
            have HD := Lib.hid hd
            clear hd hv
            go_wp2_with (first
              | (go_at_call 12; refine HD.out.mono ?_; rintro e w5 ⟨rfl, hN5⟩; obtain ⟨F6, hN5, _, _⟩ := HN1.out.step hN5; have HN6 := Lib.hid (hN5.alloc (.cells (⟨0, 0, 0, 0⟩ : Pm).cells.toArray 32)); clear hN5)
              | (go_at_call 13; refine (lost_any _ w.heap.size F6 b _ HN6.out.1).mono ?_; rintro e w7 ⟨rfl, rfl⟩)
              | (go_at_call 11; refine (len_any _ w.heap.size F6 b _ HN6.out.1).mono ?_; rintro e w7 ⟨rfl, rfl⟩))
            exact ⟨⟨k + 1, made, got, s, F6, by omega, by omega, by simp, rfl, rfl, by have := HMD.out; omega, by have := HMD.out; omega, by have := HMD.out; omega, by have := HMD.out; omega, HN6.out⟩, by simp [intOf]; omega⟩
          | some m =>
            have hv : gotV s c.num = .tuple #[.agg #[.int .i64 m.f, .int .i64 m.t, .int .i64 0, .int .i64 m.k, .int .i64 0, .int .i64 m.i, .int .i64 0, .int .i64 0, .bool false, .slice none 0 0, .slice none 0 0, .slice none 0 0, .slice none 0 0], .int .i64 0] := by unfold gotV; rw [show Ytepmnkelfaiapaa.got s c.num = some m from hg]; rfl
            rw [hv] at hd
            have hdl := dels_len hg
            generalize dels s c.num = s6 at *
            have hl6 : s6.l.length ≤ 81 := by have := HMD.out; omega
            have hlo6 : s6.lost ≤ 81 := by have := HMD.out; omega
            have hsum : got + 1 + s6.lost + (s6.l.length : Int) = made := by have := HMD.out; omega
            have HD := Lib.hid hd
            clear hd hv
            go_wp2_with (first
              | (go_at_call 12; refine HD.out.mono ?_; rintro e w5 ⟨rfl, hN5⟩; obtain ⟨F6, hN5, _, _⟩ := HN1.out.step hN5; have HN6 := Lib.hid (hN5.alloc (.cells m.cells.toArray 32)); clear hN5)
              | (go_at_call 13; refine (lost_any _ w.heap.size F6 b _ HN6.out.1).mono ?_; rintro e w7 ⟨rfl, rfl⟩)
              | (go_at_call 11; refine (len_any _ w.heap.size F6 b _ HN6.out.1).mono ?_; rintro e w7 ⟨rfl, rfl⟩))
            exact ⟨⟨k + 1, made, got + 1, s6, F6, by omega, by omega, by simp, rfl, by simp, by have := HMD.out; omega, by have := HMD.out; omega, by have := HMD.out; omega, by have := HMD.out; omega, HN6.out⟩, by simp [intOf]; omega⟩
        · -- Drop
          have hd := drop_any W w.heap.size F b s c.num HN1.out.1 (by omega) hl0 (by omega)
          obtain ⟨hsm1, hsm2⟩ := drops_sum s c.num
          generalize drops s c.num = s6 at *
          have hl6 : s6.l.length ≤ 81 := by have := HMD.out; omega
          have hlo6 : s6.lost ≤ 81 := by have := HMD.out; omega
          have hsum : got + s6.lost + (s6.l.length : Int) = made := by have := HMD.out; omega
          have HD := Lib.hid hd
          clear hd
          go_wp2_with (first
            | (go_at_call 14; refine HD.out.mono ?_; rintro e w5 ⟨rfl, hN5⟩; obtain ⟨F6, hN5, _, _⟩ := HN1.out.step hN5; have HN6 := Lib.hid hN5; clear hN5)
            | (go_at_call 13; refine (lost_any _ w.heap.size F6 b _ HN6.out.1).mono ?_; rintro e w7 ⟨rfl, rfl⟩)
            | (go_at_call 11; refine (len_any _ w.heap.size F6 b _ HN6.out.1).mono ?_; rintro e w7 ⟨rfl, rfl⟩))
          exact ⟨⟨k + 1, made, got, s6, F6, by omega, by omega, by simp, rfl, rfl, by have := HMD.out; omega, by have := HMD.out; omega, by have := HMD.out; omega, by have := HMD.out; omega, HN6.out⟩, by simp [intOf]; omega⟩
        · -- Double
          have hd := double_any W w.heap.size F b s c.num HN1.out.1 (by omega)
          obtain ⟨hsm1, hsm2⟩ := dbls_sum s c.num
          generalize dbls s c.num = s6 at *
          rcases hsm2 with ⟨hcd, hsm2⟩ | ⟨hcd, hsm2⟩
          · rw [hcd] at hd
            have hl6 : s6.l.length ≤ 81 := by have := HMD.out; omega
            have hlo6 : s6.lost ≤ 81 := by have := HMD.out; omega
            have hsum : got + s6.lost + (s6.l.length : Int) = made + 1 := by have := HMD.out; omega
            have HD := Lib.hid hd
            clear hd
            go_wp2_with (first
              | (go_at_call 15; refine HD.out.mono ?_; rintro e w5 ⟨rfl, hN5⟩; obtain ⟨F6, hN5, _, _⟩ := HN1.out.step hN5; have HN6 := Lib.hid hN5; clear hN5)
              | (go_at_call 13; refine (lost_any _ w.heap.size F6 b _ HN6.out.1).mono ?_; rintro e w7 ⟨rfl, rfl⟩)
              | (go_at_call 11; refine (len_any _ w.heap.size F6 b _ HN6.out.1).mono ?_; rintro e w7 ⟨rfl, rfl⟩))
            exact ⟨⟨k + 1, made + 1, got, s6, F6, by omega, by omega, by simp, by simp, rfl, by have := HMD.out; omega, by have := HMD.out; omega, by have := HMD.out; omega, by have := HMD.out; omega, HN6.out⟩, by simp [intOf]; omega⟩
          · rw [hcd] at hd
            have hl6 : s6.l.length ≤ 81 := by have := HMD.out; omega
            have hlo6 : s6.lost ≤ 81 := by have := HMD.out; omega
            have hsum : got + s6.lost + (s6.l.length : Int) = made := by have := HMD.out; omega
            have HD := Lib.hid hd
            clear hd
            go_wp2_with (first
              | (go_at_call 15; refine HD.out.mono ?_; rintro e w5 ⟨rfl, hN5⟩; obtain ⟨F6, hN5, _, _⟩ := HN1.out.step hN5; have HN6 := Lib.hid hN5; clear hN5)
              | (go_at_call 13; refine (lost_any _ w.heap.size F6 b _ HN6.out.1).mono ?_; rintro e w7 ⟨rfl, rfl⟩)
              | (go_at_call 11; refine (len_any _ w.heap.size F6 b _ HN6.out.1).mono ?_; rintro e w7 ⟨rfl, rfl⟩))
            exact ⟨⟨k + 1, made, got, s6, F6, by omega, by omega, by simp, rfl, rfl, by have := HMD.out; omega, by have := HMD.out; omega, by have := HMD.out; omega, by have := HMD.out; omega, HN6.out⟩, by simp [intOf]; omega⟩
        · -- Cut
          have hd := netCut_any W w.heap.size F b s A' cap' c.side HN1.out.1 (HS.out.below HN1.out.2) (fun a h1 h2 hF => by
            obtain ⟨a', h3, h4⟩ := HS.out.2.2 h2
            rw [h1] at h3; injection h3 with h3; subst h3
            have h5 := World.block_lt_of_cell? w _ (h4 0 h2)
            rw [add_block] at h5
            have := (HN1.out.1.2.1 _ hF).1
            omega) (by omega) hl0 (by omega)
          obtain ⟨hsm1, hsm2⟩ := cutL_sum s c.side
          generalize cutL s c.side = s6 at *
          have hl6 : s6.l.length ≤ 81 := by have := HMD.out; omega
          have hlo6 : s6.lost ≤ 81 := by have := HMD.out; omega
          have hsum : got + s6.lost + (s6.l.length : Int) = made := by have := HMD.out; omega
          have HD := Lib.hid hd
          clear hd
          go_wp2_with (first
            | (go_at_call 16; refine HD.out.mono ?_; rintro e w5 ⟨rfl, hN5⟩; obtain ⟨F6, hN5, _, _⟩ := HN1.out.step hN5; have HN6 := Lib.hid hN5; clear hN5)
            | (go_at_call 13; refine (lost_any _ w.heap.size F6 b _ HN6.out.1).mono ?_; rintro e w7 ⟨rfl, rfl⟩)
            | (go_at_call 11; refine (len_any _ w.heap.size F6 b _ HN6.out.1).mono ?_; rintro e w7 ⟨rfl, rfl⟩))
          exact ⟨⟨k + 1, made, got, s6, F6, by omega, by omega, by simp, rfl, rfl, by have := HMD.out; omega, by have := HMD.out; omega, by have := HMD.out; omega, by have := HMD.out; omega, HN6.out⟩, by simp [intOf]; omega⟩
        · -- Heal
          have hd := heal_in HN1.out
          obtain ⟨s6, hs6⟩ : ∃ s6 : NSt, s6 = ⟨s.l, none, s.lost⟩ := ⟨_, rfl⟩
          have hsm1 : s6.l.length = s.l.length := by rw [hs6]
          have hsm2 : s6.lost = s.lost := by rw [hs6]
          rw [← hs6] at hd
          have hl6 : s6.l.length ≤ 81 := by have := HMD.out; omega
          have hlo6 : s6.lost ≤ 81 := by have := HMD.out; omega
          have hsum : got + s6.lost + (s6.l.length : Int) = made := by have := HMD.out; omega
          have HD := Lib.hid hd
          clear hd hs6
          go_wp2_with (first
            | (go_at_call 18; refine HD.out.mono ?_; rintro e w5 ⟨rfl, F6, hN5⟩; have HN6 := Lib.hid hN5; clear hN5)
            | (go_at_call 13; refine (lost_any _ w.heap.size F6 b _ HN6.out.1).mono ?_; rintro e w7 ⟨rfl, rfl⟩)
            | (go_at_call 11; refine (len_any _ w.heap.size F6 b _ HN6.out.1).mono ?_; rintro e w7 ⟨rfl, rfl⟩))
          exact ⟨⟨k + 1, made, got, s6, F6, by omega, by omega, by simp, rfl, rfl, by have := HMD.out; omega, by have := HMD.out; omega, by have := HMD.out; omega, by have := HMD.out; omega, HN6.out⟩, by simp [intOf]; omega⟩
    · by_cases he : k < cl.length
      all_goals
        go_wp2
        go_ret
        exact ⟨rfl, HN.out.2⟩
end Go.Proofs.Ytepmnkelfaiapaa
