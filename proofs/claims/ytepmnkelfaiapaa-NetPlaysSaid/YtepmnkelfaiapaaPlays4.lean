/- A case of NetPlays. -/
import Derived.Test.YtepmnkelfaiapaaPlaysD
import Derived.Deep.DeepCutAuto
import Derived.IntWalk
set_option linter.unusedVariables false
set_option linter.unusedSimpArgs false
namespace Go.Proofs.Ytepmnkelfaiapaa
open Go.RowKit Go.Proofs.YtepmnkelfaiapaaW.PrintWords Go.Proofs.Mine
set_option maxRecDepth 1000000 in
set_option maxHeartbeats 4000000 in
theorem play_case4 (x0 x1 x20 x21 x22 x2 x12 x13 x14 x15 x16 x17 x18 x19 x23 x24 x25 x26 x27 x28 x29 x30 x31 x32 x33 x34 x35 x36 x37 x38 x39 x40 x41 x42 x43 x44 x45 x46 x47 x48 x49 x50 x51 x52 x53 x54 x55 x56 x57 x58 x59 x60 x61 x62 x63 x64 x65 x66 x67 x68 x69 x70 x71 x72 x73 x74 x75 x76 x77 x78 x79 x80 x81 x82 x83 x84 x85 x86 x87 x88 x89 x90 x91 x92 x93 x94 x95 x96 x97 x98 x99 x100 x101 x102 x103 x104 x105 x106 x107 x108 x109 x110 x111 x112 x113 x114 x115 x116 x117 x118 x119 x120 x121 x122 x123 x124 x125 x126 x127 x128 x129 x130 x131 x132 x133 x134 x135 x136 x137 x138 x139 x140 x141 x142 x143 x144 x145 x146 x147 x148 x149 x150 x151 x152 x153 x154 x155 x156 x157 x158 x159 x160 x161 x162 x163 x164 x165 x166 x167 x168 x169 x170 x171 x172 x173 x174 x175 x176 x177 x178 x179 x180 x181 x182 x183 x184 x185 x186 x187 x188 x189 x190 x191 x192 x193 x194 x195 x196 x197 x198 x199 x200 x201 x202 x203 x204 x205 x206 x207 x208 x209 x210 x211 x212 x213 x214 x215 x216 x217 x218 x219 x220 x221 x222 x223 x224 x225 x226 x227 x228 x229 x230 x231 x232 x233 x234 x235 x236 x237 x238 x239 x240 x241 x242 x243 x244 x245 x246 x247 x248 x249 x250 x251 x252 x253 : Value) (w wc : World) (b k n : Nat) (made : Int) (s : NSt) (F : Nat → Prop) (sd : List Int) (on : Bool) (Al As : Option Addr) (cpl cps : Nat) (c : Cl) (A' : Option Addr) (cap' : Nat)
    (hk : k < 100) (hl0 : 0 ≤ s.lost) (hm0 : 0 ≤ made) (hmk : made ≤ k) (hsum : s.lost + (s.l.length : Int) ≤ k) (HSI : RowKit.Hid (SideIs s sd on)) (hsd : sd.length ≤ 20)
    (HP1 : RowKit.Hid (PlayIn w b s wc F (.slice Al s.l.length cpl) s.l (.slice As sd.length cps) sd)) (HBX : RowKit.Hid (wc.heap[n]? = some (.cells #[.int .i64 c.kd, .int .i64 c.num, .int .i64 c.fr, .int .i64 c.dst, .slice A' c.side.length cap'] 46 (0, 0))))
    (HS : RowKit.Hid (ReadsInt w .i64 A' c.side.length c.side)) (HNF : RowKit.Hid (¬ F n)) (hshort : c.side.length ≤ 20) :
    Code.wp Try.prog arm188 (Meets 1 (PlMI w b k (k + 1) x0 x1 (.pointer (some ⟨b, 0, none⟩)) x20 x21 x22)) ⟨#[x0, x1, x2, .pointer (some ⟨b, 0, none⟩), .slice Al s.l.length cpl, .slice As sd.length cps, .bool on, .int .i64 s.lost, .int .i64 made, .int .i64 (k : Int), .pointer (some ⟨n, 0, none⟩), .int .i64 (atK s c.num), x12, x13, x14, x15, x16, x17, x18, x19, x20, x21, x22, x23, x24, x25, x26, x27, x28, x29, x30, x31, x32, x33, x34, x35, x36, x37, x38, x39, x40, x41, x42, x43, x44, x45, x46, x47, x48, x49, x50, x51, x52, x53, x54, x55, x56, x57, x58, x59, x60, x61, x62, x63, x64, x65, x66, x67, x68, x69, x70, x71, x72, x73, x74, x75, x76, x77, x78, x79, x80, x81, x82, x83, x84, x85, x86, x87, x88, x89, x90, x91, x92, x93, x94, x95, x96, x97, x98, x99, x100, x101, x102, x103, x104, x105, x106, x107, x108, x109, x110, x111, x112, x113, x114, x115, x116, x117, x118, x119, x120, x121, x122, x123, x124, x125, x126, x127, x128, x129, x130, x131, x132, x133, x134, x135, x136, x137, x138, x139, x140, x141, x142, x143, x144, x145, x146, x147, x148, x149, x150, x151, x152, x153, x154, x155, x156, x157, x158, x159, x160, x161, x162, x163, x164, x165, x166, x167, x168, x169, x170, x171, x172, x173, x174, x175, x176, x177, x178, x179, x180, x181, x182, x183, x184, x185, x186, x187, x188, x189, x190, x191, x192, x193, x194, x195, x196, x197, x198, x199, x200, x201, x202, x203, x204, x205, x206, x207, x208, x209, x210, x211, x212, x213, x214, x215, x216, x217, x218, x219, x220, x221, x222, x223, x224, x225, x226, x227, x228, x229, x230, x231, x232, x233, x234, x235, x236, x237, x238, x239, x240, x241, x242, x243, x244, x245, x246, x247, x248, x249, x250, x251, x252, x253], []⟩ wc := by
  conv => arg 2; whnf
  have hll : s.l.length ≤ 100 := by omega
  have hlo : s.lost ≤ 100 := by omega
  have p1 := blk_cell HBX.out 1
  have p2 := blk_cell HBX.out 2
  have p3 := blk_cell HBX.out 3
  have p4 := blk_cell HBX.out 4
  have d1 : ∀ nq, (wc.drewN nq).cell? ⟨n, 1, none⟩ = some (.int .i64 c.num) := fun _ => p1
  have d2 : ∀ nq, (wc.drewN nq).cell? ⟨n, 2, none⟩ = some (.int .i64 c.fr) := fun _ => p2
  have d3 : ∀ nq, (wc.drewN nq).cell? ⟨n, 3, none⟩ = some (.int .i64 c.dst) := fun _ => p3

  have hbn : n < wc.heap.size := blk_lt HBX.out
  obtain ⟨N, hN⟩ : ∃ N, N = c.side.length := ⟨_, rfl⟩
  clear p1 p2 p3 d1 d2 d3
  go_wp2_with (first
    | (at_builtin; go_loud (refine print_append_row (w0 := wc) wc.heap.size rfl _ _ 22 3 .i64 8 (by rfl) Try.underlying22 Try.info3n (by decide) (.slice (some ⟨wc.heap.size, 0, none⟩) 0 0) [] c.side A' c.side.length cap' (by rfl) (by rfl) (int_empty wc) ((HS.out.below HP1.out.net.2).below ((Below.refl _ _).alloc (Nat.le_refl _) _)) ((Below.refl _ _).alloc (Nat.le_refl _) _) (by simp) (by simp; omega) ?_)
       intro v1 w1 hR1 hB1 hg1 hat1
       rw [List.nil_append] at hR1))
  obtain ⟨Am, cm, rfl⟩ := own_slice hR1
  have HP2 := Lib.hid (HP1.out.other (Keep.of_below hB1 _))
  have HBX2 := Lib.hid (blk_below HBX.out hB1)
  have HCUT := Lib.hid (play_cut HP2.out hR1 (fun k hk => HP1.out.lt hk) (by omega) hl0 (by omega))
  have hAm : ∀ k, (Value.slice Am c.side.length cm).ownBlock = some k → wc.heap.size ≤ k ∧ k < w1.heap.size := fun k hk => ⟨own_base hR1 k hk, own_lt hR1 k hk⟩
  have HAM := Lib.hid hAm
  have hsz1 : wc.heap.size ≤ w1.heap.size := hB1.size
  clear hAm hR1 hB1 hg1 hat1 p4
  go_wp2_with (go_at_call 16; refine HCUT.out.mono ?_; rintro e w2 ⟨rfl, F6, hP6, hR2, hF6, hK2⟩)
  have hsum6 := cutL_sums s c.side
  have hlo6 : (cutL s c.side).lost = s.lost + ((s.l.length : Int) - ((cutL s c.side).l.length : Int)) := rfl
  have hf6 : (cutL s c.side).l = s.l.filter (fun m => !cutLaw c.side true m.f m.t) := rfl
  have HSI6 := Lib.hid (sideIs_cut s c.side)
  have HF6 := Lib.hid hf6
  have HS6 := Lib.hid hsum6
  have HL6 := Lib.hid hlo6
  clear hsum6 hlo6 hf6
  generalize cutL s c.side = s6 at *
  have HP3 := Lib.hid hP6
  have HR2 := Lib.hid hR2
  have HBX3 := Lib.hid (hK2.blk HBX2.out HNF.out)
  have HOUT : RowKit.Hid (∀ k, (Value.slice Am c.side.length cm).ownBlock = some k → w.heap.size ≤ k ∧ ¬ F6 k ∧ (Value.slice Al s.l.length cpl).ownBlock ≠ some k ∧ (Value.slice As sd.length cps).ownBlock ≠ some k ∧ k ≠ n) := by
    intro k hk
    have h1 := HAM.out k hk
    refine ⟨by have := HP1.out.net.2.size; omega, fun hF => ?_, fun he => ?_, fun he => ?_, by omega⟩
    · rcases hF6 k hF with h2 | h2
      · have := HP1.out.lt h2; omega
      · omega
    · have := Kd.R_lt HP1.out.row k he; omega
    · have := own_lt HP1.out.side k he; omega
  clear hP6 hR2 hK2 hF6 HCUT HP2 HBX2
  obtain ⟨wo, rfl⟩ : ∃ wo, wo = w2 := ⟨_, rfl⟩
  go_loopw [17] (fun jv wr => ∃ (j : Nat) (ms : List Int), j ≤ c.side.length ∧ jv = .int .i64 j ∧ ms.length = c.side.length ∧ wr.ownsRow wc.heap.size 3 1 (.slice Am c.side.length cm) c.side.length (nums .i64 ms) ∧ PlayIn w b s6 wr F6 (.slice Al s.l.length cpl) s.l (.slice As sd.length cps) sd ∧ wr.heap[n]? = some (.cells #[.int .i64 c.kd, .int .i64 c.num, .int .i64 c.fr, .int .i64 c.dst, .slice A' c.side.length cap'] 46 (0, 0))) (fun jv _ => c.side.length - (intOf jv).toNat)
  case atStart => exact ⟨0, c.side, by omega, rfl, rfl, HR2.out, HP3.out, HBX3.out⟩
  case round =>
    obtain ⟨j, ms, hj, rfl, hms, hRj, hPj, hBj⟩ := hrel
    have HRJ := Lib.hid hRj
    have HPJ := Lib.hid hPj
    have HBJ := Lib.hid hBj
    clear hRj hPj hBj
    by_cases hlt : j < c.side.length
    · obtain ⟨g, cp, hAe, hgb, hgl⟩ := HRJ.out.form (by omega)
      injection hAe with h1 h2 h3
      subst h1
      obtain ⟨hce, hfe⟩ := own_at HRJ.out (j : Int) (by omega) (by omega)
      rw [Int.toNat_natCast] at hce hfe
      obtain ⟨hst, hgr⟩ := own_store HRJ.out (j : Int) 77
      rw [Int.toNat_natCast] at hst hgr
      have HST := Lib.hid hst
      have hgo := HOUT.out g rfl
      have hk4 : Keep (fun k => k = g) wr (wr.setCell ⟨g, j, none⟩ (.int .i64 77)) := (Keep.refl _ _).setCell _ _ (.inl rfl)
      have HP4 := Lib.hid (HPJ.out.keep hk4 (fun k hk => by subst hk; exact ⟨hgo.1, hgo.2.1, hgo.2.2.1, hgo.2.2.2.1⟩))
      have HB4 := Lib.hid (hk4.blk HBJ.out (fun h => hgo.2.2.2.2 h.symm))
      have HMS := Lib.hid hms
      clear hst hgr hk4 hgo hms h2 h3
      go_wp2_with fail
      refine ⟨⟨j + 1, ms.set j 77, by omega, by simp, by rw [List.length_set]; exact HMS.out, HST.out, HP4.out, HB4.out⟩, by simp [intOf]; omega⟩
    · have hje : ¬ j < c.side.length := hlt
      have p4 := blk_cell HBJ.out 4
      have q4 : wr.drew.cell? ⟨n, 4, none⟩ = some (.slice A' c.side.length cap') := p4
      have q5 : ∀ X, (wr.alloc X).cell? ⟨n, 4, none⟩ = some (.slice A' c.side.length cap') := fun X => blk_cell (blk_alloc HBJ.out X) 4
      go_wp2_with (first
        | (at_builtin; go_loud (refine print_append_row (w0 := wr) wr.heap.size rfl _ _ 22 3 .i64 8 (by rfl) Try.underlying22 Try.info3n (by decide) (.slice (some ⟨wr.heap.size, 0, none⟩) 0 0) [] c.side A' c.side.length cap' (by rfl) (by rfl) (int_empty wr) ((HS.out.below HPJ.out.net.2).below ((Below.refl _ _).alloc (Nat.le_refl _) _)) ((Below.refl _ _).alloc (Nat.le_refl _) _) (by simp) (by simp; omega) ?_)
           intro v1 w1 hR1 hB1 hg1 hat1
           rw [List.nil_append] at hR1))
      obtain ⟨An, cn, rfl⟩ := own_slice hR1
      have HPK := Lib.hid (HPJ.out.newside (Keep.of_below hB1 _) hR1)
      clear hR1 hB1 hg1 hat1 p4 q4 q5
      obtain ⟨wx, rfl⟩ : ∃ wx, wx = w1 := ⟨_, rfl⟩
      go_loopw [7, 18, 19] (fun tv lv jv wr => ∃ (j : Nat) (ls : List Pm) (t : Int), j ≤ s.l.length ∧ jv = .int .i64 j ∧ tv = .int .i64 t ∧ ls = (s.l.take j).filter (fun m => !cutLaw c.side true m.f m.t) ∧ t = s.lost + ((j : Int) - (ls.length : Int)) ∧ ls.length ≤ j ∧ gmK.R 48 wr wx.heap.size (fun _ => True) lv ls ∧ Below wx.heap.size wx wr) (fun _ _ jv _ => s.l.length - (intOf jv).toNat)
      case atStart => exact ⟨0, [], s.lost, by omega, rfl, rfl, rfl, by simp, by simp, Kd.R_nil _ _ _ _ _, Below.refl _ _⟩
      case round =>
        obtain ⟨j, ls, t, hj, rfl, rfl, hls, ht, hlj, hRl, hBl⟩ := hrel
        have HRL := Lib.hid hRl
        have HBL := Lib.hid hBl
        have HLS := Lib.hid hls
        have HT := Lib.hid ht
        have ht0 : 0 ≤ t := by omega
        have ht1 : t ≤ 300 := by omega
        obtain ⟨Al2, cl2, rfl⟩ := Kd.R_slice HRL.out
        have HPL := Lib.hid (HPK.out.other (Keep.of_below HBL.out _))
        clear hRl hBl hls ht
        by_cases hlt : j < s.l.length
        · obtain ⟨gA, rfl, hcpl, hCC⟩ := HPL.out.form (by omega)
          obtain ⟨m, hm⟩ : ∃ m, s.l[j]? = some m := ⟨_, List.getElem?_eq_getElem hlt⟩
          obtain ⟨r0, r1, r2⟩ := gm_at HPL.out.row hm
          have HSN := Lib.hid (filter_snoc (p := fun m => !cutLaw c.side true m.f m.t) hm)
          have s0 : wr.drew.cell? ⟨gA, j * 3, none⟩ = some (.int .i64 m.f) := r0
          have s1 : wr.drew.cell? ⟨gA, j * 3 + 1, none⟩ = some (.int .i64 m.t) := r1
          have hin : (j : Int) < (s.l.length : Int) := by omega
          have hin0 : (0 : Int) ≤ (j : Int) := by omega
          have HLAW := Lib.hid (play_law m.f m.t true (HPL.out.other ((Keep.refl _ wr).drew)))
          have HR0 := Lib.hid r0
          have HR1 := Lib.hid r1
          have HR2 := Lib.hid r2
          clear hm hCC
          cases hcc : cutLaw c.side true m.f m.t
          · have HCC := Lib.hid hcc
            clear hcc
            go_wp2_with fail
            go_region_law ((go_simp; go_at_call 17; refine HLAW.out.mono ?_; rintro e w6 ⟨rfl, hP6, hB6⟩; rw [HCC.out]; have HB6 : RowKit.Hid (Below wr.heap.size wr w6) := ⟨hB6.os, hB6.tape, hB6.output, hB6.size, hB6.block⟩; clear hP6 hB6))
            all_goals
              have t0 := pw_cell_below HB6.out HR0.out
              have t1 := pw_cell_below HB6.out HR1.out
              have t2 := pw_cell_below HB6.out HR2.out
              have HBx : RowKit.Hid (Below wx.heap.size wx w6) := below_then HBL.out HB6.out
              have HRx := Lib.hid (Kd.R_below HRL.out HB6.out)
              clear s0 s1
              go_wp2_with (at_builtin; refine Kd.R_append gmK (w0 := wx) (W := w6) wx.heap.size rfl _ _ 44 48 _ 24 (by rfl) Try.underlying44 Try.info48 (by rfl) (by decide) (by decide) (.slice Al2 ls.length cl2) ls m (Pm.own m) (fun _ => True) (fun _ => False) (by rfl) (by rfl) rfl (fun _ h => h.elim) (fun k hk => trivial) HRx.out HBx.out HBx.out.size (by omega) ?_; intro v1 w8 hR1 hB1 hg1 hat1; obtain ⟨A1, c1, rfl⟩ := Kd.R_slice hR1; have HRy := Lib.hid hR1; have HBy := Lib.hid hB1; clear hR1 hB1 hg1 hat1)
              refine ⟨⟨j + 1, ls ++ [m], t, by omega, by simp, rfl, ?_, ?_, ?_, by have := HRy.out; simp only [List.length_append, List.length_cons, List.length_nil] at this; exact this, HBy.out⟩, by simp [intOf]; omega⟩
              · rw [HSN.out, HLS.out, HCC.out]; rfl
              · rw [List.length_append, HT.out]; simp; omega
              · rw [List.length_append]; simp; omega
          · have HCC := Lib.hid hcc
            clear hcc
            go_wp2_with fail
            go_region_law ((go_simp; go_at_call 17; refine HLAW.out.mono ?_; rintro e w6 ⟨rfl, hP6, hB6⟩; rw [HCC.out]; have HB6 : RowKit.Hid (Below wr.heap.size wr w6) := ⟨hB6.os, hB6.tape, hB6.output, hB6.size, hB6.block⟩; clear hP6 hB6))
            all_goals
              go_wp2_with fail
              refine ⟨⟨j + 1, ls, t + 1, by omega, by simp, by simp, ?_, ?_, by omega, Kd.R_below HRL.out HB6.out, below_then HBL.out HB6.out⟩, by simp [intOf]; omega⟩
              · rw [HSN.out, HLS.out, HCC.out]; simp
              · rw [HT.out]; omega
        · obtain rfl : j = s.l.length := by omega
          have hl6 : ls = s6.l := by rw [HLS.out, HF6.out, List.take_length]
          subst hl6
          have HP6 := Lib.hid (HPK.out.newrow (Keep.of_below HBL.out _) HRL.out)
          have ht6 : t = s6.lost := by rw [HT.out, HL6.out]
          have HT6 := Lib.hid ht6
          clear ht6
          go_wp2_with fail
          refine Meets.norm ?_
          refine PlMI.mk _ _ _ _ _ _ _ _ _ _ _ _ _ _ _ _ _ _ _ _ _ _ _ _ _ _ _ _ _ _ _ _ _ _ _ _ _ _ _ _ _ _ _ _ _ _ _ _ _ _ _ _ _ _ _ _ _ _ _ _ _ _ _ _ _ _ _ _ _ _ _ _ _ _ _ _ _ _ _ _ _ _ _ _ _ _ _ _ _ _ _ _ _ _ _ _ _ _ _ _ _ _ _ _ _ _ _ _ _ _ _ _ _ _ _ _ _ _ _ _ _ _ _ _ _ _ _ _ _ _ _ _ _ _ _ _ _ _ _ _ _ _ _ _ _ _ _ _ _ _ _ _ _ _ _ _ _ _ _ _ _ _ _ _ _ _ _ _ _ _ _ _ _ _ _ _ _ _ _ _ _ _ _ _ _ _ _ _ _ _ _ _ _ _ _ _ _ _ _ _ _ _ _ _ _ _ _ _ _ _ _ _ _ _ _ _ _ _ _ _ _ _ _ _ _ _ _ _ _ _ _ _ _ _ _ _ _ _ _ _ _ _ _ _ _ _ _ ?_
          exact ⟨made, s6, F6, c.side, true, rfl, by rw [HT6.out], rfl, by have := HS6.out; omega, hm0, by omega, by have := HS6.out; omega, HSI6.out, by omega, HP6.out⟩
end Go.Proofs.Ytepmnkelfaiapaa
