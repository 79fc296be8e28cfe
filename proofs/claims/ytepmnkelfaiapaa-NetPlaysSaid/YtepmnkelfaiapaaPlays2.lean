/- A case of NetPlays. -/
import Derived.Test.YtepmnkelfaiapaaPlaysD
import Derived.Deep.DeepCutAuto
import Derived.IntWalk
set_option linter.unusedVariables false
set_option linter.unusedSimpArgs false
namespace Go.Proofs.Ytepmnkelfaiapaa
open Go.RowKit Go.Proofs.YtepmnkelfaiapaaW.PrintWords Go.Proofs.Mine
set_option maxRecDepth 1000000 in
set_option maxHeartbeats 4000000 in
theorem play_case2 (x0 x1 x20 x21 x22 x2 x12 x13 x14 x15 x16 x17 x18 x19 x23 x24 x25 x26 x27 x28 x29 x30 x31 x32 x33 x34 x35 x36 x37 x38 x39 x40 x41 x42 x43 x44 x45 x46 x47 x48 x49 x50 x51 x52 x53 x54 x55 x56 x57 x58 x59 x60 x61 x62 x63 x64 x65 x66 x67 x68 x69 x70 x71 x72 x73 x74 x75 x76 x77 x78 x79 x80 x81 x82 x83 x84 x85 x86 x87 x88 x89 x90 x91 x92 x93 x94 x95 x96 x97 x98 x99 x100 x101 x102 x103 x104 x105 x106 x107 x108 x109 x110 x111 x112 x113 x114 x115 x116 x117 x118 x119 x120 x121 x122 x123 x124 x125 x126 x127 x128 x129 x130 x131 x132 x133 x134 x135 x136 x137 x138 x139 x140 x141 x142 x143 x144 x145 x146 x147 x148 x149 x150 x151 x152 x153 x154 x155 x156 x157 x158 x159 x160 x161 x162 x163 x164 x165 x166 x167 x168 x169 x170 x171 x172 x173 x174 x175 x176 x177 x178 x179 x180 x181 x182 x183 x184 x185 x186 x187 x188 x189 x190 x191 x192 x193 x194 x195 x196 x197 x198 x199 x200 x201 x202 x203 x204 x205 x206 x207 x208 x209 x210 x211 x212 x213 x214 x215 x216 x217 x218 x219 x220 x221 x222 x223 x224 x225 x226 x227 x228 x229 x230 x231 x232 x233 x234 x235 x236 x237 x238 x239 x240 x241 x242 x243 x244 x245 x246 x247 x248 x249 x250 x251 x252 x253 : Value) (w wc : World) (b k n : Nat) (made : Int) (s : NSt) (F : Nat → Prop) (sd : List Int) (on : Bool) (Al As : Option Addr) (cpl cps : Nat) (c : Cl) (A' : Option Addr) (cap' : Nat)
    (hk : k < 100) (hl0 : 0 ≤ s.lost) (hm0 : 0 ≤ made) (hmk : made ≤ k) (hsum : s.lost + (s.l.length : Int) ≤ k) (HSI : RowKit.Hid (SideIs s sd on)) (hsd : sd.length ≤ 20)
    (HP1 : RowKit.Hid (PlayIn w b s wc F (.slice Al s.l.length cpl) s.l (.slice As sd.length cps) sd)) (HBX : RowKit.Hid (wc.heap[n]? = some (.cells #[.int .i64 c.kd, .int .i64 c.num, .int .i64 c.fr, .int .i64 c.dst, .slice A' c.side.length cap'] 46 (0, 0))))
    (HS : RowKit.Hid (ReadsInt w .i64 A' c.side.length c.side)) (HNF : RowKit.Hid (¬ F n)) (hshort : c.side.length ≤ 20) :
    Code.wp Try.prog arm139 (Meets 1 (PlMI w b k (k + 1) x0 x1 (.pointer (some ⟨b, 0, none⟩)) x20 x21 x22)) ⟨#[x0, x1, x2, .pointer (some ⟨b, 0, none⟩), .slice Al s.l.length cpl, .slice As sd.length cps, .bool on, .int .i64 s.lost, .int .i64 made, .int .i64 (k : Int), .pointer (some ⟨n, 0, none⟩), .int .i64 (atK s c.num), x12, x13, x14, x15, x16, x17, x18, x19, x20, x21, x22, x23, x24, x25, x26, x27, x28, x29, x30, x31, x32, x33, x34, x35, x36, x37, x38, x39, x40, x41, x42, x43, x44, x45, x46, x47, x48, x49, x50, x51, x52, x53, x54, x55, x56, x57, x58, x59, x60, x61, x62, x63, x64, x65, x66, x67, x68, x69, x70, x71, x72, x73, x74, x75, x76, x77, x78, x79, x80, x81, x82, x83, x84, x85, x86, x87, x88, x89, x90, x91, x92, x93, x94, x95, x96, x97, x98, x99, x100, x101, x102, x103, x104, x105, x106, x107, x108, x109, x110, x111, x112, x113, x114, x115, x116, x117, x118, x119, x120, x121, x122, x123, x124, x125, x126, x127, x128, x129, x130, x131, x132, x133, x134, x135, x136, x137, x138, x139, x140, x141, x142, x143, x144, x145, x146, x147, x148, x149, x150, x151, x152, x153, x154, x155, x156, x157, x158, x159, x160, x161, x162, x163, x164, x165, x166, x167, x168, x169, x170, x171, x172, x173, x174, x175, x176, x177, x178, x179, x180, x181, x182, x183, x184, x185, x186, x187, x188, x189, x190, x191, x192, x193, x194, x195, x196, x197, x198, x199, x200, x201, x202, x203, x204, x205, x206, x207, x208, x209, x210, x211, x212, x213, x214, x215, x216, x217, x218, x219, x220, x221, x222, x223, x224, x225, x226, x227, x228, x229, x230, x231, x232, x233, x234, x235, x236, x237, x238, x239, x240, x241, x242, x243, x244, x245, x246, x247, x248, x249, x250, x251, x252, x253], []⟩ wc := by
  conv => arg 2; whnf
  have hll : s.l.length ≤ 100 := by omega
  have hlo : s.lost ≤ 100 := by omega
  have p1 := blk_cell HBX.out 1
  have p2 := blk_cell HBX.out 2
  have p3 := blk_cell HBX.out 3
  have p4 := blk_cell HBX.out 4
  have d1 : ∀ nq, (wc.drewN nq).cell? ⟨n, 1, none⟩ = some (.int .i64 c.num) := fun _ => p1
  have d2 : ∀ nq, (wc.drewN nq).cell? ⟨n, 2, none⟩ = some (.int .i64 c.fr) := fun _ => p2
  have d3 : ∀ nq, (wc.drewN nq).cell? ⟨n, 3, none⟩ = some (.int .i64 c.dst) := fun _ => p3

  by_cases h0 : s.l.length = 0
  · have hg := got_nil (n := c.num) h0
    have hd := play_drop c.num HP1.out (by omega) hl0 (by omega)
    rw [show drops s c.num = s from by unfold drops; simp [hg], show codeOf s c.num = 2 from by unfold codeOf; rw [hg]; rfl] at hd
    have HSD := Lib.hid hd
    clear hd p2 p3 p4 d1 d2 d3
    go_wp2_with (go_at_call 14; refine HSD.out.mono ?_; rintro e w5 ⟨rfl, F6, hP6⟩; have HP6 := Lib.hid hP6; clear hP6)
    refine Meets.norm ?_
    refine PlMI.mk _ _ _ _ _ _ _ _ _ _ _ _ _ _ _ _ _ _ _ _ _ _ _ _ _ _ _ _ _ _ _ _ _ _ _ _ _ _ _ _ _ _ _ _ _ _ _ _ _ _ _ _ _ _ _ _ _ _ _ _ _ _ _ _ _ _ _ _ _ _ _ _ _ _ _ _ _ _ _ _ _ _ _ _ _ _ _ _ _ _ _ _ _ _ _ _ _ _ _ _ _ _ _ _ _ _ _ _ _ _ _ _ _ _ _ _ _ _ _ _ _ _ _ _ _ _ _ _ _ _ _ _ _ _ _ _ _ _ _ _ _ _ _ _ _ _ _ _ _ _ _ _ _ _ _ _ _ _ _ _ _ _ _ _ _ _ _ _ _ _ _ _ _ _ _ _ _ _ _ _ _ _ _ _ _ _ _ _ _ _ _ _ _ _ _ _ _ _ _ _ _ _ _ _ _ _ _ _ _ _ _ _ _ _ _ _ _ _ _ _ _ _ _ _ _ _ _ _ _ _ _ _ _ _ _ _ _ _ _ _ _ _ _ _ _ _ _ ?_
    exact ⟨made, s, F6, sd, on, rfl, rfl, rfl, hl0, hm0, by omega, by omega, HSI.out, hsd, by have := HP6.out; rw [h0] at this; exact this⟩

  · obtain ⟨i, m, hi, hil, hm, hg, hgi⟩ := got_at (n := c.num) h0
    rw [(atK_pos (n := c.num) h0).trans hi]
    have hd := play_drop c.num HP1.out (by omega) hl0 (by omega)
    rw [show codeOf s c.num = 0 from by unfold codeOf; rw [hg]; rfl] at hd
    have hdr : drops s c.num = { dels s c.num with lost := s.lost + 1 } := by unfold drops; rw [hg]; rfl
    have HG1 : RowKit.Hid ((drops s c.num).l = s.l.eraseIdx i) := by show (drops s c.num).l = _; rw [hdr]; show s.l.eraseIdx (gotI s c.num) = _; rw [hgi]
    have HG2 : RowKit.Hid ((drops s c.num).lost = s.lost + 1) := by show (drops s c.num).lost = _; rw [hdr]
    have HG3 : RowKit.Hid ((drops s c.num).side = s.side) := by show (drops s c.num).side = _; rw [hdr]; rfl
    have hl6 : (drops s c.num).l.length + 1 = s.l.length := by rw [HG1.out, List.length_eraseIdx_of_lt hil]; omega
    have HL6 := Lib.hid hl6
    clear hl6 hdr
    generalize drops s c.num = s6 at *
    have HSD := Lib.hid hd
    have H0 := Lib.hid h0
    have hpos : 0 < s.l.length := by omega
    clear hd p2 p3 p4 d1 d2 d3 hg hgi hm hi h0
    go_wp2_with (go_at_call 14; refine HSD.out.mono ?_; rintro e w5 ⟨rfl, F6, hP6⟩; have HP7 := Lib.hid hP6; clear hP6)
    obtain ⟨gA, rfl, hcpl, _⟩ := HP7.out.form H0.out
    have hin : (i : Int) < (s.l.length : Int) := by omega
    have hin0 : (0 : Int) ≤ (i : Int) := by omega
    have hC := HP7.out.row
    obtain ⟨hcpl, hCC⟩ : s.l.length ≤ cpl ∧ gmK.C w5 (some ⟨gA, 0, none⟩) s.l.length s.l := ⟨(Kd.R_reads' hC).2.1, (Kd.R_reads' hC).2.2⟩
    obtain ⟨A2, c2, hbk, hXD⟩ := gm_back hCC hcpl hil
    have hfr := gm_front (k := i) (c := cpl) (by omega) (some ⟨gA, 0, none⟩) s.l.length
    have hXT := gm_take hCC (i := i) (by omega)
    have hwr : IntKind.i64.wrap ((i : Int) + 1) = (i : Int) + 1 := IntWalk.i64_in _ (by omega)
    obtain ⟨n2, hn2⟩ : ∃ n2, n2 = s.l.length - (i + 1) := ⟨_, rfl⟩
    rw [← hn2] at hXD hbk
    obtain ⟨xt, hxt⟩ : ∃ xt, xt = s.l.take i := ⟨_, rfl⟩
    obtain ⟨xd, hxd⟩ : ∃ xd, xd = s.l.drop (i + 1) := ⟨_, rfl⟩
    rw [← hxt] at hXT
    rw [← hxd] at hXD
    have hn3 : n2 ≤ 100 := by omega
    have hi3 : i ≤ 100 := by omega
    have hlt : xt.length = i := by rw [hxt, List.length_take]; omega
    have HLT := Lib.hid hlt
    have HX : RowKit.Hid (([] ++ xt) ++ xd = s6.l) := by rw [HG1.out, hxt, hxd, List.nil_append, List.eraseIdx_eq_take_drop_succ]; exact rfl
    have HXT := Lib.hid hXT
    have HXD := Lib.hid hXD
    have tok1 : True := trivial
    clear hC hCC hXT hXD hxt hxd hlt hn2
    go_region_law (first
      | (have hB1 := HB1.out
         refine Kd.R_append_rows_step gmK (w0 := w5) w5.heap.size (by rfl) _ _ 44 48 _ 24 (by rfl) Try.underlying44 Try.info48 (by rfl) (by decide) (by decide) (.slice A1 i c1) ([] ++ xt) xd A2 n2 c2 (fun _ => True) (fun _ => False) (by rfl) (by rfl) (Kd.R_move HR1.out (fun _ _ => rfl)) (Kd.C_below HXD.out hB1) (fun _ _ h => h) (fun _ h => h.elim) (fun _ _ => trivial) hB1 hB1.size (by rw [List.nil_append, HLT.out]; omega) ?_
         intro v2 w2 hR2 hB2 hg2 hat2
         rw [HX.out] at hR2
         have HP6 := Lib.hid (HP7.out.newrow (Keep.of_below hB2 _) hR2)
         obtain ⟨A3, c3, rfl⟩ := Kd.R_slice hR2
         clear hR2 hB2 hg2 hat2 hB1)
      | (have _t := tok1
         refine Kd.R_append_rows_step gmK (w0 := w5) w5.heap.size (by rfl) _ _ 44 48 _ 24 (by rfl) Try.underlying44 Try.info48 (by rfl) (by decide) (by decide) (.slice (some ⟨w5.heap.size, 0, none⟩) 0 0) [] xt (some ⟨gA, 0, none⟩) i cpl (fun _ => True) (fun _ => False) (by rfl) (by rfl) (Kd.R_move (gm_empty w5) (fun _ _ => rfl)) (Kd.C_below HXT.out (gm_world w5 _ rfl rfl rfl rfl)) (fun _ _ h => h) (fun _ h => h.elim) (fun _ _ => trivial) (gm_world w5 _ rfl rfl rfl rfl) (gm_world w5 _ rfl rfl rfl rfl).size (by simp; omega) ?_
         intro v1 w1 hR1 hB1 hg1 hat1
         clear tok1 _t
         have hv : ∃ A1 c1, v1 = .slice A1 i c1 := by
           obtain ⟨A1, c1, h⟩ := Kd.R_slice hR1
           rw [List.nil_append, HLT.out] at h
           exact ⟨A1, c1, h⟩
         obtain ⟨A1, c1, rfl⟩ := hv
         have HR1 := Lib.hid hR1
         have HB1 := Lib.hid hB1
         clear hR1 hB1 hg1 hat1))

    all_goals
      go_wp2_with fail
      refine Meets.norm ?_
      refine PlMI.mk _ _ _ _ _ _ _ _ _ _ _ _ _ _ _ _ _ _ _ _ _ _ _ _ _ _ _ _ _ _ _ _ _ _ _ _ _ _ _ _ _ _ _ _ _ _ _ _ _ _ _ _ _ _ _ _ _ _ _ _ _ _ _ _ _ _ _ _ _ _ _ _ _ _ _ _ _ _ _ _ _ _ _ _ _ _ _ _ _ _ _ _ _ _ _ _ _ _ _ _ _ _ _ _ _ _ _ _ _ _ _ _ _ _ _ _ _ _ _ _ _ _ _ _ _ _ _ _ _ _ _ _ _ _ _ _ _ _ _ _ _ _ _ _ _ _ _ _ _ _ _ _ _ _ _ _ _ _ _ _ _ _ _ _ _ _ _ _ _ _ _ _ _ _ _ _ _ _ _ _ _ _ _ _ _ _ _ _ _ _ _ _ _ _ _ _ _ _ _ _ _ _ _ _ _ _ _ _ _ _ _ _ _ _ _ _ _ _ _ _ _ _ _ _ _ _ _ _ _ _ _ _ _ _ _ _ _ _ _ _ _ _ _ _ _ _ _ ?_
      exact ⟨made, s6, F6, sd, on, rfl, by rw [HG2.out], rfl, by rw [HG2.out]; omega, hm0, by omega, by have := HL6.out; rw [HG2.out]; omega, HSI.out.of_eq HG3.out, hsd, HP6.out⟩
end Go.Proofs.Ytepmnkelfaiapaa
