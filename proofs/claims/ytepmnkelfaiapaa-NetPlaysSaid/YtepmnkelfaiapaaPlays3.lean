/- A case of NetPlays. -/
import Derived.Test.YtepmnkelfaiapaaPlaysD
import Derived.Deep.DeepCutAuto
import Derived.IntWalk
set_option linter.unusedVariables false
set_option linter.unusedSimpArgs false
namespace Go.Proofs.Ytepmnkelfaiapaa
open Go.RowKit Go.Proofs.YtepmnkelfaiapaaW.PrintWords Go.Proofs.Mine
set_option maxRecDepth 1000000 in
set_option maxHeartbeats 4000000 in
theorem play_case3 (x0 x1 x20 x21 x22 x2 x12 x13 x14 x15 x16 x17 x18 x19 x23 x24 x25 x26 x27 x28 x29 x30 x31 x32 x33 x34 x35 x36 x37 x38 x39 x40 x41 x42 x43 x44 x45 x46 x47 x48 x49 x50 x51 x52 x53 x54 x55 x56 x57 x58 x59 x60 x61 x62 x63 x64 x65 x66 x67 x68 x69 x70 x71 x72 x73 x74 x75 x76 x77 x78 x79 x80 x81 x82 x83 x84 x85 x86 x87 x88 x89 x90 x91 x92 x93 x94 x95 x96 x97 x98 x99 x100 x101 x102 x103 x104 x105 x106 x107 x108 x109 x110 x111 x112 x113 x114 x115 x116 x117 x118 x119 x120 x121 x122 x123 x124 x125 x126 x127 x128 x129 x130 x131 x132 x133 x134 x135 x136 x137 x138 x139 x140 x141 x142 x143 x144 x145 x146 x147 x148 x149 x150 x151 x152 x153 x154 x155 x156 x157 x158 x159 x160 x161 x162 x163 x164 x165 x166 x167 x168 x169 x170 x171 x172 x173 x174 x175 x176 x177 x178 x179 x180 x181 x182 x183 x184 x185 x186 x187 x188 x189 x190 x191 x192 x193 x194 x195 x196 x197 x198 x199 x200 x201 x202 x203 x204 x205 x206 x207 x208 x209 x210 x211 x212 x213 x214 x215 x216 x217 x218 x219 x220 x221 x222 x223 x224 x225 x226 x227 x228 x229 x230 x231 x232 x233 x234 x235 x236 x237 x238 x239 x240 x241 x242 x243 x244 x245 x246 x247 x248 x249 x250 x251 x252 x253 : Value) (w wc : World) (b k n : Nat) (made : Int) (s : NSt) (F : Nat → Prop) (sd : List Int) (on : Bool) (Al As : Option Addr) (cpl cps : Nat) (c : Cl) (A' : Option Addr) (cap' : Nat)
    (hk : k < 100) (hl0 : 0 ≤ s.lost) (hm0 : 0 ≤ made) (hmk : made ≤ k) (hsum : s.lost + (s.l.length : Int) ≤ k) (HSI : RowKit.Hid (SideIs s sd on)) (hsd : sd.length ≤ 20)
    (HP1 : RowKit.Hid (PlayIn w b s wc F (.slice Al s.l.length cpl) s.l (.slice As sd.length cps) sd)) (HBX : RowKit.Hid (wc.heap[n]? = some (.cells #[.int .i64 c.kd, .int .i64 c.num, .int .i64 c.fr, .int .i64 c.dst, .slice A' c.side.length cap'] 46 (0, 0))))
    (HS : RowKit.Hid (ReadsInt w .i64 A' c.side.length c.side)) (HNF : RowKit.Hid (¬ F n)) (hshort : c.side.length ≤ 20) :
    Code.wp Try.prog arm165 (Meets 1 (PlMI w b k (k + 1) x0 x1 (.pointer (some ⟨b, 0, none⟩)) x20 x21 x22)) ⟨#[x0, x1, x2, .pointer (some ⟨b, 0, none⟩), .slice Al s.l.length cpl, .slice As sd.length cps, .bool on, .int .i64 s.lost, .int .i64 made, .int .i64 (k : Int), .pointer (some ⟨n, 0, none⟩), .int .i64 (atK s c.num), x12, x13, x14, x15, x16, x17, x18, x19, x20, x21, x22, x23, x24, x25, x26, x27, x28, x29, x30, x31, x32, x33, x34, x35, x36, x37, x38, x39, x40, x41, x42, x43, x44, x45, x46, x47, x48, x49, x50, x51, x52, x53, x54, x55, x56, x57, x58, x59, x60, x61, x62, x63, x64, x65, x66, x67, x68, x69, x70, x71, x72, x73, x74, x75, x76, x77, x78, x79, x80, x81, x82, x83, x84, x85, x86, x87, x88, x89, x90, x91, x92, x93, x94, x95, x96, x97, x98, x99, x100, x101, x102, x103, x104, x105, x106, x107, x108, x109, x110, x111, x112, x113, x114, x115, x116, x117, x118, x119, x120, x121, x122, x123, x124, x125, x126, x127, x128, x129, x130, x131, x132, x133, x134, x135, x136, x137, x138, x139, x140, x141, x142, x143, x144, x145, x146, x147, x148, x149, x150, x151, x152, x153, x154, x155, x156, x157, x158, x159, x160, x161, x162, x163, x164, x165, x166, x167, x168, x169, x170, x171, x172, x173, x174, x175, x176, x177, x178, x179, x180, x181, x182, x183, x184, x185, x186, x187, x188, x189, x190, x191, x192, x193, x194, x195, x196, x197, x198, x199, x200, x201, x202, x203, x204, x205, x206, x207, x208, x209, x210, x211, x212, x213, x214, x215, x216, x217, x218, x219, x220, x221, x222, x223, x224, x225, x226, x227, x228, x229, x230, x231, x232, x233, x234, x235, x236, x237, x238, x239, x240, x241, x242, x243, x244, x245, x246, x247, x248, x249, x250, x251, x252, x253], []⟩ wc := by
  conv => arg 2; whnf
  have hll : s.l.length ≤ 100 := by omega
  have hlo : s.lost ≤ 100 := by omega
  have p1 := blk_cell HBX.out 1
  have p2 := blk_cell HBX.out 2
  have p3 := blk_cell HBX.out 3
  have p4 := blk_cell HBX.out 4
  have d1 : ∀ nq, (wc.drewN nq).cell? ⟨n, 1, none⟩ = some (.int .i64 c.num) := fun _ => p1
  have d2 : ∀ nq, (wc.drewN nq).cell? ⟨n, 2, none⟩ = some (.int .i64 c.fr) := fun _ => p2
  have d3 : ∀ nq, (wc.drewN nq).cell? ⟨n, 3, none⟩ = some (.int .i64 c.dst) := fun _ => p3

  by_cases h0 : s.l.length = 0
  · have hg := got_nil (n := c.num) h0
    have hd := play_double c.num HP1.out (by omega)
    rw [show dbls s c.num = s from by unfold dbls; simp [hg], show codeOf s c.num = 2 from by unfold codeOf; rw [hg]; rfl] at hd
    have HSD := Lib.hid hd
    clear hd p2 p3 p4 d1 d2 d3
    go_wp2_with (go_at_call 15; refine HSD.out.mono ?_; rintro e w5 ⟨rfl, F6, hP6⟩; have HP6 := Lib.hid hP6; clear hP6)
    refine Meets.norm ?_
    refine PlMI.mk _ _ _ _ _ _ _ _ _ _ _ _ _ _ _ _ _ _ _ _ _ _ _ _ _ _ _ _ _ _ _ _ _ _ _ _ _ _ _ _ _ _ _ _ _ _ _ _ _ _ _ _ _ _ _ _ _ _ _ _ _ _ _ _ _ _ _ _ _ _ _ _ _ _ _ _ _ _ _ _ _ _ _ _ _ _ _ _ _ _ _ _ _ _ _ _ _ _ _ _ _ _ _ _ _ _ _ _ _ _ _ _ _ _ _ _ _ _ _ _ _ _ _ _ _ _ _ _ _ _ _ _ _ _ _ _ _ _ _ _ _ _ _ _ _ _ _ _ _ _ _ _ _ _ _ _ _ _ _ _ _ _ _ _ _ _ _ _ _ _ _ _ _ _ _ _ _ _ _ _ _ _ _ _ _ _ _ _ _ _ _ _ _ _ _ _ _ _ _ _ _ _ _ _ _ _ _ _ _ _ _ _ _ _ _ _ _ _ _ _ _ _ _ _ _ _ _ _ _ _ _ _ _ _ _ _ _ _ _ _ _ _ _ _ _ _ _ ?_
    exact ⟨made, s, F6, sd, on, rfl, rfl, rfl, hl0, hm0, by omega, by omega, HSI.out, hsd, by have := HP6.out; rw [h0] at this; exact this⟩

  · obtain ⟨i, m, hi, hil, hm, hg, hgi⟩ := got_at (n := c.num) h0
    rw [(atK_pos (n := c.num) h0).trans hi]
    have hd := play_double c.num HP1.out (by omega)
    rw [show codeOf s c.num = 0 from by unfold codeOf; rw [hg]; rfl] at hd
    have hdr : dbls s c.num = { s with l := s.l ++ [m] } := by unfold dbls; rw [hg]
    have HG1 : RowKit.Hid ((dbls s c.num).l = s.l ++ [m]) := by show (dbls s c.num).l = _; rw [hdr]
    have HG2 : RowKit.Hid ((dbls s c.num).lost = s.lost) := by show (dbls s c.num).lost = _; rw [hdr]
    have HG3 : RowKit.Hid ((dbls s c.num).side = s.side) := by show (dbls s c.num).side = _; rw [hdr]
    have hl6 : (dbls s c.num).l.length = s.l.length + 1 := by rw [HG1.out, List.length_append]; rfl
    have HL6 := Lib.hid hl6
    clear hl6 hdr
    generalize dbls s c.num = s6 at *
    have HSD := Lib.hid hd
    have H0 := Lib.hid h0
    have HM := Lib.hid hm
    have hpos : 0 < s.l.length := by omega
    clear hd p2 p3 p4 d1 d2 d3 hg hgi hm hi h0
    go_wp2_with (go_at_call 15; refine HSD.out.mono ?_; rintro e w5 ⟨rfl, F6, hP6⟩; have HP7 := Lib.hid hP6; clear hP6)
    obtain ⟨gA, rfl, hcpl, hCC⟩ := HP7.out.form H0.out
    have hin : (i : Int) < (s.l.length : Int) := by omega
    have hin0 : (0 : Int) ≤ (i : Int) := by omega
    obtain ⟨r0, r1, r2⟩ := gm_at HP7.out.row HM.out
    have hgl : gA < w5.heap.size := by have := World.block_lt_of_cell? w5 _ r0; exact this
    have HCC := Lib.hid hCC
    have hB5 : ∀ X, Below w5.heap.size w5 (w5.alloc X) := fun X => (Below.refl _ _).alloc (Nat.le_refl _) _
    have HB5 := Lib.hid hB5
    have r0a : ∀ X, (w5.alloc X).cell? ⟨gA, i * 3, none⟩ = some (.int .i64 m.f) := fun X => pw_cell_below (hB5 X) r0
    have r1a : ∀ X, (w5.alloc X).cell? ⟨gA, i * 3 + 1, none⟩ = some (.int .i64 m.t) := fun X => pw_cell_below (hB5 X) r1
    have r2a : ∀ X, (w5.alloc X).cell? ⟨gA, i * 3 + 2, none⟩ = some (.int .i64 m.i) := fun X => pw_cell_below (hB5 X) r2
    have R0 := Lib.hid r0
    have R1 := Lib.hid r1
    have R2 := Lib.hid r2
    have s0 : w5.drew.cell? ⟨gA, i * 3, none⟩ = some (.int .i64 m.f) := r0
    have s1 : w5.drew.cell? ⟨gA, i * 3 + 1, none⟩ = some (.int .i64 m.t) := r1
    have s2 : w5.drew.cell? ⟨gA, i * 3 + 2, none⟩ = some (.int .i64 m.i) := r2
    have HC1 : RowKit.Hid (∀ X, ((w5.alloc X).alloc (.cells #[] 48)).heap[w5.heap.size + 1]? = some (.cells #[] 48 (0, 0))) := fun X => by have := heap_alloc_new (w5.alloc X) (.cells #[] 48); simpa using this
    have HC2 : RowKit.Hid (∀ X Y, ((w5.alloc X).alloc Y).heap[w5.heap.size + 1]? = some Y) := fun X Y => by have := heap_alloc_new (w5.alloc X) Y; simpa using this
    have HC3 : RowKit.Hid (∀ X Y, ((w5.alloc X).alloc Y).heap[w5.heap.size]? = some X) := fun X Y => blk_alloc (heap_alloc_new w5 X) Y
    obtain ⟨L, hL⟩ : ∃ L, L = s.l.length := ⟨_, rfl⟩
    have HX : RowKit.Hid (([] ++ s.l) ++ [m] = s6.l) := by rw [HG1.out, List.nil_append]; exact rfl
    have hL1 : s.l.length ≤ 100 := hll
    have tok1 : True := trivial
    clear hCC hB5
    go_region_law (first
      | (have hB1 := HB1.out
         have hbx := HBOX.out
         refine Kd.R_append_rows_step gmK (w0 := w5) w5.heap.size (by rfl) _ _ 44 48 _ 24 (by rfl) Try.underlying44 Try.info48 (by rfl) (by decide) (by decide) (.slice A1 s.l.length c1) ([] ++ s.l) [m] _ 1 1 (fun _ => True) (fun _ => False) (by rfl) (by rfl) (Kd.R_move HR1.out (fun _ _ => rfl)) (gm_box hbx) (fun _ _ h => h) (fun _ h => h.elim) (fun _ _ => trivial) hB1 hB1.size (by rw [List.nil_append]; omega) ?_
         intro v2 w2 hR2 hB2 hg2 hat2
         rw [HX.out] at hR2
         have HP6 := Lib.hid (HP7.out.newrow (Keep.of_below hB2 _) hR2)
         obtain ⟨A3, c3, rfl⟩ := Kd.R_slice hR2
         clear hR2 hB2 hg2 hat2 hB1)
      | (have hB1 := HB1.out
         have hw1 := HW1.out
         refine Kd.R_append_rows_step gmK (w0 := w5) w5.heap.size (by rfl) _ _ 44 48 _ 24 (by rfl) Try.underlying44 Try.info48 (by rfl) (by decide) (by decide) (.slice A1 s.l.length c1) ([] ++ s.l) [m] (some ⟨w1.heap.size, 0, none⟩) 1 1 (fun _ => True) (fun _ => False) (by rfl) (by rfl) (Kd.R_alloc HR1.out _) (gm_box (heap_alloc_new w1 _)) (fun _ _ h => h) (fun _ h => h.elim) (fun _ _ => trivial) (hB1.alloc hB1.size _) (hB1.alloc hB1.size _).size (by rw [List.nil_append]; omega) ?_
         intro v2 w2 hR2 hB2 hg2 hat2
         rw [HX.out] at hR2
         have HP6 := Lib.hid (HP7.out.newrow (Keep.of_below hB2 _) hR2)
         obtain ⟨A3, c3, rfl⟩ := Kd.R_slice hR2
         clear hR2 hB2 hg2 hat2 hB1)
      | (have _t := tok1
         refine Kd.R_append_rows_step gmK (w0 := w5) w5.heap.size (by rfl) _ _ 44 48 _ 24 (by rfl) Try.underlying44 Try.info48 (by rfl) (by decide) (by decide) (.slice (some ⟨w5.heap.size, 0, none⟩) 0 0) [] s.l (some ⟨gA, 0, none⟩) s.l.length cpl (fun _ => True) (fun _ => False) (by rfl) (by rfl) (gm_made (heap_alloc_new w5 _) (Nat.le_refl _)) (Kd.C_below HCC.out (gm_world w5 _ rfl rfl rfl rfl)) (fun _ _ h => h) (fun _ h => h.elim) (fun _ _ => trivial) (gm_world w5 _ rfl rfl rfl rfl) (gm_world w5 _ rfl rfl rfl rfl).size (by simp; omega) ?_
         intro v1 w1 hR1 hB1 hg1 hat1
         have HW1 := Lib.hid True.intro
         clear tok1 _t
         have hv : ∃ A1 c1, v1 = .slice A1 s.l.length c1 := by
           obtain ⟨A1, c1, h⟩ := Kd.R_slice hR1
           rw [List.nil_append] at h
           exact ⟨A1, c1, h⟩
         obtain ⟨A1, c1, rfl⟩ := hv
         have t0 : w1.cell? ⟨gA, i * 3, none⟩ = some (.int .i64 m.f) := pw_cell_below hB1 R0.out
         have t1 : w1.cell? ⟨gA, i * 3 + 1, none⟩ = some (.int .i64 m.t) := pw_cell_below hB1 R1.out
         have t2 : w1.cell? ⟨gA, i * 3 + 2, none⟩ = some (.int .i64 m.i) := pw_cell_below hB1 R2.out
         have HR1 := Lib.hid hR1
         have HB1 := Lib.hid hB1
         clear hR1 hB1 hg1 hat1)
      | (have _t := tok1
         refine Kd.R_append_rows_step gmK (w0 := w5) w5.heap.size (by rfl) _ _ 44 48 _ 24 (by rfl) Try.underlying44 Try.info48 (by rfl) (by decide) (by decide) (.slice (some ⟨w5.heap.size, 0, none⟩) 0 0) [] s.l (some ⟨gA, 0, none⟩) s.l.length cpl (fun _ => True) (fun _ => False) (by rfl) (by rfl) (gm_made (HC3.out (.cells #[] 48) (.cells #[.int .i64 m.f, .int .i64 m.t, .int .i64 m.i] 48)) (Nat.le_refl _)) (Kd.C_below HCC.out (gm_far w5 _ (.cells #[] 48) (.cells #[.int .i64 m.f, .int .i64 m.t, .int .i64 m.i] 48) rfl rfl rfl rfl)) (fun _ _ h => h) (fun _ h => h.elim) (fun _ _ => trivial) (gm_far w5 _ (.cells #[] 48) (.cells #[.int .i64 m.f, .int .i64 m.t, .int .i64 m.i] 48) rfl rfl rfl rfl) (gm_far w5 _ (.cells #[] 48) (.cells #[.int .i64 m.f, .int .i64 m.t, .int .i64 m.i] 48) rfl rfl rfl rfl).size (by simp; omega) ?_
         intro v1 w1 hR1 hB1 hg1 hat1
         have HBOX := Lib.hid (blk_grown (by exact HC2.out (.cells #[] 48) (.cells #[.int .i64 m.f, .int .i64 m.t, .int .i64 m.i] 48)) hg1 (by simp [Value.ownBlock]))
         clear tok1 _t
         have hv : ∃ A1 c1, v1 = .slice A1 s.l.length c1 := by
           obtain ⟨A1, c1, h⟩ := Kd.R_slice hR1
           rw [List.nil_append] at h
           exact ⟨A1, c1, h⟩
         obtain ⟨A1, c1, rfl⟩ := hv
         have t0 : w1.cell? ⟨gA, i * 3, none⟩ = some (.int .i64 m.f) := pw_cell_below hB1 R0.out
         have t1 : w1.cell? ⟨gA, i * 3 + 1, none⟩ = some (.int .i64 m.t) := pw_cell_below hB1 R1.out
         have t2 : w1.cell? ⟨gA, i * 3 + 2, none⟩ = some (.int .i64 m.i) := pw_cell_below hB1 R2.out
         have HR1 := Lib.hid hR1
         have HB1 := Lib.hid hB1
         clear hR1 hB1 hg1 hat1)
      | (have _t := tok1
         refine Kd.R_append_rows_step gmK (w0 := w5) w5.heap.size (by rfl) _ _ 44 48 _ 24 (by rfl) Try.underlying44 Try.info48 (by rfl) (by decide) (by decide) (.slice (some ⟨w5.heap.size + 1, 0, none⟩) 0 0) [] s.l (some ⟨gA, 0, none⟩) s.l.length cpl (fun _ => True) (fun _ => False) (by rfl) (by rfl) (gm_made (HC1.out (.cells #[.int .i64 m.f, .int .i64 m.t, .int .i64 m.i] 48)) (Nat.le_succ _)) (Kd.C_below HCC.out (gm_far w5 _ (.cells #[.int .i64 m.f, .int .i64 m.t, .int .i64 m.i] 48) (.cells #[] 48) rfl rfl rfl rfl)) (fun _ _ h => h) (fun _ h => h.elim) (fun _ _ => trivial) (gm_far w5 _ (.cells #[.int .i64 m.f, .int .i64 m.t, .int .i64 m.i] 48) (.cells #[] 48) rfl rfl rfl rfl) (gm_far w5 _ (.cells #[.int .i64 m.f, .int .i64 m.t, .int .i64 m.i] 48) (.cells #[] 48) rfl rfl rfl rfl).size (by simp; omega) ?_
         intro v1 w1 hR1 hB1 hg1 hat1
         have HBOX := Lib.hid (blk_grown (by exact HC3.out (.cells #[.int .i64 m.f, .int .i64 m.t, .int .i64 m.i] 48) (.cells #[] 48)) hg1 (by simp [Value.ownBlock]))
         clear tok1 _t
         have hv : ∃ A1 c1, v1 = .slice A1 s.l.length c1 := by
           obtain ⟨A1, c1, h⟩ := Kd.R_slice hR1
           rw [List.nil_append] at h
           exact ⟨A1, c1, h⟩
         obtain ⟨A1, c1, rfl⟩ := hv
         have t0 : w1.cell? ⟨gA, i * 3, none⟩ = some (.int .i64 m.f) := pw_cell_below hB1 R0.out
         have t1 : w1.cell? ⟨gA, i * 3 + 1, none⟩ = some (.int .i64 m.t) := pw_cell_below hB1 R1.out
         have t2 : w1.cell? ⟨gA, i * 3 + 2, none⟩ = some (.int .i64 m.i) := pw_cell_below hB1 R2.out
         have HR1 := Lib.hid hR1
         have HB1 := Lib.hid hB1
         clear hR1 hB1 hg1 hat1))
    all_goals
      go_wp2_with fail
      refine Meets.norm ?_
      refine PlMI.mk _ _ _ _ _ _ _ _ _ _ _ _ _ _ _ _ _ _ _ _ _ _ _ _ _ _ _ _ _ _ _ _ _ _ _ _ _ _ _ _ _ _ _ _ _ _ _ _ _ _ _ _ _ _ _ _ _ _ _ _ _ _ _ _ _ _ _ _ _ _ _ _ _ _ _ _ _ _ _ _ _ _ _ _ _ _ _ _ _ _ _ _ _ _ _ _ _ _ _ _ _ _ _ _ _ _ _ _ _ _ _ _ _ _ _ _ _ _ _ _ _ _ _ _ _ _ _ _ _ _ _ _ _ _ _ _ _ _ _ _ _ _ _ _ _ _ _ _ _ _ _ _ _ _ _ _ _ _ _ _ _ _ _ _ _ _ _ _ _ _ _ _ _ _ _ _ _ _ _ _ _ _ _ _ _ _ _ _ _ _ _ _ _ _ _ _ _ _ _ _ _ _ _ _ _ _ _ _ _ _ _ _ _ _ _ _ _ _ _ _ _ _ _ _ _ _ _ _ _ _ _ _ _ _ _ _ _ _ _ _ _ _ _ _ _ _ _ ?_
      exact ⟨made, s6, F6, sd, on, rfl, by rw [HG2.out], rfl, by rw [HG2.out]; exact hl0, hm0, by omega, by have := HL6.out; rw [HG2.out]; omega, HSI.out.of_eq HG3.out, hsd, HP6.out⟩
end Go.Proofs.Ytepmnkelfaiapaa
