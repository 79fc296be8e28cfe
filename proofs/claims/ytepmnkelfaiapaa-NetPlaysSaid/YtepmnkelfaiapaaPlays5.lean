/- A case of NetPlays. -/
import Derived.Test.YtepmnkelfaiapaaPlaysD
import Derived.Deep.DeepCutAuto
import Derived.IntWalk
set_option linter.unusedVariables false
set_option linter.unusedSimpArgs false
namespace Go.Proofs.Ytepmnkelfaiapaa
open Go.RowKit Go.Proofs.YtepmnkelfaiapaaW.PrintWords Go.Proofs.Mine
set_option maxRecDepth 1000000 in
set_option maxHeartbeats 4000000 in
theorem play_case5 (x0 x1 x20 x21 x22 x2 x12 x13 x14 x15 x16 x17 x18 x19 x23 x24 x25 x26 x27 x28 x29 x30 x31 x32 x33 x34 x35 x36 x37 x38 x39 x40 x41 x42 x43 x44 x45 x46 x47 x48 x49 x50 x51 x52 x53 x54 x55 x56 x57 x58 x59 x60 x61 x62 x63 x64 x65 x66 x67 x68 x69 x70 x71 x72 x73 x74 x75 x76 x77 x78 x79 x80 x81 x82 x83 x84 x85 x86 x87 x88 x89 x90 x91 x92 x93 x94 x95 x96 x97 x98 x99 x100 x101 x102 x103 x104 x105 x106 x107 x108 x109 x110 x111 x112 x113 x114 x115 x116 x117 x118 x119 x120 x121 x122 x123 x124 x125 x126 x127 x128 x129 x130 x131 x132 x133 x134 x135 x136 x137 x138 x139 x140 x141 x142 x143 x144 x145 x146 x147 x148 x149 x150 x151 x152 x153 x154 x155 x156 x157 x158 x159 x160 x161 x162 x163 x164 x165 x166 x167 x168 x169 x170 x171 x172 x173 x174 x175 x176 x177 x178 x179 x180 x181 x182 x183 x184 x185 x186 x187 x188 x189 x190 x191 x192 x193 x194 x195 x196 x197 x198 x199 x200 x201 x202 x203 x204 x205 x206 x207 x208 x209 x210 x211 x212 x213 x214 x215 x216 x217 x218 x219 x220 x221 x222 x223 x224 x225 x226 x227 x228 x229 x230 x231 x232 x233 x234 x235 x236 x237 x238 x239 x240 x241 x242 x243 x244 x245 x246 x247 x248 x249 x250 x251 x252 x253 : Value) (w wc : World) (b k n : Nat) (made : Int) (s : NSt) (F : Nat → Prop) (sd : List Int) (on : Bool) (Al As : Option Addr) (cpl cps : Nat) (c : Cl) (A' : Option Addr) (cap' : Nat)
    (hk : k < 100) (hl0 : 0 ≤ s.lost) (hm0 : 0 ≤ made) (hmk : made ≤ k) (hsum : s.lost + (s.l.length : Int) ≤ k) (HSI : RowKit.Hid (SideIs s sd on)) (hsd : sd.length ≤ 20)
    (HP1 : RowKit.Hid (PlayIn w b s wc F (.slice Al s.l.length cpl) s.l (.slice As sd.length cps) sd)) (HBX : RowKit.Hid (wc.heap[n]? = some (.cells #[.int .i64 c.kd, .int .i64 c.num, .int .i64 c.fr, .int .i64 c.dst, .slice A' c.side.length cap'] 46 (0, 0))))
    (HS : RowKit.Hid (ReadsInt w .i64 A' c.side.length c.side)) (HNF : RowKit.Hid (¬ F n)) (hshort : c.side.length ≤ 20) :
    Code.wp Try.prog arm239 (Meets 1 (PlMI w b k (k + 1) x0 x1 (.pointer (some ⟨b, 0, none⟩)) x20 x21 x22)) ⟨#[x0, x1, x2, .pointer (some ⟨b, 0, none⟩), .slice Al s.l.length cpl, .slice As sd.length cps, .bool on, .int .i64 s.lost, .int .i64 made, .int .i64 (k : Int), .pointer (some ⟨n, 0, none⟩), .int .i64 (atK s c.num), x12, x13, x14, x15, x16, x17, x18, x19, x20, x21, x22, x23, x24, x25, x26, x27, x28, x29, x30, x31, x32, x33, x34, x35, x36, x37, x38, x39, x40, x41, x42, x43, x44, x45, x46, x47, x48, x49, x50, x51, x52, x53, x54, x55, x56, x57, x58, x59, x60, x61, x62, x63, x64, x65, x66, x67, x68, x69, x70, x71, x72, x73, x74, x75, x76, x77, x78, x79, x80, x81, x82, x83, x84, x85, x86, x87, x88, x89, x90, x91, x92, x93, x94, x95, x96, x97, x98, x99, x100, x101, x102, x103, x104, x105, x106, x107, x108, x109, x110, x111, x112, x113, x114, x115, x116, x117, x118, x119, x120, x121, x122, x123, x124, x125, x126, x127, x128, x129, x130, x131, x132, x133, x134, x135, x136, x137, x138, x139, x140, x141, x142, x143, x144, x145, x146, x147, x148, x149, x150, x151, x152, x153, x154, x155, x156, x157, x158, x159, x160, x161, x162, x163, x164, x165, x166, x167, x168, x169, x170, x171, x172, x173, x174, x175, x176, x177, x178, x179, x180, x181, x182, x183, x184, x185, x186, x187, x188, x189, x190, x191, x192, x193, x194, x195, x196, x197, x198, x199, x200, x201, x202, x203, x204, x205, x206, x207, x208, x209, x210, x211, x212, x213, x214, x215, x216, x217, x218, x219, x220, x221, x222, x223, x224, x225, x226, x227, x228, x229, x230, x231, x232, x233, x234, x235, x236, x237, x238, x239, x240, x241, x242, x243, x244, x245, x246, x247, x248, x249, x250, x251, x252, x253], []⟩ wc := by
  conv => arg 2; whnf
  have hll : s.l.length ≤ 100 := by omega
  have hlo : s.lost ≤ 100 := by omega
  have p1 := blk_cell HBX.out 1
  have p2 := blk_cell HBX.out 2
  have p3 := blk_cell HBX.out 3
  have p4 := blk_cell HBX.out 4
  have d1 : ∀ nq, (wc.drewN nq).cell? ⟨n, 1, none⟩ = some (.int .i64 c.num) := fun _ => p1
  have d2 : ∀ nq, (wc.drewN nq).cell? ⟨n, 2, none⟩ = some (.int .i64 c.fr) := fun _ => p2
  have d3 : ∀ nq, (wc.drewN nq).cell? ⟨n, 3, none⟩ = some (.int .i64 c.dst) := fun _ => p3

  have HSD := Lib.hid (play_heal HP1.out)
  clear p1 p2 p3 p4 d1 d2 d3
  go_wp2_with (go_at_call 18; refine HSD.out.mono ?_; rintro e w5 ⟨rfl, F6, hP6⟩; have HP6 := Lib.hid hP6; clear hP6)
  refine Meets.norm ?_
  refine PlMI.mk _ _ _ _ _ _ _ _ _ _ _ _ _ _ _ _ _ _ _ _ _ _ _ _ _ _ _ _ _ _ _ _ _ _ _ _ _ _ _ _ _ _ _ _ _ _ _ _ _ _ _ _ _ _ _ _ _ _ _ _ _ _ _ _ _ _ _ _ _ _ _ _ _ _ _ _ _ _ _ _ _ _ _ _ _ _ _ _ _ _ _ _ _ _ _ _ _ _ _ _ _ _ _ _ _ _ _ _ _ _ _ _ _ _ _ _ _ _ _ _ _ _ _ _ _ _ _ _ _ _ _ _ _ _ _ _ _ _ _ _ _ _ _ _ _ _ _ _ _ _ _ _ _ _ _ _ _ _ _ _ _ _ _ _ _ _ _ _ _ _ _ _ _ _ _ _ _ _ _ _ _ _ _ _ _ _ _ _ _ _ _ _ _ _ _ _ _ _ _ _ _ _ _ _ _ _ _ _ _ _ _ _ _ _ _ _ _ _ _ _ _ _ _ _ _ _ _ _ _ _ _ _ _ _ _ _ _ _ _ _ _ _ _ _ _ _ _ ?_
  exact ⟨made, ⟨s.l, none, s.lost⟩, F6, sd, false, rfl, rfl, rfl, hl0, hm0, by omega, by show s.lost + (s.l.length : Int) ≤ _; omega, sideIs_heal _ _ _, hsd, HP6.out⟩
end Go.Proofs.Ytepmnkelfaiapaa
