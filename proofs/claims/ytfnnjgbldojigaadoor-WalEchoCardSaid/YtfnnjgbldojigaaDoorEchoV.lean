/- WalEcho's last region: whatever order is picked. -/
import Derived.Test.YtfnnjgbldojigaaDoorEchoU
set_option linter.unusedVariables false
set_option linter.unusedSimpArgs false
namespace Go.Proofs.YtfnnjgbldojigaaDoor
open Go.RowKit Go.Proofs.YtfnnjgbldojigaaDoorW.PrintWords Go.Proofs.Mine Go.Proofs.Mine.Crc

abbrev LB (b22 b23 b27 b28 b29 b30 b31 b32 b33 b34 : Bool) : Array Bool := #[true, true, true, true, true, true, true, true, true, true, true, true, true, true, true, true, true, true, true, true, true, true, b22, b23, true, true, true, b27, b28, b29, b30, b31, b32, b33, b34]
set_option maxRecDepth 100000 in
set_option maxHeartbeats 2000000 in
theorem echo_tail {w w31 : World} {bt bl cv i : Nat} {s : TS} {F : Nat → Prop} {Av : Option Addr} {hs : List Hd} {rs2 : List (List UInt8)} {a0 : Act} {ops : Array Oper} {Q : Exit → Act → World → Prop} {ts22 ts32 : Array TypeId} {listed : Array Bool} (E : EEnv w w31 bt bl s F Av hs i rs2) (h0 : ESt w31 bl Av cv hs i rs2 0 0 a0 w31)
    {o20 : Oper} (g20 : ops[20]? = some o20) (d20 : o20.dst = some 119)
    {o22 : Oper} (g22 : ops[22]? = some o22) (p22 : o22.op = .call { callee := .value (.func 21), args := #[.tmp 120], argTypes := ts22 }) (d22 : o22.dst = some 121) (u22 : o22.guard = some (20, true))
    {o23 : Oper} (g23 : ops[23]? = some o23) (p23 : o23.op = .buildSlice 22 0 #[]) (d23 : o23.dst = some 122) (u23 : o23.guard = some (20, true))
    {o27 : Oper} (g27 : ops[27]? = some o27) (p27 : o27.op = .call { callee := .builtin .append, args := #[.tmp 122, .tmp 125], argTypes := #[22, 22] }) (d27 : o27.dst = some 126) (u27 : o27.guard = some (20, true))
    {o28 : Oper} (g28 : ops[28]? = some o28) (p28 : o28.op = .buildSlice 32 4 #[(0, .const (.int .u8 109)), (1, .const (.int .u8 111)), (2, .const (.int .u8 114)), (3, .const (.int .u8 101))]) (d28 : o28.dst = some 127) (u28 : o28.guard = some (20, true))
    {o29 : Oper} (g29 : ops[29]? = some o29) (p29 : o29.op = .convert 32 32 (.tmp 127)) (d29 : o29.dst = some 128) (u29 : o29.guard = some (20, true))
    {o30 : Oper} (g30 : ops[30]? = some o30) (p30 : o30.op = .buildSlice 22 1 #[(0, .tmp 128)]) (d30 : o30.dst = some 129) (u30 : o30.guard = some (20, true))
    {o31 : Oper} (g31 : ops[31]? = some o31) (p31 : o31.op = .call { callee := .builtin .append, args := #[.tmp 126, .tmp 129], argTypes := #[22, 22] }) (d31 : o31.dst = some 130) (u31 : o31.guard = some (20, true))
    {o32 : Oper} (g32 : ops[32]? = some o32) (p32 : o32.op = .call { callee := .value (.func 20), args := #[.tmp 121, .tmp 130], argTypes := ts32 }) (d32 : o32.dst = some 131) (u32 : o32.guard = some (20, true))
    {o33 : Oper} (g33 : ops[33]? = some o33) (p33 : o33.op = .pick (.tmp 119) (.tmp 131) (.const (.bool false))) (d33 : o33.dst = some 132) (u33 : o33.guard = none)
    {o34 : Oper} (g34 : ops[34]? = some o34) (p34 : o34.op = .assign (.tmp 132)) (d34 : o34.dst = some 4) (u34 : o34.guard = none)
    (r0000000000 : Region.ready .any ops (LB false false false false false false false false false false) = [22, 23, 28])
    (r0001000000 : Region.ready .any ops (LB false false false true false false false false false false) = [22, 23, 29])
    (r0100000000 : Region.ready .any ops (LB false true false false false false false false false false) = [22, 28])
    (r1000000000 : Region.ready .any ops (LB true false false false false false false false false false) = [23, 28])
    (r0001100000 : Region.ready .any ops (LB false false false true true false false false false false) = [22, 23, 30])
    (r0101000000 : Region.ready .any ops (LB false true false true false false false false false false) = [22, 29])
    (r1001000000 : Region.ready .any ops (LB true false false true false false false false false false) = [23, 29])
    (r1100000000 : Region.ready .any ops (LB true true false false false false false false false false) = [27, 28])
    (r0001110000 : Region.ready .any ops (LB false false false true true true false false false false) = [22, 23])
    (r0101100000 : Region.ready .any ops (LB false true false true true false false false false false) = [22, 30])
    (r1001100000 : Region.ready .any ops (LB true false false true true false false false false false) = [23, 30])
    (r1101000000 : Region.ready .any ops (LB true true false true false false false false false false) = [27, 29])
    (r1110000000 : Region.ready .any ops (LB true true true false false false false false false false) = [28])
    (r0101110000 : Region.ready .any ops (LB false true false true true true false false false false) = [22])
    (r1001110000 : Region.ready .any ops (LB true false false true true true false false false false) = [23])
    (r1101100000 : Region.ready .any ops (LB true true false true true false false false false false) = [27, 30])
    (r1111000000 : Region.ready .any ops (LB true true true true false false false false false false) = [29])
    (r1101110000 : Region.ready .any ops (LB true true false true true true false false false false) = [27])
    (r1111100000 : Region.ready .any ops (LB true true true true true false false false false false) = [30])
    (r1111110000 : Region.ready .any ops (LB true true true true true true false false false false) = [31])
    (r1111111000 : Region.ready .any ops (LB true true true true true true true false false false) = [32])
    (r1111111100 : Region.ready .any ops (LB true true true true true true true true false false) = [33])
    (r1111111110 : Region.ready .any ops (LB true true true true true true true true true false) = [34])
    (r1111111111 : Region.ready .any ops (LB true true true true true true true true true true) = [])
    (hl : listed = LB false false false false false false false false false false) (hend : ∀ tm w', tm.getD 4 undef = .bool true → Below w31.heap.size w31 w' → Q .normal ⟨tm, []⟩ w') : wpAnyH Tryd.prog .any ops Q (fun _ => True) 10 listed a0 w31 := by
  subst hl
  have e34 : ∀ tm w', tm.getD 4 undef = .bool true → Below w31.heap.size w31 w' → wpAnyH Tryd.prog .any ops Q (fun _ => True) 0 (LB true true true true true true true true true true) ⟨tm, []⟩ w' := fun tm w' h1 h2 => wpAnyH_done r1111111111 (hend tm w' h1 h2) 0
  have e33 : ∀ a w, EBase w31 bl Av cv i a w → a.tmps.getD 132 undef = .bool true → wpAnyH Tryd.prog .any ops Q (fun _ => True) 1 (LB true true true true true true true true true false) a w := fun a w hb ht => wpAnyH_ready r1111111110 (by simp) (AllReadyH.cons g34 (fun K hK => by rw [if_pos (show Region.wanted o34 _ = true from by unfold Region.wanted; rw [u34])]; exact st34 hb ht p34 d34 (fun tm w' h1 h2 => hK.out _ _ trivial (fun _ => e34 tm w' h1 h2))) AllReadyH.nil)
  have e32 : ∀ a w, EBase w31 bl Av cv i a w → a.tmps.getD 131 undef = .bool true → wpAnyH Tryd.prog .any ops Q (fun _ => True) 2 (LB true true true true true true true true false false) a w := fun a w hb ht => wpAnyH_ready r1111111100 (by simp) (AllReadyH.cons g33 (fun K hK => by rw [if_pos (show Region.wanted o33 _ = true from by unfold Region.wanted; rw [u33])]; exact st33 hb ht p33 d33 (fun a' w' h1 h2 => hK.out _ _ trivial (fun _ => e33 a' w' h1 h2))) AllReadyH.nil)
  have e31 : ∀ a w, EEnd w31 bl Av cv hs i rs2 a w → wpAnyH Tryd.prog .any ops Q (fun _ => True) 3 (LB true true true true true true true false false false) a w := fun a w he => by
    have hb := he.base
    exact wpAnyH_ready r1111111000 (by simp) (AllReadyH.cons g32 (fun K hK => by rw [if_pos (wanted_yes g20 d20 hb.t119 (by rw [hb.sz]; decide) u32)]; exact st32 E he p32 d32 (fun a' w' h1 h2 => hK.out _ _ trivial (fun _ => e32 a' w' h1 h2))) AllReadyH.nil)
  have i43 : ∀ a w, ESt w31 bl Av cv hs i rs2 4 3 a w → wpAnyH Tryd.prog .any ops Q (fun _ => True) 4 (LB true true true true true true false false false false) a w := fun a w h => by
    have hb := h.base
    exact wpAnyH_ready r1111110000 (by simp) (AllReadyH.cons g31 (fun K hK => by rw [if_pos (wanted_yes g20 d20 hb.t119 (by rw [hb.sz]; decide) u31)]; exact st31 E h p31 d31 (fun a' w' h1 => hK.out _ _ trivial (fun _ => e31 a' w' h1))) AllReadyH.nil)
  have i42 : ∀ a w, ESt w31 bl Av cv hs i rs2 4 2 a w → wpAnyH Tryd.prog .any ops Q (fun _ => True) 5 (LB true true true true true false false false false false) a w := fun a w h => by
    have hb := h.base
    exact wpAnyH_ready r1111100000 (by simp) (AllReadyH.cons g30 (fun K hK => by rw [if_pos (wanted_yes g20 d20 hb.t119 (by rw [hb.sz]; decide) u30)]; exact st30 h p30 d30 (fun a' w' h1 => hK.out _ _ trivial (fun _ => i43 a' w' h1))) AllReadyH.nil)
  have i41 : ∀ a w, ESt w31 bl Av cv hs i rs2 4 1 a w → wpAnyH Tryd.prog .any ops Q (fun _ => True) 6 (LB true true true true false false false false false false) a w := fun a w h => by
    have hb := h.base
    exact wpAnyH_ready r1111000000 (by simp) (AllReadyH.cons g29 (fun K hK => by rw [if_pos (wanted_yes g20 d20 hb.t119 (by rw [hb.sz]; decide) u29)]; exact st29 h p29 d29 (fun a' w' h1 => hK.out _ _ trivial (fun _ => i42 a' w' h1))) AllReadyH.nil)
  have i40 : ∀ a w, ESt w31 bl Av cv hs i rs2 4 0 a w → wpAnyH Tryd.prog .any ops Q (fun _ => True) 7 (LB true true true false false false false false false false) a w := fun a w h => by
    have hb := h.base
    exact wpAnyH_ready r1110000000 (by simp) (AllReadyH.cons g28 (fun K hK => by rw [if_pos (wanted_yes g20 d20 hb.t119 (by rw [hb.sz]; decide) u28)]; exact st28 h p28 d28 (fun a' w' h1 => hK.out _ _ trivial (fun _ => i41 a' w' h1))) AllReadyH.nil)
  have i33 : ∀ a w, ESt w31 bl Av cv hs i rs2 3 3 a w → wpAnyH Tryd.prog .any ops Q (fun _ => True) 5 (LB true true false true true true false false false false) a w := fun a w h => by
    have hb := h.base
    exact wpAnyH_ready r1101110000 (by simp) (AllReadyH.cons g27 (fun K hK => by rw [if_pos (wanted_yes g20 d20 hb.t119 (by rw [hb.sz]; decide) u27)]; exact st27 E h p27 d27 (fun a' w' h1 => hK.out _ _ trivial (fun _ => i43 a' w' h1))) AllReadyH.nil)
  have i32 : ∀ a w, ESt w31 bl Av cv hs i rs2 3 2 a w → wpAnyH Tryd.prog .any ops Q (fun _ => True) 6 (LB true true false true true false false false false false) a w := fun a w h => by
    have hb := h.base
    exact wpAnyH_ready r1101100000 (by simp) (AllReadyH.cons g27 (fun K hK => by rw [if_pos (wanted_yes g20 d20 hb.t119 (by rw [hb.sz]; decide) u27)]; exact st27 E h p27 d27 (fun a' w' h1 => hK.out _ _ trivial (fun _ => i42 a' w' h1))) (AllReadyH.cons g30 (fun K hK => by rw [if_pos (wanted_yes g20 d20 hb.t119 (by rw [hb.sz]; decide) u30)]; exact st30 h p30 d30 (fun a' w' h1 => hK.out _ _ trivial (fun _ => i33 a' w' h1))) AllReadyH.nil))
  have i31 : ∀ a w, ESt w31 bl Av cv hs i rs2 3 1 a w → wpAnyH Tryd.prog .any ops Q (fun _ => True) 7 (LB true true false true false false false false false false) a w := fun a w h => by
    have hb := h.base
    exact wpAnyH_ready r1101000000 (by simp) (AllReadyH.cons g27 (fun K hK => by rw [if_pos (wanted_yes g20 d20 hb.t119 (by rw [hb.sz]; decide) u27)]; exact st27 E h p27 d27 (fun a' w' h1 => hK.out _ _ trivial (fun _ => i41 a' w' h1))) (AllReadyH.cons g29 (fun K hK => by rw [if_pos (wanted_yes g20 d20 hb.t119 (by rw [hb.sz]; decide) u29)]; exact st29 h p29 d29 (fun a' w' h1 => hK.out _ _ trivial (fun _ => i32 a' w' h1))) AllReadyH.nil))
  have i30 : ∀ a w, ESt w31 bl Av cv hs i rs2 3 0 a w → wpAnyH Tryd.prog .any ops Q (fun _ => True) 8 (LB true true false false false false false false false false) a w := fun a w h => by
    have hb := h.base
    exact wpAnyH_ready r1100000000 (by simp) (AllReadyH.cons g27 (fun K hK => by rw [if_pos (wanted_yes g20 d20 hb.t119 (by rw [hb.sz]; decide) u27)]; exact st27 E h p27 d27 (fun a' w' h1 => hK.out _ _ trivial (fun _ => i40 a' w' h1))) (AllReadyH.cons g28 (fun K hK => by rw [if_pos (wanted_yes g20 d20 hb.t119 (by rw [hb.sz]; decide) u28)]; exact st28 h p28 d28 (fun a' w' h1 => hK.out _ _ trivial (fun _ => i31 a' w' h1))) AllReadyH.nil))
  have i23 : ∀ a w, ESt w31 bl Av cv hs i rs2 2 3 a w → wpAnyH Tryd.prog .any ops Q (fun _ => True) 6 (LB false true false true true true false false false false) a w := fun a w h => by
    have hb := h.base
    exact wpAnyH_ready r0101110000 (by simp) (AllReadyH.cons g22 (fun K hK => by rw [if_pos (wanted_yes g20 d20 hb.t119 (by rw [hb.sz]; decide) u22)]; exact st22 E h (by decide) p22 d22 (fun a' w' h1 => hK.out _ _ trivial (fun _ => i33 a' w' h1))) AllReadyH.nil)
  have i22 : ∀ a w, ESt w31 bl Av cv hs i rs2 2 2 a w → wpAnyH Tryd.prog .any ops Q (fun _ => True) 7 (LB false true false true true false false false false false) a w := fun a w h => by
    have hb := h.base
    exact wpAnyH_ready r0101100000 (by simp) (AllReadyH.cons g22 (fun K hK => by rw [if_pos (wanted_yes g20 d20 hb.t119 (by rw [hb.sz]; decide) u22)]; exact st22 E h (by decide) p22 d22 (fun a' w' h1 => hK.out _ _ trivial (fun _ => i32 a' w' h1))) (AllReadyH.cons g30 (fun K hK => by rw [if_pos (wanted_yes g20 d20 hb.t119 (by rw [hb.sz]; decide) u30)]; exact st30 h p30 d30 (fun a' w' h1 => hK.out _ _ trivial (fun _ => i23 a' w' h1))) AllReadyH.nil))
  have i21 : ∀ a w, ESt w31 bl Av cv hs i rs2 2 1 a w → wpAnyH Tryd.prog .any ops Q (fun _ => True) 8 (LB false true false true false false false false false false) a w := fun a w h => by
    have hb := h.base
    exact wpAnyH_ready r0101000000 (by simp) (AllReadyH.cons g22 (fun K hK => by rw [if_pos (wanted_yes g20 d20 hb.t119 (by rw [hb.sz]; decide) u22)]; exact st22 E h (by decide) p22 d22 (fun a' w' h1 => hK.out _ _ trivial (fun _ => i31 a' w' h1))) (AllReadyH.cons g29 (fun K hK => by rw [if_pos (wanted_yes g20 d20 hb.t119 (by rw [hb.sz]; decide) u29)]; exact st29 h p29 d29 (fun a' w' h1 => hK.out _ _ trivial (fun _ => i22 a' w' h1))) AllReadyH.nil))
  have i20 : ∀ a w, ESt w31 bl Av cv hs i rs2 2 0 a w → wpAnyH Tryd.prog .any ops Q (fun _ => True) 9 (LB false true false false false false false false false false) a w := fun a w h => by
    have hb := h.base
    exact wpAnyH_ready r0100000000 (by simp) (AllReadyH.cons g22 (fun K hK => by rw [if_pos (wanted_yes g20 d20 hb.t119 (by rw [hb.sz]; decide) u22)]; exact st22 E h (by decide) p22 d22 (fun a' w' h1 => hK.out _ _ trivial (fun _ => i30 a' w' h1))) (AllReadyH.cons g28 (fun K hK => by rw [if_pos (wanted_yes g20 d20 hb.t119 (by rw [hb.sz]; decide) u28)]; exact st28 h p28 d28 (fun a' w' h1 => hK.out _ _ trivial (fun _ => i21 a' w' h1))) AllReadyH.nil))
  have i13 : ∀ a w, ESt w31 bl Av cv hs i rs2 1 3 a w → wpAnyH Tryd.prog .any ops Q (fun _ => True) 6 (LB true false false true true true false false false false) a w := fun a w h => by
    have hb := h.base
    exact wpAnyH_ready r1001110000 (by simp) (AllReadyH.cons g23 (fun K hK => by rw [if_pos (wanted_yes g20 d20 hb.t119 (by rw [hb.sz]; decide) u23)]; exact st23 h (by decide) p23 d23 (fun a' w' h1 => hK.out _ _ trivial (fun _ => i33 a' w' h1))) AllReadyH.nil)
  have i12 : ∀ a w, ESt w31 bl Av cv hs i rs2 1 2 a w → wpAnyH Tryd.prog .any ops Q (fun _ => True) 7 (LB true false false true true false false false false false) a w := fun a w h => by
    have hb := h.base
    exact wpAnyH_ready r1001100000 (by simp) (AllReadyH.cons g23 (fun K hK => by rw [if_pos (wanted_yes g20 d20 hb.t119 (by rw [hb.sz]; decide) u23)]; exact st23 h (by decide) p23 d23 (fun a' w' h1 => hK.out _ _ trivial (fun _ => i32 a' w' h1))) (AllReadyH.cons g30 (fun K hK => by rw [if_pos (wanted_yes g20 d20 hb.t119 (by rw [hb.sz]; decide) u30)]; exact st30 h p30 d30 (fun a' w' h1 => hK.out _ _ trivial (fun _ => i13 a' w' h1))) AllReadyH.nil))
  have i11 : ∀ a w, ESt w31 bl Av cv hs i rs2 1 1 a w → wpAnyH Tryd.prog .any ops Q (fun _ => True) 8 (LB true false false true false false false false false false) a w := fun a w h => by
    have hb := h.base
    exact wpAnyH_ready r1001000000 (by simp) (AllReadyH.cons g23 (fun K hK => by rw [if_pos (wanted_yes g20 d20 hb.t119 (by rw [hb.sz]; decide) u23)]; exact st23 h (by decide) p23 d23 (fun a' w' h1 => hK.out _ _ trivial (fun _ => i31 a' w' h1))) (AllReadyH.cons g29 (fun K hK => by rw [if_pos (wanted_yes g20 d20 hb.t119 (by rw [hb.sz]; decide) u29)]; exact st29 h p29 d29 (fun a' w' h1 => hK.out _ _ trivial (fun _ => i12 a' w' h1))) AllReadyH.nil))
  have i10 : ∀ a w, ESt w31 bl Av cv hs i rs2 1 0 a w → wpAnyH Tryd.prog .any ops Q (fun _ => True) 9 (LB true false false false false false false false false false) a w := fun a w h => by
    have hb := h.base
    exact wpAnyH_ready r1000000000 (by simp) (AllReadyH.cons g23 (fun K hK => by rw [if_pos (wanted_yes g20 d20 hb.t119 (by rw [hb.sz]; decide) u23)]; exact st23 h (by decide) p23 d23 (fun a' w' h1 => hK.out _ _ trivial (fun _ => i30 a' w' h1))) (AllReadyH.cons g28 (fun K hK => by rw [if_pos (wanted_yes g20 d20 hb.t119 (by rw [hb.sz]; decide) u28)]; exact st28 h p28 d28 (fun a' w' h1 => hK.out _ _ trivial (fun _ => i11 a' w' h1))) AllReadyH.nil))
  have i03 : ∀ a w, ESt w31 bl Av cv hs i rs2 0 3 a w → wpAnyH Tryd.prog .any ops Q (fun _ => True) 7 (LB false false false true true true false false false false) a w := fun a w h => by
    have hb := h.base
    exact wpAnyH_ready r0001110000 (by simp) (AllReadyH.cons g22 (fun K hK => by rw [if_pos (wanted_yes g20 d20 hb.t119 (by rw [hb.sz]; decide) u22)]; exact st22 E h (by decide) p22 d22 (fun a' w' h1 => hK.out _ _ trivial (fun _ => i13 a' w' h1))) (AllReadyH.cons g23 (fun K hK => by rw [if_pos (wanted_yes g20 d20 hb.t119 (by rw [hb.sz]; decide) u23)]; exact st23 h (by decide) p23 d23 (fun a' w' h1 => hK.out _ _ trivial (fun _ => i23 a' w' h1))) AllReadyH.nil))
  have i02 : ∀ a w, ESt w31 bl Av cv hs i rs2 0 2 a w → wpAnyH Tryd.prog .any ops Q (fun _ => True) 8 (LB false false false true true false false false false false) a w := fun a w h => by
    have hb := h.base
    exact wpAnyH_ready r0001100000 (by simp) (AllReadyH.cons g22 (fun K hK => by rw [if_pos (wanted_yes g20 d20 hb.t119 (by rw [hb.sz]; decide) u22)]; exact st22 E h (by decide) p22 d22 (fun a' w' h1 => hK.out _ _ trivial (fun _ => i12 a' w' h1))) (AllReadyH.cons g23 (fun K hK => by rw [if_pos (wanted_yes g20 d20 hb.t119 (by rw [hb.sz]; decide) u23)]; exact st23 h (by decide) p23 d23 (fun a' w' h1 => hK.out _ _ trivial (fun _ => i22 a' w' h1))) (AllReadyH.cons g30 (fun K hK => by rw [if_pos (wanted_yes g20 d20 hb.t119 (by rw [hb.sz]; decide) u30)]; exact st30 h p30 d30 (fun a' w' h1 => hK.out _ _ trivial (fun _ => i03 a' w' h1))) AllReadyH.nil)))
  have i01 : ∀ a w, ESt w31 bl Av cv hs i rs2 0 1 a w → wpAnyH Tryd.prog .any ops Q (fun _ => True) 9 (LB false false false true false false false false false false) a w := fun a w h => by
    have hb := h.base
    exact wpAnyH_ready r0001000000 (by simp) (AllReadyH.cons g22 (fun K hK => by rw [if_pos (wanted_yes g20 d20 hb.t119 (by rw [hb.sz]; decide) u22)]; exact st22 E h (by decide) p22 d22 (fun a' w' h1 => hK.out _ _ trivial (fun _ => i11 a' w' h1))) (AllReadyH.cons g23 (fun K hK => by rw [if_pos (wanted_yes g20 d20 hb.t119 (by rw [hb.sz]; decide) u23)]; exact st23 h (by decide) p23 d23 (fun a' w' h1 => hK.out _ _ trivial (fun _ => i21 a' w' h1))) (AllReadyH.cons g29 (fun K hK => by rw [if_pos (wanted_yes g20 d20 hb.t119 (by rw [hb.sz]; decide) u29)]; exact st29 h p29 d29 (fun a' w' h1 => hK.out _ _ trivial (fun _ => i02 a' w' h1))) AllReadyH.nil)))
  have i00 : ∀ a w, ESt w31 bl Av cv hs i rs2 0 0 a w → wpAnyH Tryd.prog .any ops Q (fun _ => True) 10 (LB false false false false false false false false false false) a w := fun a w h => by
    have hb := h.base
    exact wpAnyH_ready r0000000000 (by simp) (AllReadyH.cons g22 (fun K hK => by rw [if_pos (wanted_yes g20 d20 hb.t119 (by rw [hb.sz]; decide) u22)]; exact st22 E h (by decide) p22 d22 (fun a' w' h1 => hK.out _ _ trivial (fun _ => i10 a' w' h1))) (AllReadyH.cons g23 (fun K hK => by rw [if_pos (wanted_yes g20 d20 hb.t119 (by rw [hb.sz]; decide) u23)]; exact st23 h (by decide) p23 d23 (fun a' w' h1 => hK.out _ _ trivial (fun _ => i20 a' w' h1))) (AllReadyH.cons g28 (fun K hK => by rw [if_pos (wanted_yes g20 d20 hb.t119 (by rw [hb.sz]; decide) u28)]; exact st28 h p28 d28 (fun a' w' h1 => hK.out _ _ trivial (fun _ => i01 a' w' h1))) AllReadyH.nil)))
  exact i00 a0 w31 h0
end Go.Proofs.YtfnnjgbldojigaaDoor
