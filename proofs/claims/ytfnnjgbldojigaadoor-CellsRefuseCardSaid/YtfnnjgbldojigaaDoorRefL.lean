/- CellsRefuse. -/
import Derived.Test.YtfnnjgbldojigaaDoorOwnL
set_option linter.unusedVariables false
set_option linter.unusedSimpArgs false
namespace Go.Proofs.YtfnnjgbldojigaaDoor
open Go.RowKit Go.Shelf Go.Proofs.YtfnnjgbldojigaaDoorW.PrintWords Go.Proofs.Mine Go.Proofs.Mine.Crc

def zz (n : Nat) : List UInt8 := List.replicate n 0
theorem zz_len (n : Nat) : (zz n).length = n := List.length_replicate
def zz_C (n : Nat) : Array Value := (encs b8 (zz n)).toArray
theorem made_zz (n : Nat) : madeCells #[Value.int .u8 0] n = zz_C n := by
  apply Array.ext'
  show _ = (encs b8 (zz n)).toArray.toList
  rw [List.toList_toArray]
  apply List.ext_getElem
  · simp [encs, zz, madeCells]
  · intro i h1 h2
    simp [encs, zz, madeCells, Nat.mod_one, b8]
theorem mk_zz (x : Int) (n : Nat) (hx : x = (n : Int)) (hn : n ≤ 1000000) : ∀ W : World, (Instr.makeSlice 32 (.int .i64 x) (.int .i64 x)).run Tryd.prog W = .ok (.slice (some ⟨W.heap.size, 0, none⟩) n n) (W.alloc (.cells (zz_C n) 5)) := by
  subst hx
  rw [← made_zz]
  exact print_make (P := Tryd.prog) 32 5 .u8 1 Tryd.underlying32 Tryd.info5 (by decide) n (by omega)
theorem zz_reads (W : World) (n : Nat) (hn : n ≤ 1000000) : Bytes (W.alloc (.cells (zz_C n) 5)) (some ⟨W.heap.size, 0, none⟩) (zz n) := lit_reads8' W 5 (0, 0) (zz n) _ _ rfl rfl (by rw [zz_len]; omega)
theorem refuse_num {n : Int} {x : List UInt8} (h : n < 0 ∨ 8 ≤ n) : WrongIs [((3 : Int), ([97] : List UInt8)), (n, x)] 1 ∧ WrongIs [(n, x), ((3 : Int), ([97] : List UInt8))] 1 := by
  refine ⟨.inr ⟨by decide, 1, ?_, fun j hj => ?_⟩, .inr ⟨by decide, 0, ?_, fun j hj => absurd hj (by omega)⟩⟩
  · show (if n < 0 ∨ 8 ≤ n ∨ _ then (1 : Int) else _) = 1
    rw [if_pos (by rcases h with h | h; exact .inl h; exact .inr (.inl h))]
  · obtain rfl : j = 0 := by omega
    rfl
  · show (if n < 0 ∨ 8 ≤ n ∨ _ then (1 : Int) else _) = 1
    rw [if_pos (by rcases h with h | h; exact .inl h; exact .inr (.inl h))]
theorem refuse_long {x : List UInt8} (h : 12000 < x.length) : WrongIs [((3 : Int), ([97] : List UInt8)), ((4 : Int), x)] 5 ∧ WrongIs [((4 : Int), x), ((3 : Int), ([97] : List UInt8))] 5 := by
  refine ⟨.inr ⟨by decide, 1, ?_, fun j hj => ?_⟩, .inr ⟨by decide, 0, ?_, fun j hj => absurd hj (by omega)⟩⟩
  · show (if (4 : Int) < 0 ∨ 8 ≤ (4 : Int) ∨ (([((3 : Int), ([97] : List UInt8))] : List Ce).any fun z => z.1 == 4) = true then (1 : Int) else if 12000 < x.length then 5 else 0) = 5
    rw [if_neg (by decide), if_pos h]
  · obtain rfl : j = 0 := by omega
    rfl
  · show (if (4 : Int) < 0 ∨ 8 ≤ (4 : Int) ∨ false = true then (1 : Int) else if 12000 < x.length then 5 else 0) = 5
    rw [if_neg (by decide), if_pos h]
theorem refuse_twice : WrongIs [((3 : Int), ([97] : List UInt8)), ((3 : Int), ([98] : List UInt8))] 1 ∧ WrongIs [((3 : Int), ([98] : List UInt8)), ((3 : Int), ([97] : List UInt8))] 1 :=
  ⟨.inr ⟨by decide, 1, rfl, fun j hj => by obtain rfl : j = 0 := by omega
                                           rfl⟩, .inr ⟨by decide, 1, rfl, fun j hj => by obtain rfl : j = 0 := by omega
                                                                                         rfl⟩⟩
theorem Kd_two {w : World} {g t : Nat} {fr : Nat × Nat} {n n' : Int} {x x' : List UInt8} {k k' : Nat} {B B' : Option Addr} {c c' : Nat} (hb : w.heap[g]? = some (.cells #[.int .i64 n, .slice B k c, .int .i64 n', .slice B' k' c'] t fr)) (hk : x.length = k) (hk' : x'.length = k') (hx : Bytes w B x) (hc : k ≤ c) (hx' : Bytes w B' x') (hc' : k' ≤ c') : ceK.C w (some ⟨g, 0, none⟩) 2 [(n, x), (n', x')] := by
  subst hk
  subst hk'
  exact (ceRow_two (F := fun _ => False) hb (fun h => h) hx hc (fun _ _ _ h => h) hx' hc' (fun _ _ _ h => h)).now
theorem laid4 (w : World) (o0 o1 o2 o3 : Obj) : ∃ (W : World) (g1 g2 g3 : Nat), W = (((w.alloc o0).alloc o1).alloc o2).alloc o3 ∧ g1 = w.heap.size + 1 ∧ g2 = w.heap.size + 1 + 1 ∧ g3 = w.heap.size + 1 + 1 + 1 ∧ W.heap[w.heap.size]? = some o0 ∧ W.heap[g1]? = some o1 ∧ W.heap[g2]? = some o2 ∧ W.heap[g3]? = some o3 ∧ Below w.heap.size w W := by
  have e1 : (w.alloc o0).heap.size = w.heap.size + 1 := by simp
  have e2 : ((w.alloc o0).alloc o1).heap.size = w.heap.size + 1 + 1 := by simp
  have e3 : (((w.alloc o0).alloc o1).alloc o2).heap.size = w.heap.size + 1 + 1 + 1 := by simp
  have f0 := heap_alloc_new w o0
  have f1 := heap_alloc_new (w.alloc o0) o1
  have f2 := heap_alloc_new ((w.alloc o0).alloc o1) o2
  have f3 := heap_alloc_new (((w.alloc o0).alloc o1).alloc o2) o3
  rw [e1] at f1
  rw [e2] at f2
  rw [e3] at f3
  refine ⟨_, _, _, _, rfl, rfl, rfl, rfl, ?_, ?_, ?_, f3, ((((Below.refl _ w).alloc (Nat.le_refl _) o0).alloc (by rw [e1]; omega) o1).alloc (by rw [e2]; omega) o2).alloc (by rw [e3]; omega) o3⟩
  · rw [Below.heap_alloc _ _ _ (by rw [e3]; omega), Below.heap_alloc _ _ _ (by rw [e2]; omega), Below.heap_alloc _ _ _ (by rw [e1]; omega)]; exact f0
  · rw [Below.heap_alloc _ _ _ (by rw [e3]; omega), Below.heap_alloc _ _ _ (by rw [e2]; omega)]; exact f1
  · rw [Below.heap_alloc _ _ _ (by rw [e3]; omega)]; exact f2
/-- Cells opened anew, beside a good cell and a bad one. -/
structure RfS (w0 : World) (bt bl bc : Nat) (o2 : Int) (F2 : Nat → Prop) (g1 g3 ga : Nat) (n1 : Int) (B1 : Option Addr) (k1 c1 : Nat) (x1 : List UInt8) (w : World) : Prop where
  win : CelIn w0 bt bl bc (gs 400000 [] 0 o2) (gl []) noM w F2
  one : w.heap[g1]? = some (.cells #[.int .i64 3, .slice (some ⟨ga, 0, none⟩) 1 1] 61 (0, 0))
  two : w.heap[g3]? = some (.cells #[.int .i64 n1, .slice B1 k1 c1] 61 (0, 0))
  oneB : Bytes w (some ⟨ga, 0, none⟩) [97]
  twoB : Bytes w B1 x1
theorem RfS.to {w0 w w1 : World} {bt bl bc g1 g3 ga k1 c1 : Nat} {o2 n1 : Int} {F2 : Nat → Prop} {B1 : Option Addr} {x1 : List UInt8} (h : RfS w0 bt bl bc o2 F2 g1 g3 ga n1 B1 k1 c1 x1 w) (hB : Below w.heap.size w w1) : RfS w0 bt bl bc o2 F2 g1 g3 ga n1 B1 k1 c1 x1 w1 :=
  ⟨h.win.to hB, blk_below h.one hB, blk_below h.two hB, h.oneB.below hB, h.twoB.below hB⟩
theorem RfS.setN {w0 w : World} {bt bl bc g1 g3 ga k1 c1 : Nat} {o2 n1 : Int} {F2 : Nat → Prop} {B1 : Option Addr} {x1 : List UInt8} (h : RfS w0 bt bl bc o2 F2 g1 g3 ga n1 B1 k1 c1 x1 w) (hf : ¬ F2 g3) (hb : w0.heap.size ≤ g3) (h1 : g1 ≠ g3) (h2 : ga ≠ g3) (hB : ∀ a, B1 = some a → a.block ≠ g3) (u : Int) : RfS w0 bt bl bc o2 F2 g1 g3 ga u B1 k1 c1 x1 (w.setCell ⟨g3, 0, none⟩ (.int .i64 u)) :=
  ⟨h.win.set hf hb 0 _, blk_far h.one h1 _, blk_set h.two 0 _, bytes_away h.oneB ((Keep.refl (fun k => k = g3) w).setCell ⟨g3, 0, none⟩ _ (.inl rfl)) (fun _ a ha e => by injection ha with ha; subst ha; exact h2 e), bytes_away h.twoB ((Keep.refl (fun k => k = g3) w).setCell ⟨g3, 0, none⟩ _ (.inl rfl)) (fun _ a ha e => hB a ha e)⟩
theorem RfS.setB {w0 w : World} {bt bl bc g1 g3 ga k1 c1 k2 c2 : Nat} {o2 n1 : Int} {F2 : Nat → Prop} {B1 B2 : Option Addr} {x1 x2 : List UInt8} (h : RfS w0 bt bl bc o2 F2 g1 g3 ga n1 B1 k1 c1 x1 w) (hf : ¬ F2 g3) (hb : w0.heap.size ≤ g3) (h1 : g1 ≠ g3) (h2 : ga ≠ g3) (hx : Bytes w B2 x2) (hB : ∀ a, B2 = some a → a.block ≠ g3) : RfS w0 bt bl bc o2 F2 g1 g3 ga n1 B2 k2 c2 x2 (w.setCell ⟨g3, 1, none⟩ (.slice B2 k2 c2)) :=
  ⟨h.win.set hf hb 1 _, blk_far h.one h1 _, blk_set h.two 1 _, bytes_away h.oneB ((Keep.refl (fun k => k = g3) w).setCell ⟨g3, 1, none⟩ _ (.inl rfl)) (fun _ a ha e => by injection ha with ha; subst ha; exact h2 e), bytes_away hx ((Keep.refl (fun k => k = g3) w).setCell ⟨g3, 1, none⟩ _ (.inl rfl)) (fun _ a ha e => hB a ha e)⟩
set_option maxRecDepth 100000 in
set_option maxHeartbeats 2000000 in
theorem ref_any (which by0 : Int) (w : World) (hg0 : Laid w) :
    Calls Tryd.prog 9 #[.int .i64 which, .int .i64 by0] w fun e w' => e = .returned (.bool true) ∧ Below w.heap.size w w' := by
  have HG := Lib.hid hg0
  have kc := fun (w : World) (C : Array Value) (n c : Nat) => Lib.run_convert_bytes_const (P := Tryd.prog) w 32 5 C n c Tryd.underlying32 Tryd.underlying5
  clear hg0
  obtain ⟨SA, hSA⟩ : ∃ z, z = strB [97] := ⟨_, rfl⟩
  have hz : (SA.toList == [97]) = true := by rw [hSA]; decide +kernel
  have HSA := Lib.hid hSA
  clear hSA

  go_enter Tryd.func9, Tryd.ntmps9
  go_wp2_with (first
      | (go_at_call 31; refine (known5_any w HG.out).mono ?_; rintro r w0 ⟨rfl, hB0⟩; have HB0 := Lib.hid hB0; have HG0 := Lib.hid (HG.out.below hB0); clear hB0)
      | (go_at_call 33; refine (within5_any by0 100 w2 (by decide) (by decide)).mono ?_; rintro r w2' ⟨rfl, rfl⟩
         obtain ⟨q, hq⟩ : ∃ q : Nat, by0 % 100 = (q : Int) := ⟨(by0 % 100).toNat, by omega⟩
         have hq9 : q < 100 := by omega
         rw [hq]
         clear hq)
      | (go_at_call 14; refine (new_ok 400000 w0 (by decide) (by decide)).mono ?_; rintro r w1 ⟨rfl, hw1⟩
         have HI := Lib.hid (wal_start HG0.out (Below.refl _ _) 400000 (by decide) (by decide) hw1)
         clear hw1)
      | (go_at_call 32; refine (copen_new w0 w1 _ _ HI.out).mono ?_
         rintro r w2 ⟨bl, bc, F2, o2, rfl, hI2, ho1, ho2, hF2, hK2⟩
         have HI2 := Lib.hid hI2
         clear hI2 hF2 hK2))
  have kc2 : ∀ (w : World) (C : Array Value) (n c g : Nat), g = w.heap.size → (convert 32 32 (.slice (some ⟨g, 0, none⟩) n c)).run Tryd.prog (w.alloc (.cells C 5)) = .ok (.slice (some ⟨g, 0, none⟩) n c) (w.alloc (.cells C 5 (C.size, C.size + 1))) := fun w C n c g h => by subst h; exact kc w C n c
  rw [kc2 _ _ 1 1 (w2.heap.size + 1 + 1) (by simp)]
  clear kc kc2
  go_wp2_with fail
  refine (within5_any which 4 _ (by decide) (by decide)).mono ?_
  rintro r w3' ⟨rfl, hw3⟩
  subst hw3
  obtain ⟨w4, g1, g2, g3, hw4, hg1, hg2, hg3, b0, b1, b2, b3, hB4⟩ := laid4 w2 (.cells #[.int .u8 97] 5 (1, 2)) (.cells #[.int .i64 3, .slice (some ⟨w2.heap.size, 0, none⟩) 1 1] 61) (.cells #[.int .u8 98] 5 (1, 2)) (.cells #[.int .i64 3, .slice (some ⟨w2.heap.size + 1 + 1, 0, none⟩) 1 1] 61)
  rw [← hw4, ← hg3]
  rw [← hg2] at b3 hw4 ⊢
  rw [← hg1]
  obtain ⟨ga, hga⟩ : ∃ ga, ga = w2.heap.size := ⟨_, rfl⟩
  rw [← hga] at b0 b1 ⊢
  have HR4 := Lib.hid (show RfS w0 w0.heap.size bl bc o2 F2 g1 g3 ga 3 (some ⟨g2, 0, none⟩) 1 1 [98] w4 from ⟨HI2.out.to hB4, b1, b3, bytes_at [97] b0 (show 1 ≤ 9223372036854775807 by decide), bytes_at [98] b2 (show 1 ≤ 9223372036854775807 by decide)⟩)
  have hsz := HI2.out.below.size
  have HLT := Lib.hid (fun k (hk : F2 k) => (HI2.out.lt k hk).2)
  have HGA := Lib.hid (show ¬ F2 ga from fun hf => by have := HLT.out _ hf; omega)
  have HGC := Lib.hid (show ¬ F2 g3 ∧ w0.heap.size ≤ g3 ∧ g1 ≠ g3 ∧ ga ≠ g3 ∧ g2 ≠ g3 from ⟨fun hf => by have := HLT.out _ hf; omega, by omega, by omega, by omega, by omega⟩)
  have q100 : w4.cell? ⟨g3, 0, none⟩ = some (.int .i64 3) := blk_cell b3 0
  have f100 : w4.frozen? ⟨g3, 0, none⟩ = false := blk_frozen b3 0
  have hg3l := blk_lt b3
  clear hw4 b0 b1 b2 b3 hB4 hg1 hg2 hg3 hga
  have hk4 : which % 4 = 0 ∨ which % 4 = 1 ∨ which % 4 = 2 ∨ which % 4 = 3 := by omega
  obtain ⟨kk, hkk⟩ : ∃ kk, kk = which % 4 := ⟨_, rfl⟩
  rw [← hkk] at hk4 ⊢
  clear hkk
  rcases hk4 with rfl | rfl | rfl | rfl
  · obtain ⟨w5, hw5⟩ : ∃ z, w4.setCell ⟨g3, 0, none⟩ (.int .i64 (7 + (1 + (q : Int)))) = z := ⟨_, rfl⟩
    have HR5 := Lib.hid (show RfS w0 w0.heap.size bl bc o2 F2 g1 g3 ga (7 + (1 + (q : Int))) (some ⟨g2, 0, none⟩) 1 1 [98] w5 from by rw [← hw5]; exact HR4.out.setN HGC.out.1 HGC.out.2.1 HGC.out.2.2.1 HGC.out.2.2.2.1 (fun a ha e => by injection ha with ha; subst ha; exact HGC.out.2.2.2.2 e) _)
    have HXL := Lib.hid (show ([98] : List UInt8).length = 1 from rfl)
    have HXC := Lib.hid (show 1 ≤ 1 from Nat.le_refl 1)
    have q90_5 : w5.cell? ⟨g1, 0, none⟩ = some (.int .i64 3) := blk_cell HR5.out.one 0
    have q91_5 : w5.cell? ⟨g1, 1, none⟩ = some (.slice (some ⟨ga, 0, none⟩) 1 1) := blk_cell HR5.out.one 1
    have q100_5 : w5.cell? ⟨g3, 0, none⟩ = some (.int .i64 (7 + (1 + (q : Int)))) := blk_cell HR5.out.two 0
    have q101_5 : w5.cell? ⟨g3, 1, none⟩ = some (.slice (some ⟨g2, 0, none⟩) 1 1) := blk_cell HR5.out.two 1
    have HXA5 := Lib.hid HR5.out.oneB
    have HXB5 := Lib.hid HR5.out.twoB
    have HI5 := Lib.hid HR5.out.win
    obtain ⟨hwr1, hwr2⟩ := (refuse_num (x := [98]) (show (7 + (1 + (q : Int))) < 0 ∨ 8 ≤ (7 + (1 + (q : Int))) from .inr (by omega)))
    have HWR1 := Lib.hid hwr1
    have HWR2 := Lib.hid hwr2
    clear hwr1 hwr2
    go_wp2_with (first
      | (go_at_call 36; refine (cel_get HI10.out 3).mono ?_
         rintro r w11 ⟨v11, rfl, hO11, hB11⟩
         rw [putM_self] at hO11
         obtain ⟨A11, c11, rfl⟩ := own_slice hO11
         have hcv : (convert 32 9 (.slice A11 1 c11)).run Tryd.prog w11 = .ok (.string SA) w11 := by rw [HSA.out]; exact conv_str (own_reads8 hO11).1
         have HB11 := Lib.hid (HB0.out.trans ((HI10.out.below.trans (hB11.mono HI10.out.below.size)).mono HB0.out.size))
         clear hO11 hB11)
      | (go_at_call 34
         refine (put_lit w9.heap.size 3 [97] (some ⟨ga, 0, none⟩) 1 1 w0 w9 _ bl bc o2 [] 0 noM F2 HI9.out (by omega) (by decide) (by decide) rfl (by decide) HXA9.out (by decide) (fun _ a ha hf => by injection ha with ha; subst ha; exact HGA.out hf) (by decide) (by simp [framesOf]) rfl).mono ?_
         rintro r w10 ⟨rfl, F10, hI10, _, _⟩
         have HI10 := Lib.hid hI10
         clear hI10)
      | (go_at_call 36; refine (cel_get HI8.out 3).mono ?_
         rintro r w9 ⟨v9, rfl, hO9, hB9⟩
         obtain ⟨A9, c9, rfl⟩ := own_slice (show Own w9 w8.heap.size v9 [] from hO9)
         have HI9 := Lib.hid (HI8.out.to hB9)
         have q90_9 := pw_cell_below hB9 q90_8
         have q91_9 := pw_cell_below hB9 q91_8
         have HXA9 := Lib.hid (HXA8.out.below hB9)
         clear hO9 hB9)
      | (go_at_call 35; refine (cel_all HI7.out).mono ?_
         rintro r w8 ⟨v8, rfl, hR8, hB8⟩
         rw [celL_none (m := noM) (fun _ => rfl)] at hR8
         obtain ⟨A8, c8, rfl⟩ := Kd.R_slice hR8
         have HI8 := Lib.hid (HI7.out.to hB8)
         have q90_8 := pw_cell_below hB8 q90_7
         have q91_8 := pw_cell_below hB8 q91_7
         have HXA8 := Lib.hid (HXA7.out.below hB8)
         clear hR8 hB8)
      | (go_at_call 34
         refine (put_bad _ 2 [((7 + (1 + (q : Int))), [98]), ((3 : Int), ([97] : List UInt8))] 1 bc (w6.alloc (.cells _ 61)) (HI6.out.lw.alloc _) (Kd_two (n := (7 + (1 + (q : Int)))) (x := [98]) (n' := 3) (x' := [97]) (heap_alloc_new w6 _) HXL.out rfl (HXB6.out.below ((Below.refl _ w6).alloc (Nat.le_refl _) _)) HXC.out (HXA6.out.below ((Below.refl _ w6).alloc (Nat.le_refl _) _)) (by decide)) (Nat.le_refl 2) HWR2.out (by decide)).mono ?_
         rintro r w7 ⟨rfl, hB⟩
         have hb := ((Below.refl _ w6).alloc (Nat.le_refl _) _).trans (hB.mono (by simp))
         have q90_7 := pw_cell_below hb q90_6
         have q91_7 := pw_cell_below hb q91_6
         have q100_7 := pw_cell_below hb q100_6
         have q101_7 := pw_cell_below hb q101_6
         have HXA7 := Lib.hid (HXA6.out.below hb)
         have HXB7 := Lib.hid (HXB6.out.below hb)
         have HI7 := Lib.hid (HI6.out.to hb)
         clear hB hb)
      | (go_at_call 34
         refine (put_bad _ 2 [((3 : Int), ([97] : List UInt8)), ((7 + (1 + (q : Int))), [98])] 1 bc (w5.alloc (.cells _ 61)) (HI5.out.lw.alloc _) (Kd_two (n := 3) (x := [97]) (n' := (7 + (1 + (q : Int)))) (x' := [98]) (heap_alloc_new w5 _) rfl HXL.out (HXA5.out.below ((Below.refl _ w5).alloc (Nat.le_refl _) _)) (by decide) (HXB5.out.below ((Below.refl _ w5).alloc (Nat.le_refl _) _)) HXC.out) (Nat.le_refl 2) HWR1.out (by decide)).mono ?_
         rintro r w6 ⟨rfl, hB⟩
         have hb := ((Below.refl _ w5).alloc (Nat.le_refl _) _).trans (hB.mono (by simp))
         have q90_6 := pw_cell_below hb q90_5
         have q91_6 := pw_cell_below hb q91_5
         have q100_6 := pw_cell_below hb q100_5
         have q101_6 := pw_cell_below hb q101_5
         have HXA6 := Lib.hid (HXA5.out.below hb)
         have HXB6 := Lib.hid (HXB5.out.below hb)
         have HI6 := Lib.hid (HI5.out.to hb)
         clear hB hb))
    go_ret
    exact ⟨rfl, HB11.out⟩
  · obtain ⟨w5, hw5⟩ : ∃ z, w4.setCell ⟨g3, 0, none⟩ (.int .i64 (-(1 + (q : Int)))) = z := ⟨_, rfl⟩
    have HR5 := Lib.hid (show RfS w0 w0.heap.size bl bc o2 F2 g1 g3 ga (-(1 + (q : Int))) (some ⟨g2, 0, none⟩) 1 1 [98] w5 from by rw [← hw5]; exact HR4.out.setN HGC.out.1 HGC.out.2.1 HGC.out.2.2.1 HGC.out.2.2.2.1 (fun a ha e => by injection ha with ha; subst ha; exact HGC.out.2.2.2.2 e) _)
    have HXL := Lib.hid (show ([98] : List UInt8).length = 1 from rfl)
    have HXC := Lib.hid (show 1 ≤ 1 from Nat.le_refl 1)
    have q90_5 : w5.cell? ⟨g1, 0, none⟩ = some (.int .i64 3) := blk_cell HR5.out.one 0
    have q91_5 : w5.cell? ⟨g1, 1, none⟩ = some (.slice (some ⟨ga, 0, none⟩) 1 1) := blk_cell HR5.out.one 1
    have q100_5 : w5.cell? ⟨g3, 0, none⟩ = some (.int .i64 (-(1 + (q : Int)))) := blk_cell HR5.out.two 0
    have q101_5 : w5.cell? ⟨g3, 1, none⟩ = some (.slice (some ⟨g2, 0, none⟩) 1 1) := blk_cell HR5.out.two 1
    have HXA5 := Lib.hid HR5.out.oneB
    have HXB5 := Lib.hid HR5.out.twoB
    have HI5 := Lib.hid HR5.out.win
    obtain ⟨hwr1, hwr2⟩ := (refuse_num (x := [98]) (show (-(1 + (q : Int))) < 0 ∨ 8 ≤ (-(1 + (q : Int))) from .inl (by omega)))
    have HWR1 := Lib.hid hwr1
    have HWR2 := Lib.hid hwr2
    clear hwr1 hwr2
    go_wp2_with (first
      | (go_at_call 36; refine (cel_get HI10.out 3).mono ?_
         rintro r w11 ⟨v11, rfl, hO11, hB11⟩
         rw [putM_self] at hO11
         obtain ⟨A11, c11, rfl⟩ := own_slice hO11
         have hcv : (convert 32 9 (.slice A11 1 c11)).run Tryd.prog w11 = .ok (.string SA) w11 := by rw [HSA.out]; exact conv_str (own_reads8 hO11).1
         have HB11 := Lib.hid (HB0.out.trans ((HI10.out.below.trans (hB11.mono HI10.out.below.size)).mono HB0.out.size))
         clear hO11 hB11)
      | (go_at_call 34
         refine (put_lit w9.heap.size 3 [97] (some ⟨ga, 0, none⟩) 1 1 w0 w9 _ bl bc o2 [] 0 noM F2 HI9.out (by omega) (by decide) (by decide) rfl (by decide) HXA9.out (by decide) (fun _ a ha hf => by injection ha with ha; subst ha; exact HGA.out hf) (by decide) (by simp [framesOf]) rfl).mono ?_
         rintro r w10 ⟨rfl, F10, hI10, _, _⟩
         have HI10 := Lib.hid hI10
         clear hI10)
      | (go_at_call 36; refine (cel_get HI8.out 3).mono ?_
         rintro r w9 ⟨v9, rfl, hO9, hB9⟩
         obtain ⟨A9, c9, rfl⟩ := own_slice (show Own w9 w8.heap.size v9 [] from hO9)
         have HI9 := Lib.hid (HI8.out.to hB9)
         have q90_9 := pw_cell_below hB9 q90_8
         have q91_9 := pw_cell_below hB9 q91_8
         have HXA9 := Lib.hid (HXA8.out.below hB9)
         clear hO9 hB9)
      | (go_at_call 35; refine (cel_all HI7.out).mono ?_
         rintro r w8 ⟨v8, rfl, hR8, hB8⟩
         rw [celL_none (m := noM) (fun _ => rfl)] at hR8
         obtain ⟨A8, c8, rfl⟩ := Kd.R_slice hR8
         have HI8 := Lib.hid (HI7.out.to hB8)
         have q90_8 := pw_cell_below hB8 q90_7
         have q91_8 := pw_cell_below hB8 q91_7
         have HXA8 := Lib.hid (HXA7.out.below hB8)
         clear hR8 hB8)
      | (go_at_call 34
         refine (put_bad _ 2 [((-(1 + (q : Int))), [98]), ((3 : Int), ([97] : List UInt8))] 1 bc (w6.alloc (.cells _ 61)) (HI6.out.lw.alloc _) (Kd_two (n := (-(1 + (q : Int)))) (x := [98]) (n' := 3) (x' := [97]) (heap_alloc_new w6 _) HXL.out rfl (HXB6.out.below ((Below.refl _ w6).alloc (Nat.le_refl _) _)) HXC.out (HXA6.out.below ((Below.refl _ w6).alloc (Nat.le_refl _) _)) (by decide)) (Nat.le_refl 2) HWR2.out (by decide)).mono ?_
         rintro r w7 ⟨rfl, hB⟩
         have hb := ((Below.refl _ w6).alloc (Nat.le_refl _) _).trans (hB.mono (by simp))
         have q90_7 := pw_cell_below hb q90_6
         have q91_7 := pw_cell_below hb q91_6
         have q100_7 := pw_cell_below hb q100_6
         have q101_7 := pw_cell_below hb q101_6
         have HXA7 := Lib.hid (HXA6.out.below hb)
         have HXB7 := Lib.hid (HXB6.out.below hb)
         have HI7 := Lib.hid (HI6.out.to hb)
         clear hB hb)
      | (go_at_call 34
         refine (put_bad _ 2 [((3 : Int), ([97] : List UInt8)), ((-(1 + (q : Int))), [98])] 1 bc (w5.alloc (.cells _ 61)) (HI5.out.lw.alloc _) (Kd_two (n := 3) (x := [97]) (n' := (-(1 + (q : Int)))) (x' := [98]) (heap_alloc_new w5 _) rfl HXL.out (HXA5.out.below ((Below.refl _ w5).alloc (Nat.le_refl _) _)) (by decide) (HXB5.out.below ((Below.refl _ w5).alloc (Nat.le_refl _) _)) HXC.out) (Nat.le_refl 2) HWR1.out (by decide)).mono ?_
         rintro r w6 ⟨rfl, hB⟩
         have hb := ((Below.refl _ w5).alloc (Nat.le_refl _) _).trans (hB.mono (by simp))
         have q90_6 := pw_cell_below hb q90_5
         have q91_6 := pw_cell_below hb q91_5
         have q100_6 := pw_cell_below hb q100_5
         have q101_6 := pw_cell_below hb q101_5
         have HXA6 := Lib.hid (HXA5.out.below hb)
         have HXB6 := Lib.hid (HXB5.out.below hb)
         have HI6 := Lib.hid (HI5.out.to hb)
         clear hB hb))
    go_ret
    exact ⟨rfl, HB11.out⟩
  · have hmk := mk_zz (12000 + (1 + (q : Int))) (12001 + q) (by omega) (by omega)
    have hwz : IntKind.i64.wrap (12000 + (1 + (q : Int))) = 12000 + (1 + (q : Int)) := IntWalk.i64_in _ (by omega)
    obtain ⟨nz, hnz⟩ : ∃ nz, nz = 12001 + q := ⟨_, rfl⟩
    rw [← hnz] at hmk
    have HXL := Lib.hid (zz_len nz)
    have HXC := Lib.hid (Nat.le_refl nz)
    have HNZ := Lib.hid (show 12000 < (zz nz).length ∧ nz ≤ 1000000 from by rw [zz_len]; omega)
    clear hnz
    go_wp2
    refine wp_region_noPanic ?_
    refine wp_region_held_drew (S := (fun _ => True)) (by kernel_rfl) ?rs0 (fun hHeld0 => ?rr0)
    case rs0 => (try dsimp only) <;> exact trivial
    refine wpAnyH_take (i := 0) (v := ?vr1) (by simp only [List.getElem?_toArray, List.getElem?_cons_zero, List.getElem?_cons_succ]; rfl) (by kernel_rfl) (by kernel_rfl) (by kernel_rfl) (fun _ _ _ h => h) (Or.inl ⟨by rfl, ?hr1⟩) hHeld0 ?qr1
    case hr1 => (intro w hSw; (try dsimp only at hSw); go_simp <;> with_reducible rfl)
    try simp only [Act.put, List.setIfInBounds_toArray, List.set_cons_zero, List.set_cons_succ]
    refine wpAnyH_take (i := 1) (v := ?vr2) (by simp only [List.getElem?_toArray, List.getElem?_cons_zero, List.getElem?_cons_succ]; rfl) (by kernel_rfl) (by kernel_rfl) (by kernel_rfl) (fun _ _ _ h => h) (Or.inl ⟨by rfl, ?hr2⟩) hHeld0 ?qr2
    case hr2 => (intro w hSw; (try dsimp only at hSw); go_simp <;> with_reducible rfl)
    try simp only [Act.put, List.setIfInBounds_toArray, List.set_cons_zero, List.set_cons_succ]
    refine wpAnyH_take (i := 3) (v := ?vr3) (by simp only [List.getElem?_toArray, List.getElem?_cons_zero, List.getElem?_cons_succ]; rfl) (by kernel_rfl) (by kernel_rfl) (by kernel_rfl) (fun _ _ _ h => h) (Or.inl ⟨by rfl, ?hr3⟩) hHeld0 ?qr3
    case hr3 => (intro w hSw; (try dsimp only at hSw); go_simp <;> with_reducible rfl)
    try simp only [Act.put, List.setIfInBounds_toArray, List.set_cons_zero, List.set_cons_succ]
    refine wpAnyH_ready (rs := [2, 4]) (by kernel_rfl) (by simp) ?_
    refine AllReadyH.cons (by simp only [List.getElem?_toArray, List.getElem?_cons_zero, List.getElem?_cons_succ]; rfl) (fun K hK => ?_) (AllReadyH.cons (by simp only [List.getElem?_toArray, List.getElem?_cons_zero, List.getElem?_cons_succ]; rfl) (fun K hK => ?_) AllReadyH.nil)
    · go_simp
      obtain ⟨wz, hzwz⟩ : ∃ z, z = (w4.alloc (.cells (zz_C nz) 5)).drew := ⟨_, rfl⟩
      rw [← hzwz]
      have hBz : Below w4.heap.size w4 wz := by rw [hzwz]; exact ((Below.refl _ w4).alloc (Nat.le_refl _) _).drew
      obtain ⟨gz, hgz⟩ : ∃ gz, gz = w4.heap.size := ⟨_, rfl⟩
      have hzb : Bytes wz (some ⟨gz, 0, none⟩) (zz nz) := by rw [hzwz, hgz]; exact (zz_reads w4 nz HNZ.out.2).below ((Below.refl _ _).drew)
      have HRz := Lib.hid (HR4.out.to hBz)
      try rw [← hgz]
      have hgz3 : gz ≠ g3 := by omega
      clear hgz
      have f0wz : wz.frozen? ⟨g3, 0, none⟩ = false := blk_frozen HRz.out.two 0
      have f1wz : wz.frozen? ⟨g3, 1, none⟩ = false := blk_frozen HRz.out.two 1
      have c0wz := blk_cell HRz.out.two 0
      have c1wz := blk_cell HRz.out.two 1
      simp only [List.getElem?_toArray, List.getElem?_cons_zero, List.getElem?_cons_succ] at c0wz c1wz
      clear hzwz
      refine hK.out _ _ ?srmk1 (fun hHeld1 => ?qrmk1)
      case srmk1 => (try dsimp only) <;> exact trivial
      clear hK K
      try simp only [Act.put, List.setIfInBounds_toArray, List.set_cons_zero, List.set_cons_succ]
      refine wpAnyH_ready (rs := [4]) (by kernel_rfl) (by simp) ?_
      refine AllReadyH.cons (by simp only [List.getElem?_toArray, List.getElem?_cons_zero, List.getElem?_cons_succ]; rfl) (fun K hK => ?_) AllReadyH.nil
      go_simp
      obtain ⟨wy, hzwy⟩ : ∃ z, z = wz.setCell ⟨g3, 0, none⟩ (.int .i64 4) := ⟨_, rfl⟩
      rw [← hzwy]
      have HRy := Lib.hid (show RfS w0 w0.heap.size bl bc o2 F2 g1 g3 ga 4 (some ⟨g2, 0, none⟩) 1 1 [98] wy from by rw [hzwy]; exact HRz.out.setN HGC.out.1 HGC.out.2.1 HGC.out.2.2.1 HGC.out.2.2.2.1 (fun a ha e => by injection ha with ha; subst ha; exact HGC.out.2.2.2.2 e) 4)
      have hzb2 : Bytes wy (some ⟨gz, 0, none⟩) (zz nz) := by rw [hzwy]; exact bytes_away hzb ((Keep.refl (fun k => k = g3) wz).setCell ⟨g3, 0, none⟩ _ (.inl rfl)) (fun _ a ha e => by injection ha with ha; subst ha; exact hgz3 e)
      have f0wy : wy.frozen? ⟨g3, 0, none⟩ = false := blk_frozen HRy.out.two 0
      have f1wy : wy.frozen? ⟨g3, 1, none⟩ = false := blk_frozen HRy.out.two 1
      have c0wy := blk_cell HRy.out.two 0
      have c1wy := blk_cell HRy.out.two 1
      simp only [List.getElem?_toArray, List.getElem?_cons_zero, List.getElem?_cons_succ] at c0wy c1wy
      clear hzwy
      refine hK.out _ _ ?srmk2 (fun hHeld2 => ?qrmk2)
      case srmk2 => (try dsimp only) <;> exact trivial
      clear hK K
      try simp only [Act.put, List.setIfInBounds_toArray, List.set_cons_zero, List.set_cons_succ]
      refine wpAnyH_take (i := 5) (v := ?vrmk3) (by simp only [List.getElem?_toArray, List.getElem?_cons_zero, List.getElem?_cons_succ]; rfl) (by kernel_rfl) (by kernel_rfl) (by kernel_rfl) (fun _ _ _ h => h) (Or.inl ⟨by rfl, ?hrmk3⟩) hHeld2 ?qrmk3
      case hrmk3 => (intro w hSw; (try dsimp only at hSw); go_simp <;> with_reducible rfl)
      try simp only [Act.put, List.setIfInBounds_toArray, List.set_cons_zero, List.set_cons_succ]
      refine wpAnyH_ready (rs := [6]) (by kernel_rfl) (by simp) ?_
      refine AllReadyH.cons (by simp only [List.getElem?_toArray, List.getElem?_cons_zero, List.getElem?_cons_succ]; rfl) (fun K hK => ?_) AllReadyH.nil
      go_simp
      obtain ⟨w5, hzw5⟩ : ∃ z, z = wy.setCell ⟨g3, 1, none⟩ (.slice (some ⟨gz, 0, none⟩) nz nz) := ⟨_, rfl⟩
      rw [← hzw5]
      have HR5 := Lib.hid (show RfS w0 w0.heap.size bl bc o2 F2 g1 g3 ga 4 (some ⟨gz, 0, none⟩) nz nz (zz nz) w5 from by rw [hzw5]; exact HRy.out.setB HGC.out.1 HGC.out.2.1 HGC.out.2.2.1 HGC.out.2.2.2.1 hzb2 (fun a ha e => by injection ha with ha; subst ha; exact hgz3 e))
      clear hzw5
      refine hK.out _ _ ?srmk4 (fun hHeld3 => ?qrmk4)
      case srmk4 => (try dsimp only) <;> exact trivial
      clear hK K
      try simp only [Act.put, List.setIfInBounds_toArray, List.set_cons_zero, List.set_cons_succ]
      refine wpAnyH_take (i := 7) (v := ?vrmk5) (by simp only [List.getElem?_toArray, List.getElem?_cons_zero, List.getElem?_cons_succ]; rfl) (by kernel_rfl) (by kernel_rfl) (by kernel_rfl) (fun _ _ _ h => h) (Or.inl ⟨by rfl, ?hrmk5⟩) hHeld3 ?qrmk5
      case hrmk5 => (intro w hSw; (try dsimp only at hSw); go_simp <;> with_reducible rfl)
      try simp only [Act.put, List.setIfInBounds_toArray, List.set_cons_zero, List.set_cons_succ]
      refine wpAnyH_done (by kernel_rfl) ?_ _
      refine NoPanic.normal ?_
      clear hmk
      have q90_5 : w5.cell? ⟨g1, 0, none⟩ = some (.int .i64 3) := blk_cell HR5.out.one 0
      have q91_5 : w5.cell? ⟨g1, 1, none⟩ = some (.slice (some ⟨ga, 0, none⟩) 1 1) := blk_cell HR5.out.one 1
      have q100_5 : w5.cell? ⟨g3, 0, none⟩ = some (.int .i64 4) := blk_cell HR5.out.two 0
      have q101_5 : w5.cell? ⟨g3, 1, none⟩ = some (.slice (some ⟨gz, 0, none⟩) nz nz) := blk_cell HR5.out.two 1
      have HXA5 := Lib.hid HR5.out.oneB
      have HXB5 := Lib.hid HR5.out.twoB
      have HI5 := Lib.hid HR5.out.win
      obtain ⟨hwr1, hwr2⟩ := (refuse_long HNZ.out.1)
      have HWR1 := Lib.hid hwr1
      have HWR2 := Lib.hid hwr2
      clear hwr1 hwr2
      go_wp2_with (first
        | (go_at_call 36; refine (cel_get HI10.out 3).mono ?_
           rintro r w11 ⟨v11, rfl, hO11, hB11⟩
           rw [putM_self] at hO11
           obtain ⟨A11, c11, rfl⟩ := own_slice hO11
           have hcv : (convert 32 9 (.slice A11 1 c11)).run Tryd.prog w11 = .ok (.string SA) w11 := by rw [HSA.out]; exact conv_str (own_reads8 hO11).1
           have HB11 := Lib.hid (HB0.out.trans ((HI10.out.below.trans (hB11.mono HI10.out.below.size)).mono HB0.out.size))
           clear hO11 hB11)
        | (go_at_call 34
           refine (put_lit w9.heap.size 3 [97] (some ⟨ga, 0, none⟩) 1 1 w0 w9 _ bl bc o2 [] 0 noM F2 HI9.out (by omega) (by decide) (by decide) rfl (by decide) HXA9.out (by decide) (fun _ a ha hf => by injection ha with ha; subst ha; exact HGA.out hf) (by decide) (by simp [framesOf]) rfl).mono ?_
           rintro r w10 ⟨rfl, F10, hI10, _, _⟩
           have HI10 := Lib.hid hI10
           clear hI10)
        | (go_at_call 36; refine (cel_get HI8.out 3).mono ?_
           rintro r w9 ⟨v9, rfl, hO9, hB9⟩
           obtain ⟨A9, c9, rfl⟩ := own_slice (show Own w9 w8.heap.size v9 [] from hO9)
           have HI9 := Lib.hid (HI8.out.to hB9)
           have q90_9 := pw_cell_below hB9 q90_8
           have q91_9 := pw_cell_below hB9 q91_8
           have HXA9 := Lib.hid (HXA8.out.below hB9)
           clear hO9 hB9)
        | (go_at_call 35; refine (cel_all HI7.out).mono ?_
           rintro r w8 ⟨v8, rfl, hR8, hB8⟩
           rw [celL_none (m := noM) (fun _ => rfl)] at hR8
           obtain ⟨A8, c8, rfl⟩ := Kd.R_slice hR8
           have HI8 := Lib.hid (HI7.out.to hB8)
           have q90_8 := pw_cell_below hB8 q90_7
           have q91_8 := pw_cell_below hB8 q91_7
           have HXA8 := Lib.hid (HXA7.out.below hB8)
           clear hR8 hB8)
        | (go_at_call 34
           refine (put_bad _ 2 [(4, (zz nz)), ((3 : Int), ([97] : List UInt8))] 5 bc (w6.alloc (.cells _ 61)) (HI6.out.lw.alloc _) (Kd_two (n := 4) (x := (zz nz)) (n' := 3) (x' := [97]) (heap_alloc_new w6 _) HXL.out rfl (HXB6.out.below ((Below.refl _ w6).alloc (Nat.le_refl _) _)) HXC.out (HXA6.out.below ((Below.refl _ w6).alloc (Nat.le_refl _) _)) (by decide)) (Nat.le_refl 2) HWR2.out (by decide)).mono ?_
           rintro r w7 ⟨rfl, hB⟩
           have hb := ((Below.refl _ w6).alloc (Nat.le_refl _) _).trans (hB.mono (by simp))
           have q90_7 := pw_cell_below hb q90_6
           have q91_7 := pw_cell_below hb q91_6
           have q100_7 := pw_cell_below hb q100_6
           have q101_7 := pw_cell_below hb q101_6
           have HXA7 := Lib.hid (HXA6.out.below hb)
           have HXB7 := Lib.hid (HXB6.out.below hb)
           have HI7 := Lib.hid (HI6.out.to hb)
           clear hB hb)
        | (go_at_call 34
           refine (put_bad _ 2 [((3 : Int), ([97] : List UInt8)), (4, (zz nz))] 5 bc (w5.alloc (.cells _ 61)) (HI5.out.lw.alloc _) (Kd_two (n := 3) (x := [97]) (n' := 4) (x' := (zz nz)) (heap_alloc_new w5 _) rfl HXL.out (HXA5.out.below ((Below.refl _ w5).alloc (Nat.le_refl _) _)) (by decide) (HXB5.out.below ((Below.refl _ w5).alloc (Nat.le_refl _) _)) HXC.out) (Nat.le_refl 2) HWR1.out (by decide)).mono ?_
           rintro r w6 ⟨rfl, hB⟩
           have hb := ((Below.refl _ w5).alloc (Nat.le_refl _) _).trans (hB.mono (by simp))
           have q90_6 := pw_cell_below hb q90_5
           have q91_6 := pw_cell_below hb q91_5
           have q100_6 := pw_cell_below hb q100_5
           have q101_6 := pw_cell_below hb q101_5
           have HXA6 := Lib.hid (HXA5.out.below hb)
           have HXB6 := Lib.hid (HXB5.out.below hb)
           have HI6 := Lib.hid (HI5.out.to hb)
           clear hB hb))
      go_ret
      exact ⟨rfl, HB11.out⟩
    · go_simp
      obtain ⟨wz, hzwz⟩ : ∃ z, z = (w4.setCell ⟨g3, 0, none⟩ (.int .i64 4)).drew := ⟨_, rfl⟩
      rw [← hzwz]
      have HRz := Lib.hid (show RfS w0 w0.heap.size bl bc o2 F2 g1 g3 ga 4 (some ⟨g2, 0, none⟩) 1 1 [98] wz from by rw [hzwz]; exact (HR4.out.setN HGC.out.1 HGC.out.2.1 HGC.out.2.2.1 HGC.out.2.2.2.1 (fun a ha e => by injection ha with ha; subst ha; exact HGC.out.2.2.2.2 e) 4).to ((Below.refl _ _).drew))
      have hszz : wz.heap.size = w4.heap.size := by rw [hzwz]; simp [World.setCell]
      have f0wz : wz.frozen? ⟨g3, 0, none⟩ = false := blk_frozen HRz.out.two 0
      have f1wz : wz.frozen? ⟨g3, 1, none⟩ = false := blk_frozen HRz.out.two 1
      have c0wz := blk_cell HRz.out.two 0
      have c1wz := blk_cell HRz.out.two 1
      simp only [List.getElem?_toArray, List.getElem?_cons_zero, List.getElem?_cons_succ] at c0wz c1wz
      clear hzwz
      refine hK.out _ _ ?srst1 (fun hHeld1 => ?qrst1)
      case srst1 => (try dsimp only) <;> exact trivial
      clear hK K
      try simp only [Act.put, List.setIfInBounds_toArray, List.set_cons_zero, List.set_cons_succ]
      refine wpAnyH_ready (rs := [2]) (by kernel_rfl) (by simp) ?_
      refine AllReadyH.cons (by simp only [List.getElem?_toArray, List.getElem?_cons_zero, List.getElem?_cons_succ]; rfl) (fun K hK => ?_) AllReadyH.nil
      go_simp
      obtain ⟨wy, hzwy⟩ : ∃ z, z = wz.alloc (.cells (zz_C nz) 5) := ⟨_, rfl⟩
      rw [← hzwy]
      have hBy : Below wz.heap.size wz wy := by rw [hzwy]; exact (Below.refl _ wz).alloc (Nat.le_refl _) _
      obtain ⟨gz, hgz⟩ : ∃ gz, gz = w4.heap.size := ⟨_, rfl⟩
      have hzb2 : Bytes wy (some ⟨gz, 0, none⟩) (zz nz) := by
        have h9 := zz_reads wz nz HNZ.out.2
        rw [hszz, ← hgz, ← hzwy] at h9
        exact h9
      have HRy := Lib.hid (HRz.out.to hBy)
      try rw [← hgz]
      have hgz3 : gz ≠ g3 := by omega
      clear hgz hszz
      have f0wy : wy.frozen? ⟨g3, 0, none⟩ = false := blk_frozen HRy.out.two 0
      have f1wy : wy.frozen? ⟨g3, 1, none⟩ = false := blk_frozen HRy.out.two 1
      have c0wy := blk_cell HRy.out.two 0
      have c1wy := blk_cell HRy.out.two 1
      simp only [List.getElem?_toArray, List.getElem?_cons_zero, List.getElem?_cons_succ] at c0wy c1wy
      clear hzwy
      refine hK.out _ _ ?srst2 (fun hHeld2 => ?qrst2)
      case srst2 => (try dsimp only) <;> exact trivial
      clear hK K
      try simp only [Act.put, List.setIfInBounds_toArray, List.set_cons_zero, List.set_cons_succ]
      refine wpAnyH_take (i := 5) (v := ?vrst3) (by simp only [List.getElem?_toArray, List.getElem?_cons_zero, List.getElem?_cons_succ]; rfl) (by kernel_rfl) (by kernel_rfl) (by kernel_rfl) (fun _ _ _ h => h) (Or.inl ⟨by rfl, ?hrst3⟩) hHeld2 ?qrst3
      case hrst3 => (intro w hSw; (try dsimp only at hSw); go_simp <;> with_reducible rfl)
      try simp only [Act.put, List.setIfInBounds_toArray, List.set_cons_zero, List.set_cons_succ]
      refine wpAnyH_ready (rs := [6]) (by kernel_rfl) (by simp) ?_
      refine AllReadyH.cons (by simp only [List.getElem?_toArray, List.getElem?_cons_zero, List.getElem?_cons_succ]; rfl) (fun K hK => ?_) AllReadyH.nil
      go_simp
      obtain ⟨w5, hzw5⟩ : ∃ z, z = wy.setCell ⟨g3, 1, none⟩ (.slice (some ⟨gz, 0, none⟩) nz nz) := ⟨_, rfl⟩
      rw [← hzw5]
      have HR5 := Lib.hid (show RfS w0 w0.heap.size bl bc o2 F2 g1 g3 ga 4 (some ⟨gz, 0, none⟩) nz nz (zz nz) w5 from by rw [hzw5]; exact HRy.out.setB HGC.out.1 HGC.out.2.1 HGC.out.2.2.1 HGC.out.2.2.2.1 hzb2 (fun a ha e => by injection ha with ha; subst ha; exact hgz3 e))
      clear hzw5
      refine hK.out _ _ ?srst4 (fun hHeld3 => ?qrst4)
      case srst4 => (try dsimp only) <;> exact trivial
      clear hK K
      try simp only [Act.put, List.setIfInBounds_toArray, List.set_cons_zero, List.set_cons_succ]
      refine wpAnyH_take (i := 7) (v := ?vrst5) (by simp only [List.getElem?_toArray, List.getElem?_cons_zero, List.getElem?_cons_succ]; rfl) (by kernel_rfl) (by kernel_rfl) (by kernel_rfl) (fun _ _ _ h => h) (Or.inl ⟨by rfl, ?hrst5⟩) hHeld3 ?qrst5
      case hrst5 => (intro w hSw; (try dsimp only at hSw); go_simp <;> with_reducible rfl)
      try simp only [Act.put, List.setIfInBounds_toArray, List.set_cons_zero, List.set_cons_succ]
      refine wpAnyH_done (by kernel_rfl) ?_ _
      refine NoPanic.normal ?_
      clear hmk
      have q90_5 : w5.cell? ⟨g1, 0, none⟩ = some (.int .i64 3) := blk_cell HR5.out.one 0
      have q91_5 : w5.cell? ⟨g1, 1, none⟩ = some (.slice (some ⟨ga, 0, none⟩) 1 1) := blk_cell HR5.out.one 1
      have q100_5 : w5.cell? ⟨g3, 0, none⟩ = some (.int .i64 4) := blk_cell HR5.out.two 0
      have q101_5 : w5.cell? ⟨g3, 1, none⟩ = some (.slice (some ⟨gz, 0, none⟩) nz nz) := blk_cell HR5.out.two 1
      have HXA5 := Lib.hid HR5.out.oneB
      have HXB5 := Lib.hid HR5.out.twoB
      have HI5 := Lib.hid HR5.out.win
      obtain ⟨hwr1, hwr2⟩ := (refuse_long HNZ.out.1)
      have HWR1 := Lib.hid hwr1
      have HWR2 := Lib.hid hwr2
      clear hwr1 hwr2
      go_wp2_with (first
        | (go_at_call 36; refine (cel_get HI10.out 3).mono ?_
           rintro r w11 ⟨v11, rfl, hO11, hB11⟩
           rw [putM_self] at hO11
           obtain ⟨A11, c11, rfl⟩ := own_slice hO11
           have hcv : (convert 32 9 (.slice A11 1 c11)).run Tryd.prog w11 = .ok (.string SA) w11 := by rw [HSA.out]; exact conv_str (own_reads8 hO11).1
           have HB11 := Lib.hid (HB0.out.trans ((HI10.out.below.trans (hB11.mono HI10.out.below.size)).mono HB0.out.size))
           clear hO11 hB11)
        | (go_at_call 34
           refine (put_lit w9.heap.size 3 [97] (some ⟨ga, 0, none⟩) 1 1 w0 w9 _ bl bc o2 [] 0 noM F2 HI9.out (by omega) (by decide) (by decide) rfl (by decide) HXA9.out (by decide) (fun _ a ha hf => by injection ha with ha; subst ha; exact HGA.out hf) (by decide) (by simp [framesOf]) rfl).mono ?_
           rintro r w10 ⟨rfl, F10, hI10, _, _⟩
           have HI10 := Lib.hid hI10
           clear hI10)
        | (go_at_call 36; refine (cel_get HI8.out 3).mono ?_
           rintro r w9 ⟨v9, rfl, hO9, hB9⟩
           obtain ⟨A9, c9, rfl⟩ := own_slice (show Own w9 w8.heap.size v9 [] from hO9)
           have HI9 := Lib.hid (HI8.out.to hB9)
           have q90_9 := pw_cell_below hB9 q90_8
           have q91_9 := pw_cell_below hB9 q91_8
           have HXA9 := Lib.hid (HXA8.out.below hB9)
           clear hO9 hB9)
        | (go_at_call 35; refine (cel_all HI7.out).mono ?_
           rintro r w8 ⟨v8, rfl, hR8, hB8⟩
           rw [celL_none (m := noM) (fun _ => rfl)] at hR8
           obtain ⟨A8, c8, rfl⟩ := Kd.R_slice hR8
           have HI8 := Lib.hid (HI7.out.to hB8)
           have q90_8 := pw_cell_below hB8 q90_7
           have q91_8 := pw_cell_below hB8 q91_7
           have HXA8 := Lib.hid (HXA7.out.below hB8)
           clear hR8 hB8)
        | (go_at_call 34
           refine (put_bad _ 2 [(4, (zz nz)), ((3 : Int), ([97] : List UInt8))] 5 bc (w6.alloc (.cells _ 61)) (HI6.out.lw.alloc _) (Kd_two (n := 4) (x := (zz nz)) (n' := 3) (x' := [97]) (heap_alloc_new w6 _) HXL.out rfl (HXB6.out.below ((Below.refl _ w6).alloc (Nat.le_refl _) _)) HXC.out (HXA6.out.below ((Below.refl _ w6).alloc (Nat.le_refl _) _)) (by decide)) (Nat.le_refl 2) HWR2.out (by decide)).mono ?_
           rintro r w7 ⟨rfl, hB⟩
           have hb := ((Below.refl _ w6).alloc (Nat.le_refl _) _).trans (hB.mono (by simp))
           have q90_7 := pw_cell_below hb q90_6
           have q91_7 := pw_cell_below hb q91_6
           have q100_7 := pw_cell_below hb q100_6
           have q101_7 := pw_cell_below hb q101_6
           have HXA7 := Lib.hid (HXA6.out.below hb)
           have HXB7 := Lib.hid (HXB6.out.below hb)
           have HI7 := Lib.hid (HI6.out.to hb)
           clear hB hb)
        | (go_at_call 34
           refine (put_bad _ 2 [((3 : Int), ([97] : List UInt8)), (4, (zz nz))] 5 bc (w5.alloc (.cells _ 61)) (HI5.out.lw.alloc _) (Kd_two (n := 3) (x := [97]) (n' := 4) (x' := (zz nz)) (heap_alloc_new w5 _) rfl HXL.out (HXA5.out.below ((Below.refl _ w5).alloc (Nat.le_refl _) _)) (by decide) (HXB5.out.below ((Below.refl _ w5).alloc (Nat.le_refl _) _)) HXC.out) (Nat.le_refl 2) HWR1.out (by decide)).mono ?_
           rintro r w6 ⟨rfl, hB⟩
           have hb := ((Below.refl _ w5).alloc (Nat.le_refl _) _).trans (hB.mono (by simp))
           have q90_6 := pw_cell_below hb q90_5
           have q91_6 := pw_cell_below hb q91_5
           have q100_6 := pw_cell_below hb q100_5
           have q101_6 := pw_cell_below hb q101_5
           have HXA6 := Lib.hid (HXA5.out.below hb)
           have HXB6 := Lib.hid (HXB5.out.below hb)
           have HI6 := Lib.hid (HI5.out.to hb)
           clear hB hb))
      go_ret
      exact ⟨rfl, HB11.out⟩
  · obtain ⟨w5, hw5⟩ : ∃ z, z = w4 := ⟨_, rfl⟩
    rw [← hw5] at HR4 ⊢
    have HR5 := HR4
    have HXL := Lib.hid (show ([98] : List UInt8).length = 1 from rfl)
    have HXC := Lib.hid (show 1 ≤ 1 from Nat.le_refl 1)
    clear hw5 q100 f100 hg3l
    have q90_5 : w5.cell? ⟨g1, 0, none⟩ = some (.int .i64 3) := blk_cell HR5.out.one 0
    have q91_5 : w5.cell? ⟨g1, 1, none⟩ = some (.slice (some ⟨ga, 0, none⟩) 1 1) := blk_cell HR5.out.one 1
    have q100_5 : w5.cell? ⟨g3, 0, none⟩ = some (.int .i64 3) := blk_cell HR5.out.two 0
    have q101_5 : w5.cell? ⟨g3, 1, none⟩ = some (.slice (some ⟨g2, 0, none⟩) 1 1) := blk_cell HR5.out.two 1
    have HXA5 := Lib.hid HR5.out.oneB
    have HXB5 := Lib.hid HR5.out.twoB
    have HI5 := Lib.hid HR5.out.win
    obtain ⟨hwr1, hwr2⟩ := refuse_twice
    have HWR1 := Lib.hid hwr1
    have HWR2 := Lib.hid hwr2
    clear hwr1 hwr2
    go_wp2_with (first
      | (go_at_call 36; refine (cel_get HI10.out 3).mono ?_
         rintro r w11 ⟨v11, rfl, hO11, hB11⟩
         rw [putM_self] at hO11
         obtain ⟨A11, c11, rfl⟩ := own_slice hO11
         have hcv : (convert 32 9 (.slice A11 1 c11)).run Tryd.prog w11 = .ok (.string SA) w11 := by rw [HSA.out]; exact conv_str (own_reads8 hO11).1
         have HB11 := Lib.hid (HB0.out.trans ((HI10.out.below.trans (hB11.mono HI10.out.below.size)).mono HB0.out.size))
         clear hO11 hB11)
      | (go_at_call 34
         refine (put_lit w9.heap.size 3 [97] (some ⟨ga, 0, none⟩) 1 1 w0 w9 _ bl bc o2 [] 0 noM F2 HI9.out (by omega) (by decide) (by decide) rfl (by decide) HXA9.out (by decide) (fun _ a ha hf => by injection ha with ha; subst ha; exact HGA.out hf) (by decide) (by simp [framesOf]) rfl).mono ?_
         rintro r w10 ⟨rfl, F10, hI10, _, _⟩
         have HI10 := Lib.hid hI10
         clear hI10)
      | (go_at_call 36; refine (cel_get HI8.out 3).mono ?_
         rintro r w9 ⟨v9, rfl, hO9, hB9⟩
         obtain ⟨A9, c9, rfl⟩ := own_slice (show Own w9 w8.heap.size v9 [] from hO9)
         have HI9 := Lib.hid (HI8.out.to hB9)
         have q90_9 := pw_cell_below hB9 q90_8
         have q91_9 := pw_cell_below hB9 q91_8
         have HXA9 := Lib.hid (HXA8.out.below hB9)
         clear hO9 hB9)
      | (go_at_call 35; refine (cel_all HI7.out).mono ?_
         rintro r w8 ⟨v8, rfl, hR8, hB8⟩
         rw [celL_none (m := noM) (fun _ => rfl)] at hR8
         obtain ⟨A8, c8, rfl⟩ := Kd.R_slice hR8
         have HI8 := Lib.hid (HI7.out.to hB8)
         have q90_8 := pw_cell_below hB8 q90_7
         have q91_8 := pw_cell_below hB8 q91_7
         have HXA8 := Lib.hid (HXA7.out.below hB8)
         clear hR8 hB8)
      | (go_at_call 34
         refine (put_bad _ 2 [(3, [98]), ((3 : Int), ([97] : List UInt8))] 1 bc (w6.alloc (.cells _ 61)) (HI6.out.lw.alloc _) (Kd_two (n := 3) (x := [98]) (n' := 3) (x' := [97]) (heap_alloc_new w6 _) HXL.out rfl (HXB6.out.below ((Below.refl _ w6).alloc (Nat.le_refl _) _)) HXC.out (HXA6.out.below ((Below.refl _ w6).alloc (Nat.le_refl _) _)) (by decide)) (Nat.le_refl 2) HWR2.out (by decide)).mono ?_
         rintro r w7 ⟨rfl, hB⟩
         have hb := ((Below.refl _ w6).alloc (Nat.le_refl _) _).trans (hB.mono (by simp))
         have q90_7 := pw_cell_below hb q90_6
         have q91_7 := pw_cell_below hb q91_6
         have q100_7 := pw_cell_below hb q100_6
         have q101_7 := pw_cell_below hb q101_6
         have HXA7 := Lib.hid (HXA6.out.below hb)
         have HXB7 := Lib.hid (HXB6.out.below hb)
         have HI7 := Lib.hid (HI6.out.to hb)
         clear hB hb)
      | (go_at_call 34
         refine (put_bad _ 2 [((3 : Int), ([97] : List UInt8)), (3, [98])] 1 bc (w5.alloc (.cells _ 61)) (HI5.out.lw.alloc _) (Kd_two (n := 3) (x := [97]) (n' := 3) (x' := [98]) (heap_alloc_new w5 _) rfl HXL.out (HXA5.out.below ((Below.refl _ w5).alloc (Nat.le_refl _) _)) (by decide) (HXB5.out.below ((Below.refl _ w5).alloc (Nat.le_refl _) _)) HXC.out) (Nat.le_refl 2) HWR1.out (by decide)).mono ?_
         rintro r w6 ⟨rfl, hB⟩
         have hb := ((Below.refl _ w5).alloc (Nat.le_refl _) _).trans (hB.mono (by simp))
         have q90_6 := pw_cell_below hb q90_5
         have q91_6 := pw_cell_below hb q91_5
         have q100_6 := pw_cell_below hb q100_5
         have q101_6 := pw_cell_below hb q101_5
         have HXA6 := Lib.hid (HXA5.out.below hb)
         have HXB6 := Lib.hid (HXB5.out.below hb)
         have HI6 := Lib.hid (HI5.out.to hb)
         clear hB hb))
    go_ret
    exact ⟨rfl, HB11.out⟩
theorem ref_row (which by0 : Int) (w : World) (hg0 : Laid w) (_ : (Lit.int .i64 which).wf = true) (_ : (Lit.int .i64 by0).wf = true) :
    Calls Tryd.prog 9 #[.int .i64 which, .int .i64 by0] w fun e w' => e = .returned (.bool true) ∧ Below w.heap.size w w' := ref_any which by0 w hg0
end Go.Proofs.YtfnnjgbldojigaaDoor
