/- IndexFunc and ContainsFunc over cells; the closures. wrong of cells. lay and Put of cells, where there is room behind the others. Rows of cells that are laid; known. -/
import Derived.Test.YtfnnjgbldojigaaDoorCelA
import Derived.Test.YtfnnjgbldojigaaDoorGrdW
import Derived.Shelf.Abstract
import Derived.Test.YtfnnjgbldojigaaDoorKindW
import Derived.Test.YtfnnjgbldojigaaDoorKnoW
set_option linter.unusedVariables false
set_option linter.unusedSimpArgs false
namespace Go.Proofs.YtfnnjgbldojigaaDoor
/- IndexFunc and ContainsFunc over cells; the closures. -/
section
open Go.RowKit Go.Shelf Go.Proofs.YtfnnjgbldojigaaDoorW.PrintWords Go.Proofs.Mine Go.Proofs.Mine.Crc

set_option maxRecDepth 100000 in
set_option maxHeartbeats 2000000 in
theorem wrong1_any (x q : Int) (Bx : Option Addr) (nx cx pc : Nat) (W : World) (hq : W.cell? ⟨pc, 0, none⟩ = some (.int .i64 q)) :
    Calls Tryd.prog 66 #[.agg #[.int .i64 x, .slice Bx nx cx], .pointer (some ⟨pc, 0, none⟩)] W fun e w' => e = .returned (.bool (x == q)) ∧ Below W.heap.size W w' := by
  have hlt := World.block_lt_of_cell? W _ hq
  have hne : pc ≠ W.heap.size := by intro e; subst e; simp at hlt
  go_enter Tryd.func66, Tryd.ntmps66
  go_wp2
  go_ret
  exact ⟨rfl, (Below.refl _ W).alloc (Nat.le_refl _) _⟩
set_option maxRecDepth 100000 in
set_option maxHeartbeats 2000000 in
theorem with1_any (x q : Int) (Bx : Option Addr) (nx cx pc : Nat) (W : World) (hq : W.cell? ⟨pc, 0, none⟩ = some (.int .i64 q)) :
    Calls Tryd.prog 81 #[.agg #[.int .i64 x, .slice Bx nx cx], .pointer (some ⟨pc, 0, none⟩)] W fun e w' => e = .returned (.bool (x == q)) ∧ Below W.heap.size W w' := by
  have hlt := World.block_lt_of_cell? W _ hq
  have hne : pc ≠ W.heap.size := by intro e; subst e; simp at hlt
  go_enter Tryd.func81, Tryd.ntmps81
  go_wp2
  go_ret
  exact ⟨rfl, (Below.refl _ W).alloc (Nat.le_refl _) _⟩
/-- A predicate over cells that a function value is. -/
def PredC (g pc : Nat) (p : Int → Bool) (w : World) : Prop :=
  ∀ (W : World) (x : Int) (Bx : Option Addr) (nx cx : Nat), Below w.heap.size w W → Calls Tryd.prog g #[.agg #[.int .i64 x, .slice Bx nx cx], .pointer (some ⟨pc, 0, none⟩)] W fun e w' => e = .returned (.bool (p x)) ∧ Below W.heap.size W w'
theorem pred_wrong {w : World} {pc : Nat} {q : Int} (hq : w.cell? ⟨pc, 0, none⟩ = some (.int .i64 q)) : PredC 66 pc (fun x => x == q) w := fun W x Bx nx cx hB => wrong1_any x q Bx nx cx pc W (pw_cell_below hB hq)
theorem pred_with {w : World} {pc : Nat} {q : Int} (hq : w.cell? ⟨pc, 0, none⟩ = some (.int .i64 q)) : PredC 81 pc (fun x => x == q) w := fun W x Bx nx cx hB => with1_any x q Bx nx cx pc W (pw_cell_below hB hq)
/-- What IndexFunc tells. -/
def IdxC (p : Int → Bool) (l : List Ce) (r : Int) : Prop := (r = -1 ∧ ∀ x ∈ l, p x.1 = false) ∨ ∃ (k : Nat) (x : Ce), r = (k : Int) ∧ l[k]? = some x ∧ p x.1 = true ∧ ∀ y ∈ l.take k, p y.1 = false
set_option maxRecDepth 100000 in
set_option maxHeartbeats 2000000 in
theorem idx_any (g pc : Nat) (p : Int → Bool) (eg : ∀ args w, (callFunc g args).run Tryd.prog w = .ok (.enter g args) w) (A : Option Addr) (c : Nat) (l : List Ce) (w : World) (h : ceK.C w A l.length l) (hp : PredC g pc p w) :
    Calls Tryd.prog 79 #[.slice A l.length c, .func (.func g) #[] #[.pointer (some ⟨pc, 0, none⟩)]] w fun e w' => ∃ r, e = .returned (.int .i64 r) ∧ IdxC p l r ∧ Below w.heap.size w w' := by
  have H := Lib.hid h
  have HP := Lib.hid hp
  have hmx := h.2.1
  clear h hp
  go_enter Tryd.func79, Tryd.ntmps79
  go_wp2_with fail
  go_loopw [5, 8] (fun _ iv wr => ∃ (k : Nat), k ≤ l.length ∧ iv = .int .i64 (k : Int) ∧ RowKit.Hid (∀ y ∈ l.take k, p y.1 = false) ∧ RowKit.Hid (Below w.heap.size w wr)) (fun _ iv _ => l.length - (intOf iv).toNat)
  case atStart => exact ⟨0, by omega, rfl, Lib.hid (by simp), Lib.hid (Below.refl _ _)⟩
  case round =>
    rename_i wr
    obtain ⟨k, hk, rfl, HA, HB⟩ := hrel
    by_cases hlt : k < l.length
    · have hlt2 : (k : Int) < (l.length : Int) := by omega
      have hk0 : (0 : Int) ≤ (k : Int) := by omega
      obtain ⟨x, hx⟩ : ∃ x, l[k]? = some x := ⟨_, List.getElem?_eq_getElem hlt⟩
      obtain ⟨ad, Bx, cx, rfl, h0, h1, hbx, hcx⟩ := ce_at H.out hx
      obtain ⟨ea, hea⟩ : ∃ ea, ea = ad.add (k * 2) := ⟨_, rfl⟩
      rw [← hea] at h0 h1
      have q0 : wr.cell? ea = some (.int .i64 x.1) := pw_cell_below HB.out h0
      have q1 : wr.cell? ⟨ea.block, ea.off + 1, none⟩ = some (.slice Bx x.2.length cx) := pw_cell_below HB.out h1
      have hea2 := hea.symm
      have HX := Lib.hid hx
      have hcall := HP.out wr x.1 Bx x.2.length cx HB.out
      have HT := Lib.hid (show l.take (k + 1) = l.take k ++ [x] from by rw [List.take_add_one, hx]; rfl)
      obtain ⟨x1, x2⟩ := x
      dsimp only at hcall q0 q1
      clear h0 h1 hbx hcx hx hea
      cases hq : p x1 with
      | true =>
        rw [hq] at hcall
        have HQ := Lib.hid hq
        clear hq
        go_wp2_with (go_at_fn g; refine hcall.mono ?_; rintro e w' ⟨rfl, hb'⟩)
        go_ret
        exact ⟨_, rfl, .inr ⟨k, _, rfl, HX.out, HQ.out, HA.out⟩, HB.out.trans (hb'.mono HB.out.size)⟩
      | false =>
        rw [hq] at hcall
        have HQ := Lib.hid hq
        clear hq
        go_wp2_with (go_at_fn g; refine hcall.mono ?_; rintro e w' ⟨rfl, hb'⟩)
        go_roundw
        case rel =>
          refine ⟨k + 1, by omega, by go_num, Lib.hid ?_, Lib.hid (HB.out.trans (hb'.mono HB.out.size))⟩
          intro y hy
          rw [HT.out] at hy
          rcases List.mem_append.1 hy with hy | hy
          · exact HA.out y hy
          · rw [List.mem_singleton.1 hy]; exact HQ.out
        case measure => simp [intOf]; omega
    · obtain rfl : k = l.length := by omega
      rw [List.take_length] at HA
      go_wp2
      go_ret
      exact ⟨_, rfl, .inl ⟨rfl, HA.out⟩, HB.out⟩
theorem idxC_any {p : Int → Bool} {l : List Ce} {r : Int} (h : IdxC p l r) : decide (0 ≤ r) = l.any fun x => p x.1 := by
  rcases h with ⟨rfl, h⟩ | ⟨k, x, rfl, hx, hp, _⟩
  · symm
    rw [show decide ((0 : Int) ≤ -1) = false from rfl, List.any_eq_false]
    intro x hx
    simp [h x hx]
  · rw [show decide ((0 : Int) ≤ (k : Int)) = true from decide_eq_true (by omega)]
    symm
    rw [List.any_eq_true]
    exact ⟨x, List.mem_of_getElem? hx, hp⟩
set_option maxRecDepth 100000 in
set_option maxHeartbeats 2000000 in
theorem con_any (g pc : Nat) (p : Int → Bool) (eg : ∀ args w, (callFunc g args).run Tryd.prog w = .ok (.enter g args) w) (A : Option Addr) (c : Nat) (l : List Ce) (w : World) (h : ceK.C w A l.length l) (hp : PredC g pc p w) :
    Calls Tryd.prog 65 #[.slice A l.length c, .func (.func g) #[] #[.pointer (some ⟨pc, 0, none⟩)]] w fun e w' => e = .returned (.bool (l.any fun x => p x.1)) ∧ Below w.heap.size w w' := by
  have HI := Lib.hid (idx_any g pc p eg A c l w h hp)
  clear h hp
  go_enter Tryd.func65, Tryd.ntmps65
  go_wp2_with (go_at_call 79; refine HI.out.mono ?_; rintro e w' ⟨r, rfl, hr, hb⟩; have HR := Lib.hid hr; clear hr)
  go_ret
  exact ⟨by rw [idxC_any HR.out]; rfl, hb⟩
end
/- wrong of cells. -/
section
open Go.RowKit Go.Shelf Go.Proofs.YtfnnjgbldojigaaDoorW.PrintWords Go.Proofs.Mine Go.Proofs.Mine.Crc

/-- What is wrong with the cell at k. -/
def badAt (l : List Ce) (k : Nat) : Int := match l[k]? with
  | none => 0
  | some c => if c.1 < 0 ∨ 8 ≤ c.1 ∨ ((l.take k).any fun x => x.1 == c.1) = true then 1 else if 12000 < c.2.length then 5 else 0
def WrongIs (l : List Ce) (E : Int) : Prop := (E = 0 ∧ ∀ k, badAt l k = 0) ∨ (E ≠ 0 ∧ ∃ k, badAt l k = E ∧ ∀ j, j < k → badAt l j = 0)
theorem cutC (A : Option Addr) (n c k : Nat) (h : k ≤ c) (W : World) : (Instr.slice 63 (.slice A n c) none (some (.int .i64 (k : Int))) none).run Tryd.prog W = .ok (.slice A k c) W := by
  have h1 : ¬ ((k : Int) < 0) := by omega
  have h2 : ¬ ((c : Int) < (k : Int)) := by omega
  obtain ⟨i0, hi, hz⟩ := Option.map_eq_some_iff.1 infoCel
  simp [Instr.slice, run_underlying Tryd.underlying63, Instr.sliceBounds, Instr.sliceBound, asIntOf, h1, h2, h]
  intro _
  cases A <;> simp [Addr.add]
theorem takeC {w : World} {A : Option Addr} {l : List Ce} (h : ceK.C w A l.length l) (k : Nat) (hk : k ≤ l.length) : ∃ lk : List Ce, lk = l.take k ∧ lk.length = k ∧ ceK.C w A lk.length lk := ⟨_, rfl, by rw [List.length_take]; omega, Kd.C_take h hk⟩
set_option maxRecDepth 100000 in
set_option maxHeartbeats 2000000 in
theorem wrong_any (A : Option Addr) (c : Nat) (l : List Ce) (w : World) (h : ceK.C w A l.length l) (hc : l.length ≤ c) :
    Calls Tryd.prog 53 #[.slice A l.length c] w fun r w' => ∃ ev E, r = .returned ev ∧ ErrV w' ev E ∧ WrongIs l E ∧ Below w.heap.size w w' := by
  have H := Lib.hid h
  have hmx := h.2.1
  have eg : ∀ args w, (callFunc 66 args).run Tryd.prog w = .ok (.enter 66 args) w := enters_of Tryd.func66 (by kernel_rfl) rfl
  clear h
  go_enter Tryd.func53, Tryd.ntmps53
  go_wp2_with fail
  go_loopw [3, 4, 7] (fun _ _ iv wr => ∃ (k : Nat), k ≤ l.length ∧ iv = .int .i64 (k : Int) ∧ RowKit.Hid (∀ j, j < k → badAt l j = 0) ∧ RowKit.Hid (Below w.heap.size w wr)) (fun _ _ iv _ => l.length - (intOf iv).toNat)
  case atStart => exact ⟨0, by omega, rfl, Lib.hid (fun j hj => absurd hj (by omega)), Lib.hid (Below.refl _ _)⟩
  case round =>
    rename_i wr
    obtain ⟨k, hk, rfl, HA, HB⟩ := hrel
    by_cases hlt : k < l.length
    · have hlt2 : (k : Int) < (l.length : Int) := by omega
      have hk0 : (0 : Int) ≤ (k : Int) := by omega
      obtain ⟨x, hx⟩ : ∃ x, l[k]? = some x := ⟨_, List.getElem?_eq_getElem hlt⟩
      obtain ⟨ad, Bx, cx, rfl, h0, h1, hbx, hcx⟩ := ce_at H.out hx
      obtain ⟨ea, hea⟩ : ∃ ea, ea = ad.add (k * 2) := ⟨_, rfl⟩
      rw [← hea] at h0 h1
      have q0 : wr.cell? ea = some (.int .i64 x.1) := pw_cell_below HB.out h0
      have q1 : wr.cell? ⟨ea.block, ea.off + 1, none⟩ = some (.slice Bx x.2.length cx) := pw_cell_below HB.out h1
      have hea2 := hea.symm
      have hbad : badAt l k = if x.1 < 0 ∨ 8 ≤ x.1 ∨ ((l.take k).any fun z => z.1 == x.1) = true then 1 else if 12000 < x.2.length then 5 else 0 := by unfold badAt; rw [hx]
      have HBAD := Lib.hid hbad
      obtain ⟨lk, hlk, hlkl, hCk⟩ := takeC (Kd.C_below H.out HB.out) k (by omega)
      have hcut := fun W => cutC (some ad) l.length c k (by omega) W
      have HLK := Lib.hid hlk
      have HLKL := Lib.hid hlkl
      have HCK := Lib.hid hCk
      obtain ⟨x1, x2⟩ := x
      dsimp only at q0 q1 HBAD
      clear h0 h1 hbx hcx hx hea hbad hlk hlkl hCk
      have HBW := Lib.hid (HB.out.alloc HB.out.size (.cells #[.int .i64 x1, .slice Bx x2.length cx] 61))
      have hcon := con_any 66 wr.heap.size (fun z => z == x1) eg (some ad) c lk (wr.alloc (.cells #[.int .i64 x1, .slice Bx x2.length cx] 61)) (Kd.C_alloc HCK.out _) (pred_wrong (blk_cell (heap_alloc_new wr _) 0))
      rw [HLKL.out] at hcon
      obtain ⟨dup, hdup⟩ : ∃ b, b = lk.any fun z => z.1 == x1 := ⟨_, rfl⟩
      rw [← hdup] at hcon
      rw [← HLK.out, ← hdup] at HBAD
      have HCON := Lib.hid hcon
      clear hcon hdup
      by_cases hneg : x1 < 0
      · have HK := Lib.hid (show badAt l k = 1 from by rw [HBAD.out, if_pos (.inl hneg)])
        go_wp2_with (go_at_call 61; refine (new_any _ _ _ (by decide)).mono ?_; rintro r w1 ⟨b2, rfl, hA, hB⟩; have HA1 := Lib.hid hA; have HB1 := Lib.hid hB; clear hA hB)
        go_ret
        exact ⟨_, 1, rfl, .inr ⟨by decide, _, _, rfl, HA1.out, show 1 < 16 by decide⟩, .inr ⟨by decide, k, HK.out, HA.out⟩, HBW.out.trans (HB1.out.mono HBW.out.size)⟩
      · by_cases hbig : 8 ≤ x1
        · have HK := Lib.hid (show badAt l k = 1 from by rw [HBAD.out, if_pos (.inr (.inl hbig))])
          go_wp2_with (go_at_call 61; refine (new_any _ _ _ (by decide)).mono ?_; rintro r w1 ⟨b2, rfl, hA, hB⟩; have HA1 := Lib.hid hA; have HB1 := Lib.hid hB; clear hA hB)
          go_ret
          exact ⟨_, 1, rfl, .inr ⟨by decide, _, _, rfl, HA1.out, show 1 < 16 by decide⟩, .inr ⟨by decide, k, HK.out, HA.out⟩, HBW.out.trans (HB1.out.mono HBW.out.size)⟩
        · cases dup with
          | true =>
            have HK := Lib.hid (show badAt l k = 1 from by rw [HBAD.out, if_pos (.inr (.inr rfl))])
            go_wp2_with (first
              | (go_at_call 61; refine (new_any _ _ _ (by decide)).mono ?_; rintro r w2 ⟨b2, rfl, hA, hB⟩; have HA1 := Lib.hid hA; have HB1 := Lib.hid hB; clear hA hB)
              | (go_at_call 65; refine HCON.out.mono ?_; rintro r w1 ⟨rfl, hB0⟩; have HB0 := Lib.hid (HBW.out.trans (hB0.mono HBW.out.size)); clear hB0))
            go_ret
            exact ⟨_, 1, rfl, .inr ⟨by decide, _, _, rfl, HA1.out, show 1 < 16 by decide⟩, .inr ⟨by decide, k, HK.out, HA.out⟩, HB0.out.trans (HB1.out.mono HB0.out.size)⟩
          | false =>
            have hor : ¬ (x1 < 0 ∨ 8 ≤ x1 ∨ false = true) := by rintro (h | h | h) <;> first | exact hneg h | exact hbig h | cases h
            have qb := blk_cell (heap_alloc_new wr (.cells #[.int .i64 x1, .slice Bx x2.length cx] 61)) 1
            have hqb : (wr.alloc (.cells #[.int .i64 x1, .slice Bx x2.length cx] 61)).cell? ⟨wr.heap.size, 1, none⟩ = some (.slice Bx x2.length cx) := qb
            have HQB := Lib.hid hqb
            clear qb hqb
            by_cases hlong : 12000 < x2.length
            · have HK := Lib.hid (show badAt l k = 5 from by rw [HBAD.out, if_neg hor, if_pos hlong])
              have hlong2 : (12000 : Int) < (x2.length : Int) := by omega
              clear hor
              go_wp2_with (first
                | (go_at_call 61; refine (new_any _ _ _ (by decide)).mono ?_; rintro r w2 ⟨b2, rfl, hA, hB⟩; have HA1 := Lib.hid hA; have HB1 := Lib.hid hB; clear hA hB)
                | (go_at_call 65; refine HCON.out.mono ?_; rintro r w1 ⟨rfl, hB0⟩; have HB0 := Lib.hid (HBW.out.trans (hB0.mono HBW.out.size)); have hq := pw_cell_below hB0 HQB.out; clear hB0))
              go_ret
              exact ⟨_, 5, rfl, .inr ⟨by decide, _, _, rfl, HA1.out, show 1 < 16 by decide⟩, .inr ⟨by decide, k, HK.out, HA.out⟩, HB0.out.trans (HB1.out.mono HB0.out.size)⟩
            · have HK := Lib.hid (show badAt l k = 0 from by rw [HBAD.out, if_neg hor, if_neg hlong])
              have hlong2 : ¬ (12000 : Int) < (x2.length : Int) := by omega
              clear hor
              go_wp2_with (first
                | (go_at_call 65; refine HCON.out.mono ?_; rintro r w1 ⟨rfl, hB0⟩; have HB0 := Lib.hid (HBW.out.trans (hB0.mono HBW.out.size)); have hq := pw_cell_below hB0 HQB.out; clear hB0))
              exact ⟨⟨k + 1, by omega, by simp, Lib.hid (fun j hj => by
                rcases Nat.lt_or_ge j k with h | h
                · exact HA.out j h
                · rw [show j = k from by omega]; exact HK.out), HB0⟩, by simp [intOf]; omega⟩
    · obtain rfl : k = l.length := by omega
      go_wp2_with fail
      go_ret
      refine ⟨_, 0, rfl, .inl ⟨rfl, rfl⟩, .inl ⟨rfl, fun j => ?_⟩, HB.out⟩
      rcases Nat.lt_or_ge j l.length with h | h
      · exact HA.out j h
      · unfold badAt; rw [List.getElem?_eq_none h]
end
/- lay and Put of cells, where there is room behind the others. -/
section
open Go.RowKit Go.Shelf Go.Proofs.YtfnnjgbldojigaaDoorW.PrintWords Go.Proofs.Mine Go.Proofs.Mine.Crc

theorem cel_call {w0 w : World} {bt bl bc : Nat} {s s' : TS} {ls ls' : LS} {m : Int → List UInt8} {F : Nat → Prop} {f : Nat} {args : Array Value} {Q : Ending → Prop} (h : CelIn w0 bt bl bc s ls m w F)
    (hc : ∀ FW, (∀ k, FW k → F k) → WalIn w0 bt bl s ls w FW → Calls Tryd.prog f args w fun r w' => Q r ∧ WalOut w0 bt bl s' ls' w FW w') :
    Calls Tryd.prog f args w fun r w' => Q r ∧ CelOut w0 bt bl bc s' ls' m w F w' := by
  obtain ⟨FW, FC, h1, h2, h3, h4, h5⟩ := h.parts
  refine (hc FW h1 h4).mono ?_
  rintro r w' ⟨hq, FW', g1, g2, g3⟩
  refine ⟨hq, fun k => F k ∨ FW' k, ⟨fun k hk => ?_, FW', FC, fun k hk => .inr hk, fun k hk => .inl (h2 k hk), fun k hk hf => ?_, g1, h5.keep g3 h3⟩, fun k hk => ?_, g3.mono (fun k hk _ => h1 k hk)⟩
  · rcases hk with hk | hk
    · exact ⟨(h.lt k hk).1, Nat.lt_of_lt_of_le (h.lt k hk).2 g3.size⟩
    · exact g1.lt k hk
  · rcases g2 k hf with e | e
    · exact h3 k hk e
    · have := (h5.2.1 k hk).2; omega
  · rcases hk with hk | hk
    · exact .inl hk
    · exact (g2 k hk).imp_left (h1 k)
theorem CelIn.box {w0 w : World} {bt bl bc : Nat} {s : TS} {ls : LS} {m : Int → List UInt8} {F : Nat → Prop} (h : CelIn w0 bt bl bc s ls m w F) : w.cell? ⟨bc, 0, none⟩ = some (.pointer (some ⟨bl, 0, none⟩)) := by
  obtain ⟨FW, FC, h1, h2, h3, h4, h5⟩ := h.parts
  obtain ⟨B, hb, _⟩ := h5.box
  exact blk_cell hb 0
theorem cel_append (A : Option Addr) (c : Nat) (x : List UInt8) (w0 w : World) (bt bl bc : Nat) (room ops : Int) (rs : List (List UInt8)) (sy : Nat) (m : Int → List UInt8) (F : Nat → Prop) (h : CelIn w0 bt bl bc (gs room rs sy ops) (gl rs) m w F) (ho : ops < 1000000000) (hx : Bytes w A x) (hxl : x.length ≤ 65536) (hxB : Off F A x.length) (hr : rs.length ≤ 1000000) (hroom : ((framesOf rs).length : Int) + (x.length : Int) + 8 ≤ room) :
    Calls Tryd.prog 18 #[.pointer (some ⟨bl, 0, none⟩), .slice A x.length c] w fun r w' => r = .returned (.int .i64 0) ∧ CelOut w0 bt bl bc (gs room (rs ++ [x]) sy (ops + 1)) (gl (rs ++ [x])) m w F w' :=
  cel_call h (fun FW hF hW => cal_append A c x w0 w bt bl room ops rs sy FW hW ho hx hxl (fun hp a ha hf => hxB hp a ha (hF _ hf)) hr hroom)
theorem cel_sync (w0 w : World) (bt bl bc : Nat) (room ops : Int) (rs : List (List UInt8)) (sy : Nat) (m : Int → List UInt8) (F : Nat → Prop) (h : CelIn w0 bt bl bc (gs room rs sy ops) (gl rs) m w F) (ho : ops < 1000000000) :
    Calls Tryd.prog 24 #[.pointer (some ⟨bl, 0, none⟩)] w fun r w' => r = .returned (.int .i64 0) ∧ CelOut w0 bt bl bc (gs room rs (framesOf rs).length (ops + 1)) (gl rs) m w F w' :=
  cel_call h (fun FW hF hW => cal_sync w0 w bt bl room ops rs sy FW hW ho)
theorem cel_size (w0 w : World) (bt bl bc : Nat) (s : TS) (rs : List (List UInt8)) (m : Int → List UInt8) (F : Nat → Prop) (h : CelIn w0 bt bl bc s (gl rs) m w F) :
    Calls Tryd.prog 26 #[.pointer (some ⟨bl, 0, none⟩)] w fun r w' => r = .returned (.int .i64 ((framesOf rs).length : Int)) ∧ w = w' := by
  obtain ⟨FW, FC, h1, h2, h3, h4, h5⟩ := h.parts
  exact cal_size w0 w bt bl s rs FW h4
set_option maxRecDepth 100000 in
set_option maxHeartbeats 2000000 in
theorem lay_app (A : Option Addr) (c : Nat) (l : List Ce) (w0 w : World) (bt bl bc : Nat) (room ops : Int) (rs : List (List UInt8)) (sy : Nat) (m : Int → List UInt8) (F : Nat → Prop) (h : CelIn w0 bt bl bc (gs room rs sy ops) (gl rs) m w F) (ho : ops < 1000000)
    (hl : ceK.C w A l.length l) (hok : CesOk l) (hll : l.length ≤ 1000000) (h6 : (writeOf l).length ≤ 65536) (hr : rs.length ≤ 1000000) (hz : (framesOf rs).length + 8 + (writeOf l).length ≤ 199000) (hroom : 199000 ≤ room) :
    Calls Tryd.prog 55 #[.pointer (some ⟨bc, 0, none⟩), .slice A l.length c] w fun r w' => r = .returned .nilIface ∧ CelOut w0 bt bl bc (gs room (rs ++ [writeOf l]) (framesOf (rs ++ [writeOf l])).length (ops + 2)) (gl (rs ++ [writeOf l])) m w F w' := by
  have HI := Lib.hid h
  have HL := Lib.hid hl
  have HOK := Lib.hid hok
  obtain ⟨b, hb⟩ : ∃ b, b = writeOf l := ⟨_, rfl⟩
  rw [← hb] at h6 hz ⊢
  have hwr := write_any A c l w hl hok hll
  rw [← hb] at hwr
  have HWR := Lib.hid hwr
  obtain ⟨z, hzz⟩ : ∃ z, z = (framesOf rs).length := ⟨_, rfl⟩
  rw [← hzz] at hz
  have HZ := Lib.hid hzz
  have HR := Lib.hid hr
  have hz2 : (z : Int) + 8 + (b.length : Int) ≤ 199000 := by omega
  have h62 : (b.length : Int) ≤ 65536 := by omega
  clear h hl hok hb hwr hzz hr
  go_enter Tryd.func55, Tryd.ntmps55
  go_wp2_with (first
    | (go_at_call 24; refine (cel_sync w0 w4 bt bl bc room (ops + 1) _ sy m F4 HI4.out (by omega)).mono ?_; rintro r w5 ⟨rfl, F5, hI5, hF5, hK5⟩
       have HO5 := Lib.hid (CelOut.after HF4.out HK4.out ⟨F5, hI5, hF5, hK5⟩)
       have HI5 := Lib.hid hI5
       clear hI5 hF5 hK5)
    | (go_at_call 18; refine (cel_append Ab cb b w0 w1 bt bl bc room ops rs sy m F HI1.out (by omega) HX.out (by omega) HOFF.out HR.out (by rw [← HZ.out]; omega)).mono ?_; rintro r w4 ⟨rfl, F4, hI4, hF4, hK4⟩
       have HI4 := Lib.hid hI4
       have HF4 := Lib.hid (fun k hk => (hF4 k hk).imp_right (fun e => Nat.le_trans HB1.out.size e))
       have HK4 := Lib.hid ((Keep.of_below HB1.out F).trans hK4 (fun k hk => .inl hk))
       have hbox4 := hI4.box
       clear hI4 hF4 hK4)
    | (go_at_call 26; refine (cel_size w0 w1 bt bl bc _ rs m F HI1.out).mono ?_; rintro r w2 ⟨rfl, rfl⟩; rw [← HZ.out])
    | (go_at_call 61; refine (new_zero _ _).mono ?_; rintro r w3 ⟨rfl, rfl⟩)
    | (go_at_call 67; refine HWR.out.mono ?_; rintro r w1 ⟨v1, rfl, hO, hB1⟩
       obtain ⟨Ab, cb, rfl⟩ := own_slice hO
       have HI1 := Lib.hid (HI.out.to hB1)
       have HX := Lib.hid (own_reads8 hO).1
       have HB1 := Lib.hid hB1
       have HOFF := Lib.hid (show Off F Ab b.length from fun hp a ha hf => by
         have h1 := own_base hO a.block (by rw [show Ab = some a from ha]; rfl)
         have := (HI.out.lt _ hf).2
         omega)
       have hbox := HI1.out.box
       clear hO hB1))
  go_ret
  exact ⟨rfl, by have := HO5.out; rwa [show ops + 1 + 1 = ops + 2 from by omega] at this⟩
theorem WrongIs.one {l : List Ce} {E E' : Int} (h : WrongIs l E) (h' : WrongIs l E') : E = E' := by
  rcases h with ⟨rfl, h⟩ | ⟨h0, k, hk, h⟩ <;> rcases h' with ⟨rfl, h'⟩ | ⟨h0', k', hk', h'⟩
  · rfl
  · exact absurd (hk'.symm.trans (h k')) h0'
  · exact absurd (hk.symm.trans (h' k)) h0
  · rcases Nat.lt_trichotomy k k' with e | e | e
    · exact absurd (hk.symm.trans (h' k e)) h0
    · subst e; exact hk.symm.trans hk'
    · exact absurd (hk'.symm.trans (h k' e)) h0'
theorem wrong_ok {l : List Ce} (h : WrongIs l 0) : ∀ x ∈ l, CeOk x := by
  intro x hx
  obtain ⟨k, hk⟩ := List.mem_iff_getElem?.1 hx
  have hb : badAt l k = 0 := by
    rcases h with ⟨_, h⟩ | ⟨h0, _⟩
    · exact h k
    · exact absurd rfl h0
  unfold badAt at hb
  rw [hk] at hb
  dsimp only at hb
  split at hb
  · cases hb
  · rename_i h1
    split at hb
    · cases hb
    · rename_i h2
      exact ⟨by omega, by omega, by omega⟩
theorem wrong_ces {l : List Ce} (h : WrongIs l 0) : CesOk l := fun x hx => by obtain ⟨h1, h2, h3⟩ := wrong_ok h x hx; exact ⟨h1, by omega, by omega⟩
set_option maxRecDepth 100000 in
set_option maxHeartbeats 2000000 in
theorem put_bad (A : Option Addr) (c : Nat) (l : List Ce) (E : Int) (bc : Nat) (w : World) (hg : Laid w) (hl : ceK.C w A l.length l) (hc : l.length ≤ c) (hE : WrongIs l E) (h0 : E ≠ 0) :
    Calls Tryd.prog 34 #[.pointer (some ⟨bc, 0, none⟩), .slice A l.length c] w fun r w' => r = .returned (.int .i64 E) ∧ Below w.heap.size w w' := by
  have HG := Lib.hid hg
  have HWR := Lib.hid (wrong_any A c l w hl hc)
  have HE := Lib.hid hE
  clear hg hl hE
  go_enter Tryd.func34, Tryd.ntmps34
  go_wp2_with (first
    | (go_at_call 54; refine (kind_at_num b1 E w1 HG1.out HA1.out h0).mono ?_; rintro r w2 ⟨rfl, hB2⟩; have HB2 := Lib.hid hB2; clear hB2)
    | (go_at_call 53; refine HWR.out.mono ?_; rintro r w1 ⟨ev, E', rfl, hEV, hW, hB1⟩
       obtain rfl : E = E' := HE.out.one hW
       obtain ⟨b1, ps, rfl, hA⟩ := hEV.some h0
       have HA1 := Lib.hid (show w1.cell? ⟨b1, 1, none⟩ = some (.iface 25 (.int .i64 E)) from AtIs.err hA)
       have HG1 := Lib.hid (HG.out.below hB1)
       have HB1 := Lib.hid hB1
       clear hEV hW hA hB1))
  go_ret
  exact ⟨rfl, HB1.out.trans (HB2.out.mono HB1.out.size)⟩
/-- A row of cells that stays while F's blocks are written. -/
def CeRow (w : World) (F : Nat → Prop) (A : Option Addr) (l : List Ce) : Prop := ∀ W, Keep F w W → ceK.C W A l.length l
theorem CeRow.below {w w1 : World} {F : Nat → Prop} {A : Option Addr} {l : List Ce} (h : CeRow w F A l) (hB : Below w.heap.size w w1) : CeRow w1 F A l := fun W k => h W ((Keep.of_below hB F).trans k (fun _ h => .inl h))
theorem CeRow.now {w : World} {F : Nat → Prop} {A : Option Addr} {l : List Ce} (h : CeRow w F A l) : ceK.C w A l.length l := h w (Keep.refl _ _)
set_option maxRecDepth 100000 in
set_option maxHeartbeats 2000000 in
theorem put_ok (A : Option Addr) (c : Nat) (l : List Ce) (w0 w : World) (bt bl bc : Nat) (s s' : TS) (ls ls' : LS) (m : Int → List UInt8) (F : Nat → Prop) (h : CelIn w0 bt bl bc s ls m w F) (hl : CeRow w F A l) (hc : l.length ≤ c) (hE : WrongIs l 0) (hne : 0 < l.length)
    (hlay : ∀ W, Below w.heap.size w W → Calls Tryd.prog 55 #[.pointer (some ⟨bc, 0, none⟩), .slice A l.length c] W fun r w' => r = .returned .nilIface ∧ CelOut w0 bt bl bc s' ls' m W F w') :
    Calls Tryd.prog 34 #[.pointer (some ⟨bc, 0, none⟩), .slice A l.length c] w fun r w' => r = .returned (.int .i64 0) ∧ CelOut w0 bt bl bc s' ls' (putAll m l) w F w' := by
  have HI := Lib.hid h
  have HWR := Lib.hid (wrong_any A c l w hl.now hc)
  have HE := Lib.hid hE
  have HL := Lib.hid hl
  have HLAY := Lib.hid hlay
  have hmx := hl.now.2.1
  have hl0 : ((l.length : Int) == 0) = false := beq_eq_false_iff_ne.mpr (by omega)
  have HOK := Lib.hid (wrong_ces hE)
  clear h hl hE hlay
  go_enter Tryd.func34, Tryd.ntmps34
  go_wp2_with (first
    | (go_at_call 41; refine (wrap_nil _ w2).mono ?_; rintro r w3 ⟨rfl, rfl⟩)
    | (go_at_call 55; refine (HLAY.out w1 HB1.out).mono ?_; rintro r w2 ⟨rfl, hO2⟩
       have HO2 := Lib.hid (CelOut.from HB1.out hO2)
       clear hO2)
    | (go_at_call 53; refine HWR.out.mono ?_; rintro r w1 ⟨ev, E', rfl, hEV, hW, hB1⟩
       obtain rfl : 0 = E' := HE.out.one hW
       obtain rfl := hEV.nil rfl
       have HB1 := Lib.hid hB1
       clear hEV hW hB1))
  go_loopw [8, 28] (fun _ iv wr => ∃ (k : Nat), k ≤ l.length ∧ iv = .int .i64 (k : Int) ∧ RowKit.Hid (CelOut w0 bt bl bc s' ls' (putAll m (l.take k)) w F wr)) (fun _ iv _ => l.length - (intOf iv).toNat)
  case atStart => exact ⟨0, by omega, rfl, Lib.hid (by rw [List.take_zero]; exact HO2.out)⟩
  case round =>
    rename_i wr
    obtain ⟨k, hk, rfl, HT⟩ := hrel
    by_cases hlt : k < l.length
    · have hlt2 : (k : Int) < (l.length : Int) := by omega
      have hk0 : (0 : Int) ≤ (k : Int) := by omega
      obtain ⟨x, hx⟩ : ∃ x, l[k]? = some x := ⟨_, List.getElem?_eq_getElem hlt⟩
      obtain ⟨Fk, hIk, hFk, hKk⟩ := HT.out
      obtain ⟨ad, Bx, cx, rfl, h0, h1, hbx, hcx⟩ := ce_at (HL.out wr hKk) hx
      obtain ⟨FW, FC, g1, g2, g3, g4, g5⟩ := hIk.parts
      obtain ⟨BM, hbox, _⟩ := g5.box
      obtain ⟨ea, hea⟩ : ∃ ea, ea = ad.add (k * 2) := ⟨_, rfl⟩
      rw [← hea] at h0 h1
      have hea2 := hea.symm
      obtain ⟨hx0, hx1, hx2⟩ := HOK.out x (List.mem_of_getElem? hx)
      have HP := Lib.hid (putAll_take m hx)
      have HX0 := Lib.hid hbx
      have HG3 := Lib.hid g3
      have HG4 := Lib.hid g4
      have HG5 := Lib.hid g5
      have HG1 := Lib.hid g1
      have HG2 := Lib.hid g2
      have HFK := Lib.hid hFk
      have HKK := Lib.hid hKk
      have HBOX := Lib.hid hbox
      have HBW := Lib.hid g4.below.size
      have HIK := Lib.hid hIk
      obtain ⟨x1, x2⟩ := x
      dsimp only at h0 h1 hx2 HX0 HP
      clear hx hbx hcx g1 g2 g3 g4 g5 hFk hKk hIk hbox hx0 hx1 hea HT
      go_wp2_with fail
      obtain ⟨w4, hw4⟩ : ∃ z, z = wr.alloc (.cells #[.int .i64 x1, .slice Bx x2.length cx] 61) := ⟨_, rfl⟩
      rw [← hw4]
      have hbox4 : w4.heap[wr.heap.size]? = some (.cells #[.int .i64 x1, .slice Bx x2.length cx] 61 (0, 0)) := by rw [hw4]; exact heap_alloc_new wr _
      have hB4 : Below wr.heap.size wr w4.drew := by rw [hw4]; exact ((Below.refl _ wr).alloc (Nat.le_refl _) _).drew
      have qb0 : w4.drew.cell? ⟨wr.heap.size, 0, none⟩ = some (.int .i64 x1) := blk_cell (w := w4.drew) hbox4 0
      have qb1 : w4.drew.cell? ⟨wr.heap.size, 1, none⟩ = some (.slice Bx x2.length cx) := blk_cell (w := w4.drew) hbox4 1
      have hm : w4.drew.cell? ⟨bc, 1, none⟩ = some (.map (some BM)) := blk_cell (blk_below HBOX.out hB4) 1
      have HC4 := Lib.hid (HG5.out.below hB4)
      have HX := Lib.hid (HX0.out.below hB4)
      have HB4 := Lib.hid hB4
      clear hw4 hbox4 hB4 h0 h1
      obtain ⟨pc, hpc⟩ : ∃ pc, pc = wr.heap.size := ⟨_, rfl⟩
      rw [← hpc] at qb0 qb1 ⊢
      clear hpc
      refine wp_region_noPanic ?_
      refine wp_region_held_drew (S := (fun w' => w'.cell? ⟨bc, 1, none⟩ = some (.map (some BM)) ∧ w'.cell? ⟨pc, 0, none⟩ = some (.int .i64 x1) ∧ w'.cell? ⟨pc, 1, none⟩ = some (.slice Bx x2.length cx))) (by kernel_rfl) ?pus0 (fun hHeld0 => ?pur0)
      case pus0 => (try dsimp only); exact ⟨hm, qb0, qb1⟩
      refine wpAnyH_take (i := 0) (v := ?vpu1) (by simp only [List.getElem?_toArray, List.getElem?_cons_zero, List.getElem?_cons_succ]; rfl) (by kernel_rfl) (by kernel_rfl) (by kernel_rfl) (fun _ _ _ h => h) (Or.inl ⟨by rfl, ?hpu1⟩) hHeld0 ?qpu1
      case hpu1 => (intro w hSw; (try dsimp only at hSw); go_simp <;> with_reducible rfl)
      try simp only [Act.put, List.setIfInBounds_toArray, List.set_cons_zero, List.set_cons_succ]
      refine wpAnyH_take (i := 1) (v := ?vpu2) (by simp only [List.getElem?_toArray, List.getElem?_cons_zero, List.getElem?_cons_succ]; rfl) (by kernel_rfl) (by kernel_rfl) (by kernel_rfl) (fun _ _ _ h => h) (Or.inl ⟨by rfl, ?hpu2⟩) hHeld0 ?qpu2
      case hpu2 => (intro w hSw; (try dsimp only at hSw); go_simp <;> with_reducible rfl)
      try simp only [Act.put, List.setIfInBounds_toArray, List.set_cons_zero, List.set_cons_succ]
      refine wpAnyH_take (i := 2) (v := ?vpu3) (by simp only [List.getElem?_toArray, List.getElem?_cons_zero, List.getElem?_cons_succ]; rfl) (by kernel_rfl) (by kernel_rfl) (by kernel_rfl) (fun _ _ _ h => h) (Or.inl ⟨by rfl, ?hpu3⟩) hHeld0 ?qpu3
      case hpu3 => (intro w hSw; (try dsimp only at hSw); go_simp <;> with_reducible rfl)
      try simp only [Act.put, List.setIfInBounds_toArray, List.set_cons_zero, List.set_cons_succ]
      refine wpAnyH_take (i := 3) (v := ?vpu4) (by simp only [List.getElem?_toArray, List.getElem?_cons_zero, List.getElem?_cons_succ]; rfl) (by kernel_rfl) (by kernel_rfl) (by kernel_rfl) (fun _ _ _ h => h) (Or.inl ⟨by rfl, ?hpu4⟩) hHeld0 ?qpu4
      case hpu4 => (intro w hSw; (try dsimp only at hSw); go_simp <;> with_reducible rfl)
      try simp only [Act.put, List.setIfInBounds_toArray, List.set_cons_zero, List.set_cons_succ]
      refine wpAnyH_take (i := 4) (v := ?vpu5) (by simp only [List.getElem?_toArray, List.getElem?_cons_zero, List.getElem?_cons_succ]; rfl) (by kernel_rfl) (by kernel_rfl) (by kernel_rfl) (fun _ _ _ h => h) (Or.inl ⟨by rfl, ?hpu5⟩) hHeld0 ?qpu5
      case hpu5 => (intro w hSw; (try dsimp only at hSw); go_simp <;> with_reducible rfl)
      try simp only [Act.put, List.setIfInBounds_toArray, List.set_cons_zero, List.set_cons_succ]
      refine wpAnyH_take (i := 5) (v := ?vpu6) (by simp only [List.getElem?_toArray, List.getElem?_cons_zero, List.getElem?_cons_succ]; rfl) (by kernel_rfl) (by kernel_rfl) (by kernel_rfl) (fun _ _ _ h => h) (Or.inl ⟨by rfl, ?hpu6⟩) hHeld0 ?qpu6
      case hpu6 => (intro w hSw; (try dsimp only at hSw); go_simp <;> with_reducible rfl)
      try simp only [Act.put, List.setIfInBounds_toArray, List.set_cons_zero, List.set_cons_succ]
      refine wpAnyH_take (i := 6) (v := ?vpu7) (by simp only [List.getElem?_toArray, List.getElem?_cons_zero, List.getElem?_cons_succ]; rfl) (by kernel_rfl) (by kernel_rfl) (by kernel_rfl) (fun _ _ _ h => h) (Or.inl ⟨by rfl, ?hpu7⟩) hHeld0 ?qpu7
      case hpu7 => (intro w hSw; (try dsimp only at hSw); go_simp <;> with_reducible rfl)
      try simp only [Act.put, List.setIfInBounds_toArray, List.set_cons_zero, List.set_cons_succ]
      refine wpAnyH_take (i := 7) (v := ?vpu8) (by simp only [List.getElem?_toArray, List.getElem?_cons_zero, List.getElem?_cons_succ]; rfl) (by kernel_rfl) (by kernel_rfl) (by kernel_rfl) (fun _ _ _ h => h) (Or.inl ⟨by rfl, ?hpu8⟩) hHeld0 ?qpu8
      case hpu8 => (intro w hSw; (try dsimp only at hSw); go_simp <;> with_reducible rfl)
      try simp only [Act.put, List.setIfInBounds_toArray, List.set_cons_zero, List.set_cons_succ]
      refine wpAnyH_ready (rs := [8]) (by kernel_rfl) (by simp) ?_
      refine AllReadyH.cons (by simp only [List.getElem?_toArray, List.getElem?_cons_zero, List.getElem?_cons_succ]; rfl) (fun K hK => ?_) AllReadyH.nil
      go_simp
      go_at_call 49
      refine (clone8_any Bx _ cx x2 _ HX.out (by omega)).mono ?_
      rintro r w5 ⟨v5, rfl, hO, hB5⟩
      obtain ⟨A5, c5, rfl⟩ := own_slice hO
      have hC5 := HC4.out.below hB5
      have HO5 := Lib.hid hO
      have HB5 := Lib.hid hB5
      refine hK.out _ _ ?spu9 (fun hHeld1 => ?qpu9)
      case spu9 => (try dsimp only); exact ⟨pw_cell_below HB5.out hm, pw_cell_below HB5.out qb0, pw_cell_below HB5.out qb1⟩
      clear hK K
      try simp only [Act.put, List.setIfInBounds_toArray, List.set_cons_zero, List.set_cons_succ]
      refine wpAnyH_ready (rs := [9]) (by kernel_rfl) (by simp) ?_
      refine AllReadyH.cons (by simp only [List.getElem?_toArray, List.getElem?_cons_zero, List.getElem?_cons_succ]; rfl) (fun K hK => ?_) AllReadyH.nil
      obtain ⟨B6, w6, hb6, hrun, hTo, hcl6⟩ := hC5.put (w := wr) (G := FC) x1 ⟨A5, c5, x2⟩ (own_reads8 HO5.out).1 (own_reads8 HO5.out).2 (by show x2.length ≤ 65535; exact hx2) (fun hp a ha => by
        have h1 := own_base HO5.out a.block (by rw [show A5 = some a from ha]; rfl)
        exact Nat.le_trans HB4.out.size h1) HBW.out (fun k hk => .inl hk) ((Keep.of_below HB4.out FC).trans (Keep.of_below HB5.out (fun _ => False)) (fun _ h => h.elim))
      obtain rfl : B6 = BM := by
        have e1 := blk_cell hb6 1
        have e2 := hHeld1.1
        rw [e1] at e2
        simpa using e2
      have hrun' : (Instr.mapUpdate 93 (.map (some B6)) (.int .i64 x1) (.slice A5 x2.length c5)).run Tryd.prog w5 = .ok () w6 := hrun
      clear hrun
      go_simp
      refine hK.out _ _ ?spu10 (fun hHeld2 => ?qpu10)
      case spu10 => (try dsimp only); exact ⟨hcl6 _ _ hHeld1.1, hcl6 _ _ hHeld1.2.1, hcl6 _ _ hHeld1.2.2⟩
      clear hK K
      try simp only [Act.put, List.setIfInBounds_toArray, List.set_cons_zero, List.set_cons_succ]
      refine wpAnyH_done (by kernel_rfl) ?_ _
      refine NoPanic.normal ?_
      obtain ⟨F6, j1, j2, j3⟩ := cel_join HG4.out HG5.out HG3.out hTo
      have HT6 : RowKit.Hid (CelOut w0 bt bl bc s' ls' (putM (putAll m (l.take k)) x1 x2) w F w6) := Lib.hid (CelOut.after HFK.out HKK.out ⟨F6, j1, fun k hk => by
        rcases j2 k hk with e | e | e
        · exact .inl (HG1.out k e)
        · exact .inl (HG2.out k e)
        · exact .inr e, j3.mono (fun k hk _ => HG2.out k hk)⟩)
      clear hTo hcl6 hrun' hb6 j1 j2 j3 hC5
      go_wp2_with fail
      exact ⟨⟨k + 1, by omega, by simp, Lib.hid (by rw [HP.out]; exact HT6.out)⟩, by simp [intOf]; omega⟩
    · obtain rfl : k = l.length := by omega
      rw [List.take_length] at HT
      go_wp2_with fail
      go_ret
      exact ⟨rfl, HT.out⟩
end
/- Rows of cells that are laid; known. -/
section
open Go.RowKit Go.Shelf Go.Proofs.YtfnnjgbldojigaaDoorW.PrintWords Go.Proofs.Mine Go.Proofs.Mine.Crc

theorem ceRow_of {w : World} {F : Nat → Prop} {g : Nat} {l : List Ce} (hg : ¬ F g) (hlen : l.length ≤ 9223372036854775807)
    (h : ∀ j p, l[j]? = some p → ∃ B c, w.cell? ⟨g, j * 2, none⟩ = some (.int .i64 p.1) ∧ w.cell? ⟨g, j * 2 + 1, none⟩ = some (.slice B p.2.length c) ∧ Bytes w B p.2 ∧ p.2.length ≤ c ∧ Off F B p.2.length) : CeRow w F (some ⟨g, 0, none⟩) l := by
  intro W k
  refine ⟨rfl, hlen, fun _ => ⟨_, rfl, fun j p hp => ?_⟩⟩
  obtain ⟨B, c, h0, h1, hb, hle, ho⟩ := h j p hp
  refine ⟨[.int .i64 p.1, .slice B p.2.length c], rfl, ⟨[.int .i64 p.1], [.slice B p.2.length c], rfl, rfl, B, c, rfl, hle, Kd.C_of_reads (d := (0 : UInt8)) (bytes_away hb k ho)⟩, fun i u hu => ?_⟩
  have hk0 := k.cell h0 hg
  have hk1 := k.cell h1 hg
  rw [add_plain]
  show W.cell? ⟨g, j * 2 + i, none⟩ = some u
  match i, hu with
  | 0, hu => injection hu with hu; subst hu; exact hk0
  | 1, hu => injection hu with hu; subst hu; exact hk1
  | i + 2, hu => simp at hu
theorem ceRow_one {w : World} {F : Nat → Prop} {g t : Nat} {fr : Nat × Nat} {n : Int} {x : List UInt8} {B : Option Addr} {c : Nat} (hb : w.heap[g]? = some (.cells #[.int .i64 n, .slice B x.length c] t fr)) (hg : ¬ F g) (hx : Bytes w B x) (hc : x.length ≤ c) (ho : Off F B x.length) : CeRow w F (some ⟨g, 0, none⟩) [(n, x)] := by
  refine ceRow_of hg (show 1 ≤ _ by decide) (fun j p hp => ?_)
  match j, hp with
  | 0, hp =>
    injection hp with hp
    subst hp
    exact ⟨B, c, cell_of_row w g 0 _ t fr hb, cell_of_row w g 1 _ t fr hb, hx, hc, ho⟩
  | j + 1, hp => simp at hp
theorem ceRow_two {w : World} {F : Nat → Prop} {g t : Nat} {fr : Nat × Nat} {n n' : Int} {x x' : List UInt8} {B B' : Option Addr} {c c' : Nat} (hb : w.heap[g]? = some (.cells #[.int .i64 n, .slice B x.length c, .int .i64 n', .slice B' x'.length c'] t fr)) (hg : ¬ F g) (hx : Bytes w B x) (hc : x.length ≤ c) (ho : Off F B x.length) (hx' : Bytes w B' x') (hc' : x'.length ≤ c') (ho' : Off F B' x'.length) : CeRow w F (some ⟨g, 0, none⟩) [(n, x), (n', x')] := by
  refine ceRow_of hg (show 2 ≤ _ by decide) (fun j p hp => ?_)
  match j, hp with
  | 0, hp =>
    injection hp with hp
    subst hp
    exact ⟨B, c, cell_of_row w g 0 _ t fr hb, cell_of_row w g 1 _ t fr hb, hx, hc, ho⟩
  | 1, hp =>
    injection hp with hp
    subst hp
    exact ⟨B', c', cell_of_row w g 2 _ t fr hb, cell_of_row w g 3 _ t fr hb, hx', hc', ho'⟩
  | j + 2, hp => simp at hp
/-- A row that is put, where there is room. -/
theorem put_app (A : Option Addr) (c : Nat) (l : List Ce) (w0 w : World) (bt bl bc : Nat) (ops : Int) (rs : List (List UInt8)) (sy : Nat) (m : Int → List UInt8) (F : Nat → Prop) (h : CelIn w0 bt bl bc (gs 400000 rs sy ops) (gl rs) m w F) (ho : ops < 1000000)
    (hl : CeRow w F A l) (hc : l.length ≤ c) (hE : WrongIs l 0) (hne : 0 < l.length) (hll : l.length ≤ 1000) (h6 : (writeOf l).length ≤ 65536) (hr : rs.length ≤ 1000000) (hz : (framesOf rs).length + 8 + (writeOf l).length ≤ 199000) :
    Calls Tryd.prog 34 #[.pointer (some ⟨bc, 0, none⟩), .slice A l.length c] w fun r w' => r = .returned (.int .i64 0) ∧ CelOut w0 bt bl bc (gs 400000 (rs ++ [writeOf l]) (framesOf (rs ++ [writeOf l])).length (ops + 2)) (gl (rs ++ [writeOf l])) (putAll m l) w F w' :=
  put_ok A c l w0 w bt bl bc _ _ _ _ m F h hl hc hE hne (fun W hB => lay_app A c l w0 W bt bl bc 400000 ops rs sy m F (h.to hB) ho (hl.below hB).now (wrong_ces hE) (by omega) h6 hr hz (by decide))
/-- Cells opened on an empty tape. -/
theorem copen_new (w0 w : World) (bt : Nat) (F : Nat → Prop) (h : TapeIn w0 bt (gs 400000 [] 0 0) w F) :
    Calls Tryd.prog 32 #[.pointer (some ⟨bt, 0, none⟩)] w fun r w' => ∃ bl bc F' o, r = .returned (.tuple #[.pointer (some ⟨bc, 0, none⟩), .int .i64 0]) ∧ CelIn w0 bt bl bc (gs 400000 [] 0 o) (gl []) noM w' F' ∧ 0 ≤ o ∧ o ≤ 1 ∧ (∀ k, F' k → F k ∨ w.heap.size ≤ k) ∧ Keep F w w' :=
  copen_any w0 w bt 400000 0 [] 0 F (cal_open w0 w bt 400000 0 [] 0 F h (by decide) (by simp) (by simp [framesOf])) (by decide) (by simp)
theorem frames_one (x : List UInt8) : (framesOf [x]).length = x.length + 8 := by simp [framesOf, frameOf_length]
theorem one_fine {n : Int} {x : List UInt8} (h0 : 0 ≤ n) (h8 : n < 8) (hx : x.length ≤ 12000) : WrongIs [(n, x)] 0 := by
  refine .inl ⟨rfl, fun k => ?_⟩
  match k with
  | 0 =>
    show (if n < 0 ∨ 8 ≤ n ∨ (([(n, x)] : List Ce).take 0).any (fun z => z.1 == n) = true then (1 : Int) else if 12000 < x.length then 5 else 0) = 0
    rw [if_neg (by rintro (h | h | h) <;> first | omega | cases h), if_neg (by omega)]
  | k + 1 => rfl
theorem writeOf_one (n : Int) (x : List UInt8) : (writeOf [(n, x)]).length = x.length + 3 := by simp [writeOf, ceW_len]
theorem writeOf_one' (n : Int) (x : List UInt8) : writeOf [(n, x)] = ceW (n, x) := by simp [writeOf]
/-- One cell, laid for the call. -/
theorem put_lit (g : Nat) (n : Int) (x : List UInt8) (B : Option Addr) (c k : Nat) (w0 w : World) (bt bl bc : Nat) (ops : Int) (rs : List (List UInt8)) (sy : Nat) (m : Int → List UInt8) (F : Nat → Prop) (h : CelIn w0 bt bl bc (gs 400000 rs sy ops) (gl rs) m w F) (ho : ops < 1000000)
    (h0 : 0 ≤ n) (h8 : n < 8) (hk : x.length = k) (hxl : k ≤ 12000) (hx : Bytes w B x) (hc : k ≤ c) (hoff : Off F B x.length) (hr : rs.length ≤ 1000000) (hz : (framesOf rs).length + 11 + k ≤ 199000) (hg : g = w.heap.size) :
    Calls Tryd.prog 34 #[.pointer (some ⟨bc, 0, none⟩), .slice (some ⟨g, 0, none⟩) 1 1] (w.alloc (.cells #[.int .i64 n, .slice B k c] 61)) fun r w' => r = .returned (.int .i64 0) ∧ CelOut w0 bt bl bc (gs 400000 (rs ++ [writeOf [(n, x)]]) (framesOf (rs ++ [writeOf [(n, x)]])).length (ops + 2)) (gl (rs ++ [writeOf [(n, x)]])) (putM m n x) w F w' := by
  subst hk
  subst hg
  have hB : Below w.heap.size w (w.alloc (.cells #[.int .i64 n, .slice B x.length c] 61)) := (Below.refl _ _).alloc (Nat.le_refl _) _
  have hrow : CeRow (w.alloc (.cells #[.int .i64 n, .slice B x.length c] 61)) F (some ⟨w.heap.size, 0, none⟩) [(n, x)] :=
    ceRow_one (heap_alloc_new w _) (fun hf => by have := (h.lt _ hf).2; omega) (hx.below hB) hc hoff
  refine (put_app _ 1 [(n, x)] w0 _ bt bl bc ops rs sy m F (h.to hB) ho hrow (Nat.le_refl _) (one_fine h0 h8 hxl) (show 0 < 1 by decide) (show 1 ≤ 1000 by decide) (by rw [writeOf_one]; omega) hr (by rw [writeOf_one]; omega)).mono ?_
  rintro r w' ⟨rfl, hO⟩
  exact ⟨rfl, CelOut.from hB hO⟩
/-- Cells opened again, nothing being lost. -/
theorem copen_again (w0 w : World) (bt : Nat) (recs : List (List Ce)) (ops : Int) (F : Nat → Prop) (h : TapeIn w0 bt (cs 400000 (recs.map writeOf) (framesOf (recs.map writeOf)).length ops) w F) (ho : ops < 1000000000) (hok : ∀ r ∈ recs, CesOk r ∧ (writeOf r).length ≤ 65536) (hl : (framesOf (recs.map writeOf)).length ≤ 1000000) :
    Calls Tryd.prog 32 #[.pointer (some ⟨bt, 0, none⟩)] w fun r w' => ∃ bl bc F' o, r = .returned (.tuple #[.pointer (some ⟨bc, 0, none⟩), .int .i64 0]) ∧ CelIn w0 bt bl bc (gs 400000 (recs.map writeOf) (endOf (recs.map writeOf) (recs.map writeOf).length) o) (gl (recs.map writeOf)) (putAll noM recs.flatten) w' F' ∧ ops ≤ o ∧ o ≤ ops + 1 ∧ (∀ k, F' k → F k ∨ w.heap.size ≤ k) ∧ Keep F w w' := by
  have h1 := cal_reopen w0 w bt 400000 ops (recs.map writeOf) _ F h ho (fun r hr => by obtain ⟨z, hz, rfl⟩ := List.mem_map.1 hr; exact (hok z hz).2) hl (Nat.le_refl _)
  rw [wholeOf_all, List.take_length] at h1
  refine copen_any w0 w bt 400000 ops recs _ F h1 ?_ hok
  have := frames_rows (recs.map writeOf)
  rw [List.length_map] at this
  omega
set_option maxRecDepth 100000 in
set_option maxHeartbeats 2000000 in
theorem known5_any (w : World) (hg0 : Laid w) : Calls Tryd.prog 31 #[] w fun e w' => e = .returned (.bool true) ∧ Below w.heap.size w w' := by
  have HG := Lib.hid hg0
  have kc := fun (w : World) (C : Array Value) (n c : Nat) => Lib.run_convert_bytes_const (P := Tryd.prog) w 32 5 C n c Tryd.underlying32 Tryd.underlying5
  clear hg0
  obtain ⟨SA, hSA⟩ : ∃ z, z = strB [120] := ⟨_, rfl⟩
  have hz : (SA.toList == [120]) = true := by rw [hSA]; decide +kernel
  have HSA := Lib.hid hSA
  clear hSA

  go_enter Tryd.func31, Tryd.ntmps31
  go_wp2_with (first
    | (go_at_call 14; refine (new_ok 400000 w (by decide) (by decide)).mono ?_; rintro r w1 ⟨rfl, hw1⟩
       have HI := Lib.hid (wal_start HG.out (Below.refl _ _) 400000 (by decide) (by decide) hw1)
       clear hw1)
    | (go_at_call 32; refine (copen_new w w1 _ _ HI.out).mono ?_
       rintro r w2 ⟨bl, bc, F2, o2, rfl, hI2, ho1, ho2, hF2, hK2⟩
       have HI2 := Lib.hid hI2
       clear hI2 hF2 hK2))
  refine (put_lit _ 1 [120] _ 1 1 w (w2.alloc (.cells #[.int .u8 120] 5 (1, 2))) _ bl bc o2 [] 0 noM F2 (HI2.out.to ((Below.refl _ _).alloc (Nat.le_refl _) _)) (by omega) (by decide) (by decide) rfl (by decide) (lit_reads8' w2 5 (1, 2) [120] _ 1 rfl rfl (by decide)) (by decide) (fun _ a ha hf => by injection ha with ha; subst ha; exact absurd (HI2.out.lt _ hf).2 (Nat.lt_irrefl _)) (by decide) (by simp [framesOf]) (by simp)).mono ?_
  rintro r w3 ⟨rfl, F3, hI3, _, _⟩
  obtain ⟨FW, FC, g1, g2, g3, g4, g5⟩ := hI3.parts
  have HI3 := Lib.hid (show WalIn w _ bl (gs 400000 ([[((1 : Int), [120])]].map writeOf) (framesOf ([[((1 : Int), [120])]].map writeOf)).length (o2 + 2)) (gl ([[((1 : Int), [120])]].map writeOf)) w3 FW from g4)
  clear hI3 g1 g2 g3 g4 g5
  obtain ⟨recs, hrecs⟩ : ∃ z, z = [[((1 : Int), ([120] : List UInt8))]] := ⟨_, rfl⟩
  rw [← hrecs] at HI3
  have HOKR := Lib.hid (show (∀ r ∈ recs, CesOk r ∧ (writeOf r).length ≤ 65536) ∧ (framesOf (recs.map writeOf)).length ≤ 1000000 from by
    rw [hrecs]
    refine ⟨fun r hr => ?_, ?_⟩
    · rw [List.mem_singleton.1 hr]
      exact ⟨fun x hx => by rw [List.mem_singleton.1 hx]; exact ⟨by decide, by decide, by decide⟩, by rw [writeOf_one]; decide⟩
    · simp only [List.map_cons, List.map_nil, frames_one, writeOf_one]; decide)
  have HPUT := Lib.hid (show putAll noM recs.flatten 1 = [120] from by rw [hrecs]; rfl)
  clear hrecs
  have hk0 : ∀ s, crashK s 0 = 0 := crashK_zero
  have HK0 := Lib.hid hk0
  clear hk0
  go_wp2_with (first
    | (go_at_call 36; refine (get_any HC5.out 1).mono ?_
       rintro r w6 ⟨v6, rfl, hO6, hB6⟩
       rw [HPUT.out] at hO6
       obtain ⟨A6, c6, rfl⟩ := own_slice hO6
       have hcv : (convert 32 9 (.slice A6 1 c6)).run Tryd.prog w6 = .ok (.string SA) w6 := by rw [HSA.out]; exact conv_str (own_reads8 hO6).1
       have HB6 := Lib.hid (HI5.out.below.trans (hB6.mono HI5.out.below.size))
       clear hO6 hB6)
    | (have hzz := HT4.out
       go_at_call 32
       refine (copen_again w w4 _ recs (o2 + 2) F4 HT4.out (by omega) HOKR.out.1 HOKR.out.2).mono ?_
       rintro r w5 ⟨bl5, bc5, F5, o5, rfl, hI5, _, _, _, _⟩
       obtain ⟨FW5, FC5, _, _, _, _, hC5⟩ := hI5.parts
       have HI5 := Lib.hid hI5
       have HC5 := Lib.hid hC5
       clear hI5 hC5 hzz)
    | (go_at_call 19
       refine (cal_crash 0 w w3 _ bl 400000 (o2 + 2) (recs.map writeOf) _ _ FW HI3.out).mono ?_
       rintro r w4 ⟨rfl, hle, F4, hW4, _, _⟩
       rw [HK0.out] at hW4
       rw [HK0.out]
       have HT4 := Lib.hid hW4.tape
       clear hW4 hle))
  go_ret
  exact ⟨rfl, HB6.out⟩
end
end Go.Proofs.YtfnnjgbldojigaaDoor
