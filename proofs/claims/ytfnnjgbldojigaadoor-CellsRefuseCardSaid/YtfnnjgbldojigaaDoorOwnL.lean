/- CellsOwn. -/
import Derived.Test.YtfnnjgbldojigaaDoorCelZ
set_option linter.unusedVariables false
set_option linter.unusedSimpArgs false
namespace Go.Proofs.YtfnnjgbldojigaaDoor
open Go.RowKit Go.Shelf Go.Proofs.YtfnnjgbldojigaaDoorW.PrintWords Go.Proofs.Mine Go.Proofs.Mine.Crc

theorem own_first {w : World} {base : Nat} {v : Value} {l : List UInt8} (h : Own w base v l) (hp : 0 < l.length) : ∃ g c, v = .slice (some ⟨g, 0, none⟩) l.length c ∧ base ≤ g ∧ g < w.heap.size ∧ w.cell? ⟨g, 0, none⟩ = some (.int .u8 ((l.getD 0 0).toNat : Int)) ∧ w.frozen? ⟨g, 0, none⟩ = false := by
  have hR : (Kd.scalar b8 (fun _ => rfl)).R 5 w base (fun _ => True) v l := Kd.R_of_own h (fun _ _ => trivial)
  obtain ⟨g, cap, rfl, hb, hlt, cells, hh⟩ := Kd.R_form hR hp
  have h1 := Kd.R_celln (0 : UInt8) hR 0 (by decide) (by omega)
  refine ⟨g, cap, rfl, hb, hlt, ?_, h1.2⟩
  have h2 := h1.1
  have e : rdOf (0 : UInt8) l 0 = l.getD 0 0 := rfl
  rw [e] at h2
  exact h2
/-- What is told of one cell: it is the call's own. -/
theorem call_one {w : World} {base : Nat} {ok : Nat → Prop} {v : Value} {n : Int} {b : List UInt8} (h : ceK.R 61 w base ok v [(n, b)]) (hp : 0 < b.length) :
    ∃ (ad : Addr) (cap gd cd : Nat), v = .slice (some ad) 1 cap ∧ w.cell? ⟨ad.block, ad.off + 1, none⟩ = some (.slice (some ⟨gd, 0, none⟩) b.length cd) ∧ Own w base (.slice (some ⟨gd, 0, none⟩) b.length cd) b ∧ base ≤ gd ∧ gd < w.heap.size := by
  obtain ⟨A, c, rfl, hle, hrow⟩ := h.2.reads
  obtain ⟨ad, rfl, hc⟩ := hrow.2.2 (show 0 < 1 by decide)
  obtain ⟨cs, _, ⟨c1, c2, rfl, rfl, u, rfl, hR⟩, hcell⟩ := hc 0 _ rfl
  have hO := Kd.own_of_R hR
  obtain ⟨gd, cd, rfl, h1, h2, h3, h4⟩ := own_first hO hp
  have h5 := hcell 1 _ rfl
  refine ⟨ad, c, gd, cd, rfl, ?_, hO, h1, h2⟩
  simpa [Addr.add] using h5
theorem CelIn.set {w0 w : World} {bt bl bc g : Nat} {s : TS} {ls : LS} {m : Int → List UInt8} {F : Nat → Prop} (h : CelIn w0 bt bl bc s ls m w F) (hg : ¬ F g) (hb : w0.heap.size ≤ g) (i : Nat) (u : Value) : CelIn w0 bt bl bc s ls m (w.setCell ⟨g, i, none⟩ u) F :=
  h.keep (G := fun k => k = g) ((Keep.refl _ _).setCell ⟨g, i, none⟩ u (.inl rfl)) (fun j hj e => hg (e ▸ hj)) (fun j e => e ▸ hb)
theorem celL_one {n : Int} {b : List UInt8} (h0 : 0 ≤ n) (h8 : n < 8) (hb : b ≠ []) : celL (putM noM n b) 8 = [(n, b)] := by
  have : n = 0 ∨ n = 1 ∨ n = 2 ∨ n = 3 ∨ n = 4 ∨ n = 5 ∨ n = 6 ∨ n = 7 := by omega
  rcases this with rfl | rfl | rfl | rfl | rfl | rfl | rfl | rfl <;> simp [celL, putM, noM, hb]
theorem celL_none {m : Int → List UInt8} (h : ∀ x, m x = []) : celL m 8 = [] := by simp [celL, h]
theorem cel_get {w0 w : World} {bt bl bc : Nat} {s : TS} {ls : LS} {m : Int → List UInt8} {F : Nat → Prop} (h : CelIn w0 bt bl bc s ls m w F) (n : Int) :
    Calls Tryd.prog 36 #[.pointer (some ⟨bc, 0, none⟩), .int .i64 n] w fun r w' => ∃ v, r = .returned v ∧ Own w' w.heap.size v (m n) ∧ Below w.heap.size w w' := by
  obtain ⟨_, _, _, _, _, _, h5⟩ := h.parts
  exact get_any h5 n
theorem cel_all {w0 w : World} {bt bl bc : Nat} {s : TS} {ls : LS} {m : Int → List UInt8} {F : Nat → Prop} (h : CelIn w0 bt bl bc s ls m w F) :
    Calls Tryd.prog 35 #[.pointer (some ⟨bc, 0, none⟩)] w fun r w' => ∃ v, r = .returned v ∧ ceK.R 61 w' w.heap.size (fun k => w.heap.size ≤ k) v (celL m 8) ∧ Below w.heap.size w w' := by
  obtain ⟨_, _, _, _, _, _, h5⟩ := h.parts
  exact call_any h5
theorem conv_bytes {w : World} {A : Option Addr} {c : Nat} {l : List UInt8} {SB : ByteArray} (hS : SB = strB l) (h : Bytes w A l) : (convert 32 9 (.slice A l.length c)).run Tryd.prog w = .ok (.string SB) w := by rw [hS]; exact conv_str h
theorem putM_self (m : Int → List UInt8) (n : Int) (b : List UInt8) : putM m n b n = b := if_pos rfl
theorem putM_none (n : Int) (b : List UInt8) (x : Int) : putM (putM noM n b) n [] x = [] := by
  unfold putM noM
  split <;> rfl
theorem set_bytes {W : World} {A : Option Addr} {b : List UInt8} {base g i : Nat} {u : Value} (h : Bytes W A b) (hl : ∀ a, 0 < b.length → A = some a → a.block < base) (hg : base ≤ g) : Bytes (W.setCell ⟨g, i, none⟩ u) A b :=
  bytes_away h ((Keep.refl (fun k => k = g) W).setCell ⟨g, i, none⟩ u (.inl rfl)) (fun hp a ha e => by have := hl a hp ha; omega)
set_option maxRecDepth 100000 in
set_option maxHeartbeats 2000000 in
theorem own_any (A0 : Option Addr) (c0 : Nat) (b : List UInt8) (by_ n0 : Int) (w : World) (hg0 : Laid w) (hr0 : Bytes w A0 b) (hc0 : b.length ≤ c0) :
    Calls Tryd.prog 10 #[.slice A0 b.length c0, .int .u8 by_, .int .i64 n0] w fun e w' => e = .returned (.bool true) ∧ Below w.heap.size w w' := by
  have HG := Lib.hid hg0
  have HX := Lib.hid hr0
  have hmx := hr0.2.1
  clear hg0 hr0
  by_cases hgo : b.length = 0 ∨ 500 < b.length ∨ by_ = 0
  · by_cases hb0 : b.length = 0
    · have hbi : ((b.length : Int) == 0) = true := beq_iff_eq.mpr (by omega)
      clear hgo hb0
      go_enter Tryd.func10, Tryd.ntmps10
      go_wp2_with (go_at_call 31; refine (known5_any w HG.out).mono ?_; rintro r w0 ⟨rfl, hB0⟩; have HB0 := Lib.hid hB0; clear hB0)
      go_ret
      exact ⟨rfl, HB0.out⟩
    · have hbi : ((b.length : Int) == 0) = false := beq_eq_false_iff_ne.mpr (by omega)
      by_cases hb5 : 500 < b.length
      · have hb5i : (500 : Int) < (b.length : Int) := by omega
        clear hgo hb0 hb5
        go_enter Tryd.func10, Tryd.ntmps10
        go_wp2_with (go_at_call 31; refine (known5_any w HG.out).mono ?_; rintro r w0 ⟨rfl, hB0⟩; have HB0 := Lib.hid hB0; clear hB0)
        go_ret
        exact ⟨rfl, HB0.out⟩
      · have hb5i : ¬ (500 : Int) < (b.length : Int) := by omega
        have hby : (by_ == 0) = true := beq_iff_eq.mpr (by omega)
        clear hgo hb0 hb5
        go_enter Tryd.func10, Tryd.ntmps10
        go_wp2_with (go_at_call 31; refine (known5_any w HG.out).mono ?_; rintro r w0 ⟨rfl, hB0⟩; have HB0 := Lib.hid hB0; clear hB0)
        go_ret
        exact ⟨rfl, HB0.out⟩
  · have hb0 : ((b.length : Int) == 0) = false := beq_eq_false_iff_ne.mpr (by omega)
    have hb5 : ¬ (500 : Int) < (b.length : Int) := by omega
    have hby : (by_ == 0) = false := beq_eq_false_iff_ne.mpr (by omega)
    have hbp : 0 < b.length := by omega
    have hb500 : b.length ≤ 500 := by omega
    clear hgo
    go_enter Tryd.func10, Tryd.ntmps10
    go_wp2_with (first
      | (go_at_call 31; refine (known5_any w HG.out).mono ?_; rintro r w0 ⟨rfl, hB0⟩; have HB0 := Lib.hid hB0; have HG0 := Lib.hid (HG.out.below hB0); clear hB0)
      | (go_at_call 33; refine (within5_any n0 8 w0 (by decide) (by decide)).mono ?_; rintro r w0' ⟨rfl, rfl⟩
         obtain ⟨n, hn⟩ : ∃ n, n = n0 % 8 := ⟨_, rfl⟩
         have hn0 : 0 ≤ n := by omega
         have hn8 : n < 8 := by omega
         rw [← hn]
         clear hn)
      | (go_at_call 14; refine (new_ok 400000 w0 (by decide) (by decide)).mono ?_; rintro r w1 ⟨rfl, hw1⟩
         have HI := Lib.hid (wal_start HG0.out (Below.refl _ _) 400000 (by decide) (by decide) hw1)
         clear hw1)
      | (go_at_call 32; refine (copen_new w0 w1 _ _ HI.out).mono ?_
         rintro r w2 ⟨bl, bc, F2, o2, rfl, hI2, ho1, ho2, hF2, hK2⟩
         have HI2 := Lib.hid hI2
         have HX2 := Lib.hid ((HX.out.below HB0.out).below hI2.below)
         clear hI2 hF2 hK2)
      | (at_builtin; refine print_append_row_of (w0 := w2) b8 0 w2.heap.size rfl _ _ 32 5 (.int .u8 0) 1 rfl Tryd.underlying32 Tryd.info5 rfl (by decide) b8_one (.slice (some ⟨w2.heap.size, 0, none⟩) 0 0) [] b A0 b.length c0 rfl rfl ?b1 ?b2 ?b3 ?b4 ?b5 ?b6))
    case b1 => exact own_lit_of (enc := b8) w2 w2.heap.size 5 [] (Nat.le_refl _) (by decide)
    case b2 => exact HX2.out.below ((Below.refl _ _).alloc (Nat.le_refl _) _)
    case b3 => exact (Below.refl _ _).alloc (Nat.le_refl _) _
    case b4 => simp
    case b5 => simp; omega
    case b6 =>
      intro v3 w3 hown3 hB3 _ _
      have hown3' : Own w3 w2.heap.size v3 b := hown3
      obtain ⟨g3, c3, rfl, hg3, hg3l, _, _⟩ := own_first hown3' hbp
      have hi3 := HI2.out.to hB3
      have HI3 := Lib.hid hi3
      have hg3f : ¬ F2 g3 := fun hf => by have := (HI2.out.lt _ hf).2; omega
      have hb3 := hi3.below.size
      have hb2 := HI2.out.below.size
      have HO3 := Lib.hid hown3'
      have HG3F := Lib.hid hg3f
      have HG3 := Lib.hid (And.intro hg3 hg3l)
      clear hown3 hown3' hB3 hi3 hg3f
      go_wp2_with fail
      refine (put_lit _ n b (some ⟨g3, 0, none⟩) c3 b.length w0 w3 _ bl bc o2 [] 0 noM F2 HI3.out (by omega) hn0 hn8 rfl (by omega) (own_reads8 HO3.out).1 (own_reads8 HO3.out).2 (fun _ a ha hf => by injection ha with ha; subst ha; exact HG3F.out hf) (by decide) (by simp [framesOf]; omega) rfl).mono ?_
      rintro r w4 ⟨rfl, F4, hI4, hF4, hK4⟩
      have ho4 : Own w4 w2.heap.size (.slice (some ⟨g3, 0, none⟩) b.length c3) b := hK4.own HO3.out (fun k hk hf => by
        injection hk with hk
        subst hk
        exact HG3F.out hf)
      obtain ⟨g3', c3', e3, _, _, q4, f4⟩ := own_first ho4 hbp
      obtain rfl : g3 = g3' := by injection e3 with e; injection e with e; injection e
      have HI4 := Lib.hid hI4
      have HG4F := Lib.hid (show ¬ F4 g3 from fun hf => (hF4 _ hf).elim HG3F.out (fun e => by have := HG3.out.2; omega))
      have HX4 := Lib.hid ((HX.out.below HB0.out).below hI4.below)
      clear hI4 hF4 hK4 ho4 e3 hg3 hg3l
      obtain ⟨rs4, hrs4⟩ : ∃ z, z = ([] ++ [writeOf [(n, b)]] : List (List UInt8)) := ⟨_, rfl⟩
      rw [← hrs4] at HI4
      have HRS4 := Lib.hid (show (framesOf rs4).length = b.length + 11 ∧ rs4.length = 1 from by rw [hrs4, List.nil_append, frames_one, writeOf_one]; exact ⟨rfl, rfl⟩)
      obtain ⟨sy4, hsy4⟩ : ∃ z, z = (framesOf rs4).length := ⟨_, rfl⟩
      rw [← hsy4] at HI4
      clear hrs4 hsy4
      obtain ⟨x0, hx0⟩ : ∃ z : Int, z = ((b.getD 0 0).toNat : Int) := ⟨_, rfl⟩
      rw [← hx0] at q4
      have HX0 := Lib.hid hx0
      clear hx0
      have hpos : (0 : Int) < (b.length : Int) := by omega
      have hsmall : b.length < 9223372036854775807 := by omega
      have hxl := fun a hp ha => Nat.lt_of_lt_of_le (reads_lt HX.out hp a ha) HB0.out.size
      have HXL := Lib.hid hxl
      clear hxl
      go_wp2_with fail
      generalize hu5 : w4.setCell _ _ = w5
      have HI5 := Lib.hid (show CelIn w0 w0.heap.size bl bc (gs 400000 rs4 sy4 (o2 + 2)) (gl rs4) (putM noM n b) w5 F4 from by rw [← hu5]; exact HI4.out.set HG4F.out (Nat.le_trans hb2 HG3.out.1) 0 _)
      have HX5 := Lib.hid (show Bytes w5 A0 b from by rw [← hu5]; exact set_bytes HX4.out HXL.out (Nat.le_trans hb2 HG3.out.1))
      clear hu5 q4 f4
      refine (cel_get HI5.out n).mono ?_
      rintro r w6 ⟨v6, rfl, hO6, hB6⟩
      rw [putM_self] at hO6
      obtain ⟨g6, c6, rfl, hg6, _, q6, f6⟩ := own_first hO6 hbp
      obtain ⟨x6, hx6⟩ : ∃ z : Int, z = ((b.getD 0 0).toNat : Int) := ⟨_, rfl⟩
      rw [← hx6] at q6
      have HI6 := Lib.hid (HI5.out.to hB6)
      have HX6 := Lib.hid (HX5.out.below hB6)
      have hg6b : w0.heap.size ≤ g6 := Nat.le_trans HI5.out.below.size hg6
      have HG6 := Lib.hid (show ¬ F4 g6 from fun hf => by have := (HI5.out.lt _ hf).2; omega)
      clear hO6 hB6 hx6
      go_wp2_with fail
      generalize hu7 : w6.setCell _ _ = w7
      have HI7 := Lib.hid (show CelIn w0 w0.heap.size bl bc (gs 400000 rs4 sy4 (o2 + 2)) (gl rs4) (putM noM n b) w7 F4 from by rw [← hu7]; exact HI6.out.set HG6.out hg6b 0 _)
      have HX7 := Lib.hid (show Bytes w7 A0 b from by rw [← hu7]; exact set_bytes HX6.out HXL.out hg6b)
      clear hu7 q6 f6
      refine (cel_all HI7.out).mono ?_
      rintro r w8 ⟨v8, rfl, hR8, hB8⟩
      rw [celL_one hn0 hn8 (by intro e; rw [e] at hbp; exact absurd hbp (by decide))] at hR8
      obtain ⟨ad8, cap8, gd8, cd8, rfl, q8, hO8, hgd8, hgl8⟩ := call_one hR8 hbp
      have HO8 := Lib.hid hO8
      have HQ8 := Lib.hid q8
      clear q8 hO8
      have HI8 := Lib.hid (HI7.out.to hB8)
      have HX8 := Lib.hid (HX7.out.below hB8)
      have hg8b : w0.heap.size ≤ gd8 := Nat.le_trans HI7.out.below.size hgd8
      have HG8 := Lib.hid (show ¬ F4 gd8 from fun hf => by have := (HI7.out.lt _ hf).2; omega)
      clear hR8 hB8
      obtain ⟨SB, hSB⟩ : ∃ z, z = strB b := ⟨_, rfl⟩
      have HSB := Lib.hid hSB
      clear hSB
      go_wp2_with fail
      refine wp_region_noPanic ?_
      refine wp_region_held_drew (S := (fun w' => (convert 32 9 (.slice A0 b.length c0)).run Tryd.prog w' = .ok (.string SB) w')) (by kernel_rfl) ?oas0 (fun hHeld0 => ?oar0)
      case oas0 => (try dsimp only); exact conv_bytes HSB.out (HX8.out.below ((Below.refl _ w8).drew))
      refine wpAnyH_take (i := 0) (v := ?voa1) (by simp only [List.getElem?_toArray, List.getElem?_cons_zero, List.getElem?_cons_succ]; rfl) (by kernel_rfl) (by kernel_rfl) (by kernel_rfl) (fun _ _ _ h => h) (Or.inl ⟨by rfl, ?hoa1⟩) hHeld0 ?qoa1
      case hoa1 => (intro w hSw; (try dsimp only at hSw); go_simp <;> with_reducible rfl)
      try simp only [Act.put, List.setIfInBounds_toArray, List.set_cons_zero, List.set_cons_succ]
      refine wpAnyH_take (i := 1) (v := ?voa2) (by simp only [List.getElem?_toArray, List.getElem?_cons_zero, List.getElem?_cons_succ]; rfl) (by kernel_rfl) (by kernel_rfl) (by kernel_rfl) (fun _ _ _ h => h) (Or.inl ⟨by rfl, ?hoa2⟩) hHeld0 ?qoa2
      case hoa2 => (intro w hSw; (try dsimp only at hSw); go_simp <;> with_reducible rfl)
      try simp only [Act.put, List.setIfInBounds_toArray, List.set_cons_zero, List.set_cons_succ]
      refine wpAnyH_take (i := 2) (v := ?voa3) (by simp only [List.getElem?_toArray, List.getElem?_cons_zero, List.getElem?_cons_succ]; rfl) (by kernel_rfl) (by kernel_rfl) (by kernel_rfl) (fun _ _ _ h => h) (Or.inl ⟨by rfl, ?hoa3⟩) hHeld0 ?qoa3
      case hoa3 => (intro w hSw; (try dsimp only at hSw); go_simp <;> with_reducible rfl)
      try simp only [Act.put, List.setIfInBounds_toArray, List.set_cons_zero, List.set_cons_succ]
      refine wpAnyH_take (i := 3) (v := ?voa4) (by simp only [List.getElem?_toArray, List.getElem?_cons_zero, List.getElem?_cons_succ]; rfl) (by kernel_rfl) (by kernel_rfl) (by kernel_rfl) (fun _ _ _ h => h) (Or.inl ⟨by rfl, ?hoa4⟩) hHeld0 ?qoa4
      case hoa4 => (intro w hSw; (try dsimp only at hSw); go_simp <;> with_reducible rfl)
      try simp only [Act.put, List.setIfInBounds_toArray, List.set_cons_zero, List.set_cons_succ]
      refine wpAnyH_take (i := 4) (v := ?voa5) (by simp only [List.getElem?_toArray, List.getElem?_cons_zero, List.getElem?_cons_succ]; rfl) (by kernel_rfl) (by kernel_rfl) (by kernel_rfl) (fun _ _ _ h => h) (Or.inl ⟨by rfl, ?hoa5⟩) hHeld0 ?qoa5
      case hoa5 => (intro w hSw; (try dsimp only at hSw); go_simp <;> with_reducible rfl)
      try simp only [Act.put, List.setIfInBounds_toArray, List.set_cons_zero, List.set_cons_succ]
      refine wpAnyH_take (i := 5) (v := ?voa6) (by simp only [List.getElem?_toArray, List.getElem?_cons_zero, List.getElem?_cons_succ]; rfl) (by kernel_rfl) (by kernel_rfl) (by kernel_rfl) (fun _ _ _ h => h) (Or.inl ⟨by rfl, ?hoa6⟩) hHeld0 ?qoa6
      case hoa6 => (intro w hSw; (try dsimp only at hSw); go_simp <;> with_reducible rfl)
      try simp only [Act.put, List.setIfInBounds_toArray, List.set_cons_zero, List.set_cons_succ]
      refine wpAnyH_take (i := 8) (v := ?voa7) (by simp only [List.getElem?_toArray, List.getElem?_cons_zero, List.getElem?_cons_succ]; rfl) (by kernel_rfl) (by kernel_rfl) (by kernel_rfl) (fun _ _ _ h => h) (Or.inl ⟨by rfl, ?hoa7⟩) hHeld0 ?qoa7
      case hoa7 => (intro w hSw; (try dsimp only at hSw); go_simp <;> with_reducible rfl)
      try simp only [Act.put, List.setIfInBounds_toArray, List.set_cons_zero, List.set_cons_succ]
      refine wpAnyH_take (i := 9) (v := ?voa8) (by simp only [List.getElem?_toArray, List.getElem?_cons_zero, List.getElem?_cons_succ]; rfl) (by kernel_rfl) (by kernel_rfl) (by kernel_rfl) (fun _ _ _ h => h) (Or.inl ⟨by rfl, ?hoa8⟩) hHeld0 ?qoa8
      case hoa8 => (intro w hSw; (try dsimp only at hSw); go_simp <;> with_reducible rfl)
      try simp only [Act.put, List.setIfInBounds_toArray, List.set_cons_zero, List.set_cons_succ]
      refine wpAnyH_ready (rs := [6]) (by kernel_rfl) (by simp) ?_
      refine AllReadyH.cons (by simp only [List.getElem?_toArray, List.getElem?_cons_zero, List.getElem?_cons_succ]; rfl) (fun K hK => ?_) AllReadyH.nil
      go_simp
      go_at_call 36
      refine (cel_get (HI8.out.to ((Below.refl _ w8).drew)) n).mono ?_
      rintro r w9 ⟨v9, rfl, hO9, hB9⟩
      rw [putM_self] at hO9
      obtain ⟨A9, c9, rfl⟩ := own_slice hO9
      have HI9 := Lib.hid ((HI8.out.to ((Below.refl _ w8).drew)).to hB9)
      have hcv9 : (convert 32 9 (.slice A9 b.length c9)).run Tryd.prog w9 = .ok (.string SB) w9 := conv_bytes HSB.out (own_reads8 hO9).1
      have hcb9 : (convert 32 9 (.slice A0 b.length c0)).run Tryd.prog w9 = .ok (.string SB) w9 := conv_bytes HSB.out ((HX8.out.below ((Below.refl _ w8).drew)).below hB9)
      have HB9 := Lib.hid hB9
      clear hO9 hB9
      refine hK.out _ _ ?soa9 (fun hHeld1 => ?qoa9)
      case soa9 => (try dsimp only); exact hcb9
      clear hK K
      try simp only [Act.put, List.setIfInBounds_toArray, List.set_cons_zero, List.set_cons_succ]
      refine wpAnyH_mono (S' := (fun w' => (convert 32 9 (.slice A9 b.length c9)).run Tryd.prog w' = .ok (.string SB) w' ∧ (convert 32 9 (.slice A0 b.length c0)).run Tryd.prog w' = .ok (.string SB) w')) (fun _ h => h.2) ?_
      have hHeld2 : ((fun w' => (convert 32 9 (.slice A9 b.length c9)).run Tryd.prog w' = .ok (.string SB) w' ∧ (convert 32 9 (.slice A0 b.length c0)).run Tryd.prog w' = .ok (.string SB) w')) _ := And.intro hcv9 hcb9
      refine wpAnyH_take (i := 7) (v := ?voa10) (by simp only [List.getElem?_toArray, List.getElem?_cons_zero, List.getElem?_cons_succ]; rfl) (by kernel_rfl) (by kernel_rfl) (by kernel_rfl) (fun _ _ _ h => h) (Or.inl ⟨by rfl, ?hoa10⟩) hHeld2 ?qoa10
      case hoa10 => (intro w hSw; (try dsimp only at hSw); go_simp <;> with_reducible rfl)
      try simp only [Act.put, List.setIfInBounds_toArray, List.set_cons_zero, List.set_cons_succ]
      refine wpAnyH_take (i := 10) (v := ?voa11) (by simp only [List.getElem?_toArray, List.getElem?_cons_zero, List.getElem?_cons_succ]; rfl) (by kernel_rfl) (by kernel_rfl) (by kernel_rfl) (fun _ _ _ h => h) (Or.inl ⟨by rfl, ?hoa11⟩) hHeld2 ?qoa11
      case hoa11 => (intro w hSw; (try dsimp only at hSw); go_simp <;> with_reducible rfl)
      try simp only [Act.put, List.setIfInBounds_toArray, List.set_cons_zero, List.set_cons_succ]
      refine wpAnyH_take (i := 11) (v := ?voa12) (by simp only [List.getElem?_toArray, List.getElem?_cons_zero, List.getElem?_cons_succ]; rfl) (by kernel_rfl) (by kernel_rfl) (by kernel_rfl) (fun _ _ _ h => h) (Or.inl ⟨by rfl, ?hoa12⟩) hHeld2 ?qoa12
      case hoa12 => (intro w hSw; (try dsimp only at hSw); go_simp <;> with_reducible rfl)
      try simp only [Act.put, List.setIfInBounds_toArray, List.set_cons_zero, List.set_cons_succ]
      refine wpAnyH_done (by kernel_rfl) ?_ _
      refine NoPanic.normal ?_
      have hB89 : Below w8.heap.size w8 w9 := ((Below.refl _ w8).drew).trans HB9.out
      obtain ⟨g8', c8', e8, _, _, q9b, f9⟩ := own_first (pw_own_below HO8.out hB89) hbp
      obtain rfl : gd8 = g8' := by injection e8 with e; injection e with e; injection e
      have q9 := pw_cell_below hB89 HQ8.out
      have HX9 := Lib.hid (HX8.out.below hB89)
      obtain ⟨x9, hx9⟩ : ∃ z : Int, z = ((b.getD 0 0).toNat : Int) := ⟨_, rfl⟩
      rw [← hx9] at q9b
      have HG9 := Lib.hid (show ¬ F4 gd8 from HG8.out)
      clear e8 hB89 hx9 hcv9 hcb9 hHeld0 hHeld1 hHeld2
      go_wp2_with fail
      generalize hu10 : w9.setCell _ _ = w10
      have HI10 := Lib.hid (show CelIn w0 w0.heap.size bl bc (gs 400000 rs4 sy4 (o2 + 2)) (gl rs4) (putM noM n b) w10 F4 from by rw [← hu10]; exact HI9.out.set HG9.out hg8b 0 _)
      have HX10 := Lib.hid (show Bytes w10 A0 b from by rw [← hu10]; exact set_bytes HX9.out HXL.out hg8b)
      clear hu10 q9 q9b f9
      refine wp_region_noPanic ?_
      refine wp_region_held_drew (S := (fun w' => (convert 32 9 (.slice A0 b.length c0)).run Tryd.prog w' = .ok (.string SB) w')) (by kernel_rfl) ?obs0 (fun hHeld0 => ?obr0)
      case obs0 => (try dsimp only); exact conv_bytes HSB.out (HX10.out.below ((Below.refl _ w10).drew))
      refine wpAnyH_take (i := 0) (v := ?vob1) (by simp only [List.getElem?_toArray, List.getElem?_cons_zero, List.getElem?_cons_succ]; rfl) (by kernel_rfl) (by kernel_rfl) (by kernel_rfl) (fun _ _ _ h => h) (Or.inl ⟨by rfl, ?hob1⟩) hHeld0 ?qob1
      case hob1 => (intro w hSw; (try dsimp only at hSw); go_simp <;> with_reducible rfl)
      try simp only [Act.put, List.setIfInBounds_toArray, List.set_cons_zero, List.set_cons_succ]
      refine wpAnyH_take (i := 1) (v := ?vob2) (by simp only [List.getElem?_toArray, List.getElem?_cons_zero, List.getElem?_cons_succ]; rfl) (by kernel_rfl) (by kernel_rfl) (by kernel_rfl) (fun _ _ _ h => h) (Or.inl ⟨by rfl, ?hob2⟩) hHeld0 ?qob2
      case hob2 => (intro w hSw; (try dsimp only at hSw); go_simp <;> with_reducible rfl)
      try simp only [Act.put, List.setIfInBounds_toArray, List.set_cons_zero, List.set_cons_succ]
      refine wpAnyH_take (i := 4) (v := ?vob3) (by simp only [List.getElem?_toArray, List.getElem?_cons_zero, List.getElem?_cons_succ]; rfl) (by kernel_rfl) (by kernel_rfl) (by kernel_rfl) (fun _ _ _ h => h) (Or.inl ⟨by rfl, ?hob3⟩) hHeld0 ?qob3
      case hob3 => (intro w hSw; (try dsimp only at hSw); go_simp <;> with_reducible rfl)
      try simp only [Act.put, List.setIfInBounds_toArray, List.set_cons_zero, List.set_cons_succ]
      refine wpAnyH_take (i := 5) (v := ?vob4) (by simp only [List.getElem?_toArray, List.getElem?_cons_zero, List.getElem?_cons_succ]; rfl) (by kernel_rfl) (by kernel_rfl) (by kernel_rfl) (fun _ _ _ h => h) (Or.inl ⟨by rfl, ?hob4⟩) hHeld0 ?qob4
      case hob4 => (intro w hSw; (try dsimp only at hSw); go_simp <;> with_reducible rfl)
      try simp only [Act.put, List.setIfInBounds_toArray, List.set_cons_zero, List.set_cons_succ]
      refine wpAnyH_ready (rs := [2]) (by kernel_rfl) (by simp) ?_
      refine AllReadyH.cons (by simp only [List.getElem?_toArray, List.getElem?_cons_zero, List.getElem?_cons_succ]; rfl) (fun K hK => ?_) AllReadyH.nil
      go_simp
      go_at_call 36
      refine (cel_get (HI10.out.to ((Below.refl _ w10).drew)) n).mono ?_
      rintro r w11 ⟨v11, rfl, hO11, hB11⟩
      rw [putM_self] at hO11
      obtain ⟨A11, c11, rfl⟩ := own_slice hO11
      have HI11 := Lib.hid ((HI10.out.to ((Below.refl _ w10).drew)).to hB11)
      have hcv11 : (convert 32 9 (.slice A11 b.length c11)).run Tryd.prog w11 = .ok (.string SB) w11 := conv_bytes HSB.out (own_reads8 hO11).1
      have hcb11 : (convert 32 9 (.slice A0 b.length c0)).run Tryd.prog w11 = .ok (.string SB) w11 := conv_bytes HSB.out ((HX10.out.below ((Below.refl _ w10).drew)).below hB11)
      clear hO11 hB11
      refine hK.out _ _ ?sob5 (fun hHeld1 => ?qob5)
      case sob5 => (try dsimp only); exact hcb11
      clear hK K
      try simp only [Act.put, List.setIfInBounds_toArray, List.set_cons_zero, List.set_cons_succ]
      refine wpAnyH_mono (S' := (fun w' => (convert 32 9 (.slice A11 b.length c11)).run Tryd.prog w' = .ok (.string SB) w' ∧ (convert 32 9 (.slice A0 b.length c0)).run Tryd.prog w' = .ok (.string SB) w')) (fun _ h => h.2) ?_
      have hHeld2 : ((fun w' => (convert 32 9 (.slice A11 b.length c11)).run Tryd.prog w' = .ok (.string SB) w' ∧ (convert 32 9 (.slice A0 b.length c0)).run Tryd.prog w' = .ok (.string SB) w')) _ := And.intro hcv11 hcb11
      refine wpAnyH_take (i := 3) (v := ?vob6) (by simp only [List.getElem?_toArray, List.getElem?_cons_zero, List.getElem?_cons_succ]; rfl) (by kernel_rfl) (by kernel_rfl) (by kernel_rfl) (fun _ _ _ h => h) (Or.inl ⟨by rfl, ?hob6⟩) hHeld2 ?qob6
      case hob6 => (intro w hSw; (try dsimp only at hSw); go_simp <;> with_reducible rfl)
      try simp only [Act.put, List.setIfInBounds_toArray, List.set_cons_zero, List.set_cons_succ]
      refine wpAnyH_take (i := 6) (v := ?vob7) (by simp only [List.getElem?_toArray, List.getElem?_cons_zero, List.getElem?_cons_succ]; rfl) (by kernel_rfl) (by kernel_rfl) (by kernel_rfl) (fun _ _ _ h => h) (Or.inl ⟨by rfl, ?hob7⟩) hHeld2 ?qob7
      case hob7 => (intro w hSw; (try dsimp only at hSw); go_simp <;> with_reducible rfl)
      try simp only [Act.put, List.setIfInBounds_toArray, List.set_cons_zero, List.set_cons_succ]
      refine wpAnyH_done (by kernel_rfl) ?_ _
      refine NoPanic.normal ?_
      clear hcv11 hcb11 hHeld0 hHeld1 hHeld2
      go_wp2_with fail
      refine (put_lit _ n [] none 0 0 w0 w11 _ bl bc (o2 + 2) rs4 sy4 _ F4 HI11.out (by omega) hn0 hn8 rfl (by decide) ⟨rfl, by decide, fun hp => absurd hp (by decide)⟩ (by decide) (fun hp => absurd hp (by decide)) (by rw [HRS4.out.2]; decide) (by rw [HRS4.out.1]; omega) rfl).mono ?_
      rintro r w12 ⟨rfl, F12, hI12, _, _⟩
      have HI12 := Lib.hid hI12
      clear hI12
      go_wp2_with (first
        | (go_at_call 35; refine (cel_all HI13.out).mono ?_
           rintro r w14 ⟨v14, rfl, hR14, hB14⟩
           rw [celL_none (putM_none n b)] at hR14
           obtain ⟨A14, c14, rfl⟩ := Kd.R_slice hR14
           have HB14 := Lib.hid (HB0.out.trans ((HI13.out.below.trans (hB14.mono HI13.out.below.size)).mono HB0.out.size))
           clear hR14 hB14)
        | (go_at_call 36; refine (cel_get HI12.out n).mono ?_
           rintro r w13 ⟨v13, rfl, hO13, hB13⟩
           rw [putM_none n b n] at hO13
           obtain ⟨A13, c13, rfl⟩ := own_slice hO13
           have HI13 := Lib.hid (HI12.out.to hB13)
           clear hO13 hB13))
      go_ret
      exact ⟨rfl, HB14.out⟩
theorem own_row (A0 : Option Addr) (c0 : Nat) (b : List UInt8) (x : UInt8) (n0 : Int) (w : World) (hg0 : Laid w) (hr0 : ReadsOf b8 0 w A0 b.length b) (hc0 : b.length ≤ c0) (_ : b.length * 1 ≤ 140737488351232) (_ : (Lit.int .i64 n0).wf = true) :
    Calls Tryd.prog 10 #[.slice A0 b.length c0, .int .u8 (x.toNat : Int), .int .i64 n0] w fun e w' => e = .returned (.bool true) ∧ Below w.heap.size w w' := own_any A0 c0 b _ n0 w hg0 hr0 hc0
end Go.Proofs.YtfnnjgbldojigaaDoor
