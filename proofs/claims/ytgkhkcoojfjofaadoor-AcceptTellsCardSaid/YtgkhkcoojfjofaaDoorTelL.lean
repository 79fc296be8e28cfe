/- AcceptTells. -/
import Derived.Test.YtgkhkcoojfjofaaDoorPreG
set_option linter.unusedVariables false
set_option linter.unusedSimpArgs false
namespace Go.Proofs.YtgkhkcoojfjofaaDoor
open Go.RowKit Go.Shelf Go.Proofs.YtgkhkcoojfjofaaDoorW.PrintWords Go.Proofs.Mine

theorem tmod_fix (a n : Int) (hn : 0 < n) : (if a.tmod n < 0 then a.tmod n + n else a.tmod n) = a % n := by
  have h1 := Int.tmod_add_mul_tdiv a n
  have h2 := Int.emod_add_mul_ediv a n
  rw [Int.tmod_eq_emod]
  have h3 := Int.emod_nonneg a (show n ≠ 0 by omega)
  have h4 := Int.emod_lt_of_pos a hn
  split <;> split <;> omega
set_option maxRecDepth 100000 in
set_option maxHeartbeats 2000000 in
theorem within_any (a n : Int) (w : World) (hn : 0 < n) (hn2 : n ≤ 4611686018427387904) :
    Calls Tryd.prog 16 #[.int .i64 a, .int .i64 n] w fun e w' => e = .returned (.int .i64 (a % n)) ∧ w = w' := by
  have H := Lib.hid (tmod_fix a n hn)
  have h1 : -n < a.tmod n := by
    have := Int.tmod_eq_emod (a := a) (b := n)
    have h3 := Int.emod_nonneg a (show n ≠ 0 by omega)
    have h4 := Int.emod_lt_of_pos a hn
    split at this <;> omega
  have h0 : (n == 0) = false := by simp; omega
  by_cases hs : a.tmod n < 0
  · have hf : a.tmod n + n = a % n := by have := H.out; rwa [if_pos hs] at this
    have HF := Lib.hid hf
    clear hf H
    go_enter Tryd.func16, Tryd.ntmps16
    go_wp2
    go_ret
    exact ⟨by rw [HF.out]; rfl, rfl⟩
  · have hf : a.tmod n = a % n := by have := H.out; rwa [if_neg hs] at this
    have HF := Lib.hid hf
    clear hf H
    go_enter Tryd.func16, Tryd.ntmps16
    go_wp2
    go_ret
    exact ⟨by rw [HF.out]; rfl, rfl⟩
/-- An array of whole numbers. -/
def ArrI (t size : Nat) (w : World) (X : Nat) (h : Nat → Int) : Prop := ∃ cs : Array Value, w.heap[X]? = some (.cells cs t (0, 0)) ∧ cs.size = size ∧ ∀ j, j < size → cs[j]? = some (.int .i64 (h j))
theorem ArrI.keep {t size : Nat} {w w1 : World} {X : Nat} {h : Nat → Int} {G : Nat → Prop} (a : ArrI t size w X h) (k : Keep G w w1) (hg : ¬ G X) : ArrI t size w1 X h := by
  obtain ⟨cs, h1, h2⟩ := a
  exact ⟨cs, k.blk h1 hg, h2⟩
theorem ArrI.get {t size : Nat} {w : World} {X : Nat} {h : Nat → Int} (a : ArrI t size w X h) {j : Nat} (hj : j < size) : w.cell? ⟨X, j, none⟩ = some (.int .i64 (h j)) ∧ w.frozen? ⟨X, j, none⟩ = false := by
  obtain ⟨cs, h1, h2, h3⟩ := a
  exact ⟨by rw [blk_cell h1]; exact h3 j hj, blk_frozen h1 j⟩
theorem ArrI.lt {t size : Nat} {w : World} {X : Nat} {h : Nat → Int} (a : ArrI t size w X h) : X < w.heap.size := by
  obtain ⟨cs, h1, _⟩ := a
  exact (Array.getElem?_eq_some_iff.1 h1).1
theorem ArrI.set {t size : Nat} {w : World} {X : Nat} {h : Nat → Int} (a : ArrI t size w X h) (j : Nat) (v : Int) : ArrI t size (w.setCell ⟨X, j, none⟩ (.int .i64 v)) X (fun i => if i = j then v else h i) := by
  obtain ⟨cs, h1, h2, h3⟩ := a
  refine ⟨_, blk_set h1 j _, by simp [h2], fun i hi => ?_⟩
  rw [Array.getElem?_setIfInBounds]
  by_cases e : j = i
  · subst e
    rw [if_pos rfl, if_pos (by omega)]
    show some (Value.int .i64 v) = some (.int .i64 (if j = j then v else h j))
    rw [if_pos rfl]
  · rw [if_neg e]
    show cs[i]? = some (.int .i64 (if i = j then v else h i))
    rw [if_neg (by omega)]
    exact h3 i hi
/-- What stands in the array. -/
structure TInv (f : Int → Option Vh) (h : Nat → Int) : Prop where
  vote : ∀ y z, f y = some z → z.s = y ∧ 1 ≤ y ∧ y ≤ 20 ∧ h y.toNat = z.b ∧ z.q = z.b ∧ 1 ≤ z.b
  zero : ∀ s : Nat, 1 ≤ s → s ≤ 20 → f (s : Int) = none → h s = 0
theorem TInv.start : TInv (fun _ => none) (fun _ => 0) := ⟨fun y z e => (by cases e), fun _ _ _ _ => rfl⟩
theorem TInv.step {f : Int → Option Vh} {h : Nat → Int} (a : TInv f h) {s : Nat} {x : Vh} (h1 : 1 ≤ s) (h2 : s ≤ 20) (hs : x.s = (s : Int)) (hb : 1 ≤ x.b) (hq : x.q = x.b) : TInv (updI f (s : Int) x) (fun i => if i = s then x.b else h i) := by
  refine ⟨fun y z e => ?_, fun s' g1 g2 e => ?_⟩
  · have e' : (if y = (s : Int) then some x else f y) = some z := e
    by_cases hy : y = (s : Int)
    · rw [if_pos hy] at e'
      injection e' with e'
      subst e'
      refine ⟨by omega, by omega, by omega, ?_, hq, hb⟩
      show (if y.toNat = s then x.b else h y.toNat) = x.b
      rw [if_pos (by omega)]
    · rw [if_neg hy] at e'
      obtain ⟨g1, g2, g3, g4, g5, g6⟩ := a.vote y z e'
      refine ⟨g1, g2, g3, ?_, g5, g6⟩
      show (if y.toNat = s then x.b else h y.toNat) = z.b
      rw [if_neg (by omega)]
      exact g4
  · have e' : (if (s' : Int) = (s : Int) then some x else f s') = none := e
    by_cases hy : (s' : Int) = (s : Int)
    · rw [if_pos hy] at e'; cases e'
    · rw [if_neg hy] at e'
      show (if s' = s then x.b else h s') = 0
      rw [if_neg (by omega)]
      exact a.zero s' g1 g2 e'
/-- How far the loop over the slots is. -/
def KInv (hv : List Vh) (k : Nat) (s : Int) : Prop := k ≤ hv.length ∧ ∀ j x, hv[j]? = some x → (j < k ↔ x.s < s)
theorem KInv.no {hv : List Vh} {k : Nat} {s : Int} (h : KInv hv k s) (hn : ∀ x ∈ hv, x.s ≠ s) : KInv hv k (s + 1) := ⟨h.1, fun j x hx => by
  have h1 := h.2 j x hx
  have h2 := hn x (List.mem_of_getElem? hx)
  omega⟩
theorem KInv.yes {hv : List Vh} {k : Nat} {s : Int} (h : KInv hv k s) (hp : (hv.map Vh.vo).Pairwise (fun x y => x.s < y.s)) {x : Vh} (hx : x ∈ hv) (hs : x.s = s) : hv[k]? = some x ∧ k < hv.length ∧ KInv hv (k + 1) (s + 1) := by
  obtain ⟨j, hj, hjx⟩ := List.getElem_of_mem hx
  have hj2 : hv[j]? = some x := by rw [List.getElem?_eq_getElem hj, hjx]
  have hle : k ≤ j := by
    have := h.2 j x hj2
    omega
  have hmono : ∀ a b : Nat, a < b → ∀ y z : Vh, hv[a]? = some y → hv[b]? = some z → y.s < z.s := by
    intro a b hab y z hy hz
    rw [List.pairwise_map] at hp
    obtain ⟨ha, hay⟩ := List.getElem?_eq_some_iff.1 hy
    obtain ⟨hb, hbz⟩ := List.getElem?_eq_some_iff.1 hz
    have h9 : hv[a].vo.s < hv[b].vo.s := List.pairwise_iff_getElem.1 hp a b ha hb hab
    rw [hay, hbz] at h9
    exact h9
  have hk : k < hv.length := by omega
  have hjk : j = k := by
    rcases Nat.lt_or_ge k j with h1 | h1
    · have h2 := hmono k j h1 _ x (List.getElem?_eq_getElem hk) hj2
      have h3 := h.2 k _ (List.getElem?_eq_getElem hk)
      omega
    · omega
  subst hjk
  refine ⟨hj2, hk, hk, fun i y hy => ?_⟩
  have h1 := h.2 i y hy
  rcases Nat.lt_trichotomy i j with h2 | h2 | h2
  · have := hmono i j h2 y x hy hj2; omega
  · subst h2
    rw [hj2] at hy
    injection hy with hy
    subst hy
    omega
  · have := hmono j i h2 x y hj2 hy; omega
theorem infoA (w : World) : (zeroValue 43).run Tryd.prog w = .ok (.agg (Array.replicate 21 (.int .i64 0))) w := by kernel_rfl
set_option maxRecDepth 100000 in
set_option maxHeartbeats 2000000 in
theorem tells_any (A0 : Option Addr) (c0 : Nat) (l : List Int) (fr : Int) (late : Bool) (w : World) (hg : Laid w) (hr : ReadsInt w .i64 A0 l.length l) :
    Calls Tryd.prog 4 #[.slice A0 l.length c0, .int .i64 fr, .bool late] w fun e w' => e = .returned (.bool true) ∧ Below w.heap.size w w' := by
  have H1 := Lib.hid hr
  have HG := Lib.hid hg
  have hmx := hr.2.1
  clear hr hg
  go_enter Tryd.func4, Tryd.ntmps4
  go_wp2_with (first
    | (go_at_call 10; refine (new_at w0).mono ?_; rintro r w1 ⟨b, F0, rfl, hA1, hB1⟩
       have HA1 := Lib.hid (AcG.of_at hA1)
       have HB1 := Lib.hid hB1
       clear hA1 hB1)
    | (go_at_call 9; refine (known_any w).mono ?_; rintro r w0 ⟨rfl, hB0⟩; have HB0 := Lib.hid hB0; clear hB0))
  generalize hW : w1.alloc _ = W
  have hBW : Below w1.heap.size w1 W := by rw [← hW]; exact (Below.refl _ w1).alloc (Nat.le_refl _) _
  obtain ⟨X, hX⟩ : ∃ X, X = w1.heap.size := ⟨_, rfl⟩
  have hAX : ArrI 43 21 W X (fun _ => 0) := ⟨Array.replicate 21 (.int .i64 0), by rw [← hW, hX]; exact heap_alloc_new w1 _, by simp, fun j hj => by simp [hj]⟩
  rw [← hX]
  have HAX := Lib.hid hAX
  have HAW := Lib.hid (HA1.out.below hBW)
  have HXF := Lib.hid (show ¬ F0 X from fun hf => by have := (HA1.out.2.1 X hf).2; omega)
  have HBW := Lib.hid (HB1.out.trans (hBW.mono HB1.out.size))
  have HXB := Lib.hid (show w0.heap.size ≤ X from by rw [hX]; exact HB1.out.size)
  clear hBW hAX hW hX
  go_loopw [9, 10] (fun iv _ wr => ∃ (i : Nat) (F : Nat → Prop) (f : Int → Option Vh) (h : Nat → Int), i ≤ 40 ∧ iv = .int .i64 (i : Int) ∧ RowKit.Hid (AcG wr w0.heap.size F b i f) ∧ RowKit.Hid (ArrI 43 21 wr X h) ∧ RowKit.Hid (¬ F X) ∧ RowKit.Hid (TInv f h) ∧ RowKit.Hid (Below w0.heap.size w0 wr)) (fun iv _ _ => 40 - (intOf iv).toNat)
  case atStart => exact ⟨0, F0, fun _ => none, fun _ => 0, by omega, rfl, HAW, HAX, HXF, Lib.hid TInv.start, HBW⟩
  case round =>
    obtain ⟨i, F, f, h, hi, rfl, HA, HX, HF, HT, HBR⟩ := hrel
    by_cases hi1 : (i : Int) < (l.length : Int)
    · by_cases hi2 : (i : Int) < 40
      · have hi0 : (0 : Int) ≤ (i : Int) := by omega
        obtain ⟨a0, rfl, q0⟩ := H1.out.at_ i (by omega) (by omega)
        rw [Int.toNat_natCast] at q0
        have q1 := pw_cell_below (HB0.out.trans (HBR.out.mono HB0.out.size)) q0
        obtain ⟨xb, hxb⟩ : ∃ xb, xb = rd l i := ⟨_, rfl⟩
        rw [← hxb] at q1
        clear hxb q0
        go_wp2_with (first
          | (go_at_call 12; refine (accept_g ⟨(sn : Int), (i : Int) + 1, 0, 0, (i : Int) + 1, ByteArray.empty, none, 0, [], 0⟩ b i f w0.heap.size F wr HA.out HBR.out.size (show (1 : Int) ≤ (sn : Int) by omega) (show (sn : Int) ≤ 64 by omega) (show (1 : Int) ≤ (i : Int) + 1 by omega) (show (i : Int) ≤ (i : Int) + 1 by omega) ⟨rfl, (show 0 ≤ 9223372036854775807 by decide), fun hp => absurd hp (show ¬ 0 < 0 by decide)⟩ (show 0 ≤ 1000000 by decide) (fun hp => absurd hp (show ¬ 0 < 0 by decide))).mono ?_
             rintro r w2 ⟨rfl, A2, c2, hT⟩
             obtain ⟨F2, hA2, hF2, hK2⟩ := hT
             have HA2 := Lib.hid hA2
             have hX2 := HX.out.keep hK2 HF.out
             have HX2 := Lib.hid hX2
             have HF2 := Lib.hid (show ¬ F2 X from fun hf => by
               rcases hF2 X hf with h1 | h1
               · exact HF.out h1
               · have := HX.out.lt; omega)
             have HB2 := Lib.hid (HBR.out.trans (hK2.to_below HBR.out.size (fun k hk => (HA.out.2.1 k hk).1)))
             obtain ⟨y1, y2⟩ := hX2.get (j := sn) (by omega)
             clear hA2 hX2 hF2 hK2)
          | (go_at_call 16; refine (within_any xb 20 wr (by decide) (by decide)).mono ?_; rintro r wr' ⟨rfl, rfl⟩
             obtain ⟨q, hq⟩ : ∃ q : Nat, xb % 20 = (q : Int) := ⟨(xb % 20).toNat, by omega⟩
             have hq3 : q < 20 := by omega
             rw [hq]
             obtain ⟨sn, hsn⟩ : ∃ sn : Nat, sn = 1 + q := ⟨_, rfl⟩
             have hsn1 : 1 ≤ sn := by omega
             have hsn2 : sn ≤ 20 := by omega
             have hse : 1 + (q : Int) = (sn : Int) := by omega
             clear hq hsn hq3))
        exact ⟨⟨i + 1, F2, _, _, by omega, by simp, Lib.hid (by
          rw [show ((i + 1 : Nat) : Int) = (i : Int) + 1 from by omega]
          exact HA2.out.keep ((Keep.refl (fun k => k = X) w2).setCell ⟨X, sn, none⟩ _ (.inl rfl)) (fun k hk e => HF2.out (e ▸ hk))), Lib.hid (HX2.out.set sn ((i : Int) + 1)), HF2, Lib.hid (HT.out.step (x := ⟨(sn : Int), (i : Int) + 1, 0, 0, (i : Int) + 1, ByteArray.empty, A2, c2, [], 0⟩) hsn1 hsn2 rfl (show (1 : Int) ≤ (i : Int) + 1 by omega) rfl), Lib.hid (HB2.out.trans (((Keep.refl (fun k => k = X) w2).setCell ⟨X, sn, none⟩ (.int .i64 ((i : Int) + 1)) (.inl rfl)).to_below HB2.out.size (fun k hk => by have h' : k = X := hk; rw [h']; exact HXB.out)))⟩, by simp [intOf]; omega⟩
      · have HC := Lib.hid HA.out.cell
        have HGR := Lib.hid (((HG.out.below HB0.out).below (HBR.out.mono (Nat.le_refl _))))
        cases late with
        | true =>
          by_cases hi3 : (i : Int) - 1 < 1
          · go_wp2_with (first
              | (go_at_call 13; refine (prepare_arg b ((i : Int) - 1) fr wr HGR.out hi3).mono ?_; rintro r w2 ⟨rfl, hB2⟩; have HB2 := Lib.hid (HBR.out.trans (hB2.mono HBR.out.size)); clear hB2)
              | (go_at_call 14; refine (promised_any b i wr HC.out).mono ?_; rintro r w2 ⟨rfl, rfl⟩))
            go_ret
            exact ⟨rfl, HB0.out.trans (HB2.out.mono HB0.out.size)⟩
          · go_wp2_with (first
              | (go_at_call 13; refine (prepare_old b i ((i : Int) - 1) fr HC.out (by omega) (by omega)).mono ?_; rintro r w2 ⟨rfl, hB2⟩; have HB2 := Lib.hid (HBR.out.trans (hB2.mono HBR.out.size)); clear hB2)
              | (go_at_call 14; refine (promised_any b i wr HC.out).mono ?_; rintro r w2 ⟨rfl, rfl⟩))
            go_ret
            exact ⟨rfl, HB0.out.trans (HB2.out.mono HB0.out.size)⟩
        | false =>
          go_wp2_with (go_at_call 13; refine (prepare_g (n := 100) (fr := fr) HA.out HBR.out.size (fun y z e => by have := HT.out.vote y z e; omega) (by decide) (by omega)).mono ?_
                       rintro r w2 ⟨v, hv, rfl, hT2, hD2, hA2⟩
                       obtain ⟨Av, cv, rfl, hrow⟩ := hT2.row
                       have hvl : hv.length ≤ 64 := hT2.2.1
                       obtain ⟨F2, hA3, hF3, hK3⟩ := hA2
                       have HROW := Lib.hid hrow
                       have HD := Lib.hid hD2
                       have HC2 := Lib.hid hA3.cell
                       have HX2 := Lib.hid (HX.out.keep hK3 HF.out)
                       have HB2 := Lib.hid (HBR.out.trans (hK3.to_below HBR.out.size (fun k hk => (HA.out.2.1 k hk).1)))
                       clear hrow hD2 hA3 hF3 hK3 hT2)
          have HH := Lib.hid (fun x (hx : x ∈ hv) => (HD.out.2 x.vo).1 (List.mem_map.2 ⟨x, hx, rfl⟩))
          go_loopw [15, 16] (fun kv sv wx => ∃ (k s : Nat), 1 ≤ s ∧ s ≤ 21 ∧ kv = .int .i64 (k : Int) ∧ sv = .int .i64 (s : Int) ∧ RowKit.Hid (KInv hv k s) ∧ RowKit.Hid (Below w2.heap.size w2 wx)) (fun _ sv _ => 21 - (intOf sv).toNat)
          case atStart => exact ⟨0, 1, by omega, by omega, rfl, rfl, Lib.hid ⟨Nat.zero_le _, fun j x hx => by
            obtain ⟨z, hz, he⟩ := HH.out x (List.mem_of_getElem? hx)
            have h1 : fromF f fr x.s = some z := hz
            unfold fromF at h1
            split at h1
            · have := HT.out.vote _ _ h1; omega
            · cases h1⟩, Lib.hid (Below.refl _ _)⟩
          case round =>
            obtain ⟨k, s, hs1, hs21, rfl, rfl, HKI, HKB⟩ := hrel
            have hkl : k ≤ hv.length := HKI.out.1
            by_cases hs20 : s ≤ 20
            · have hs20i : (s : Int) ≤ 20 := by omega
              have hs0 : (0 : Int) ≤ (s : Int) := by omega
              have HTS := Lib.hid (HT.out.zero s hs1 hs20)
              have HTV := Lib.hid (fun z (e : f (s : Int) = some z) => HT.out.vote (s : Int) z e)
              rw [Int.toNat_natCast] at HTV
              have y1 := pw_cell_below HKB.out (HX2.out.get (j := s) (by omega)).1
              obtain ⟨hq, hhq⟩ : ∃ hq, hq = h s := ⟨_, rfl⟩
              rw [← hhq] at y1 HTS HTV
              clear hhq
              by_cases hz : hq = 0
              · subst hz
                have HN := Lib.hid (HKI.out.no (fun x hx e => by
                  obtain ⟨z, hz, he⟩ := HH.out x hx
                  have h1 : fromF f fr x.s = some z := hz
                  unfold fromF at h1
                  split at h1
                  · rw [e] at h1
                    have := HTV.out z h1
                    omega
                  · cases h1))
                go_wp2_with fail
                exact ⟨⟨k, s + 1, by omega, by omega, rfl, by simp, by rw [show ((s + 1 : Nat) : Int) = (s : Int) + 1 from by omega]; exact HN, HKB⟩, by simp [intOf]; omega⟩
              · have hzb : (hq == 0) = false := beq_eq_false_iff_ne.mpr hz
                by_cases hfr : (s : Int) < fr
                · have HN := Lib.hid (HKI.out.no (fun x hx e => by
                    obtain ⟨z, hz, he⟩ := HH.out x hx
                    have h1 : fromF f fr x.s = some z := hz
                    unfold fromF at h1
                    rw [e, if_neg (by omega)] at h1
                    cases h1))
                  go_wp2_with fail
                  exact ⟨⟨k, s + 1, by omega, by omega, rfl, by simp, by rw [show ((s + 1 : Nat) : Int) = (s : Int) + 1 from by omega]; exact HN, HKB⟩, by simp [intOf]; omega⟩
                · obtain ⟨x, hx, hxs, hxb, hxq⟩ : ∃ x ∈ hv, x.s = (s : Int) ∧ x.b = hq ∧ x.q = hq := by
                    cases hf : f (s : Int) with
                    | none => exact absurd (HTS.out hf) hz
                    | some z =>
                      obtain ⟨g1, _, _, g4, g5, _⟩ := HTV.out z hf
                      have hfz : fromF f fr z.vo.s = some z := by
                        unfold fromF
                        rw [show z.vo.s = (s : Int) from g1, if_pos (by omega)]
                        exact hf
                      obtain ⟨x, hx, he⟩ := List.mem_map.1 ((HD.out.2 z.vo).2 ⟨z, hfz, rfl⟩)
                      have e1 : x.vo.s = z.vo.s := by rw [he]
                      have e2 : x.vo.b = z.vo.b := by rw [he]
                      have e3 : x.vo.q = z.vo.q := by rw [he]
                      exact ⟨x, hx, (show x.s = z.s from e1).trans g1, (show x.b = z.b from e2).trans g4.symm, (show x.q = z.q from e3).trans (g5.trans g4.symm)⟩
                  obtain ⟨hxk, hklt, hKN⟩ := HKI.out.yes HD.out.1 hx hxs
                  have HN := Lib.hid hKN
                  have hkli : (k : Int) < (hv.length : Int) := by omega
                  have hs21i : (s : Int) < 21 := by omega
                  have hkd : decide ((hv.length : Int) ≤ (k : Int)) = false := decide_eq_false (by omega)
                  have hkd2 : decide ((k : Int) ≥ (hv.length : Int)) = false := decide_eq_false (by omega)
                  have hk0 : (0 : Int) ≤ (k : Int) := by omega
                  obtain ⟨ad, rfl, hva⟩ := vh_at HROW.out hxk
                  obtain ⟨v0, v1, v2, v3, v4, v5, v6, v7⟩ := hva.below HKB.out
                  obtain ⟨ea, hea⟩ : ∃ ea, ea = ad.add (k * 8) := ⟨_, rfl⟩
                  rw [← hea] at v0 v1 v2 v3 v4 v5 v6 v7
                  have hea2 := hea.symm
                  rw [hxs] at v0
                  rw [hxb] at v1
                  rw [hxq] at v4
                  clear hea hx hxs hxb hxq hxk hKN
                  go_wp2_with fail
                  refine wp_region_noPanic ?_
                  refine wp_region_held_drew (S := (fun w' => w'.cell? ea = some (.int .i64 (s : Int)) ∧ w'.cell? ⟨ea.block, ea.off + 1, none⟩ = some (.int .i64 hq) ∧ w'.cell? ⟨ea.block, ea.off + 4, none⟩ = some (.int .i64 hq) ∧ w'.cell? ⟨X, s, none⟩ = some (.int .i64 hq))) (by kernel_rfl) ?r6s0 (fun hHeld0 => ?r6r0)
                  case r6s0 => (try dsimp only) <;> exact ⟨v0, v1, v4, y1⟩
                  refine wpAnyH_take (i := 0) (v := ?vr61) (by simp only [List.getElem?_toArray, List.getElem?_cons_zero, List.getElem?_cons_succ]; rfl) (by kernel_rfl) (by kernel_rfl) (by kernel_rfl) (fun _ _ _ h => h) (Or.inl ⟨by rfl, ?hr61⟩) hHeld0 ?qr61
                  case hr61 => (intro w hSw; (try dsimp only at hSw); go_simp <;> with_reducible rfl)
                  try simp only [Act.put, List.setIfInBounds_toArray, List.set_cons_zero, List.set_cons_succ]
                  refine wpAnyH_take (i := 1) (v := ?vr62) (by simp only [List.getElem?_toArray, List.getElem?_cons_zero, List.getElem?_cons_succ]; rfl) (by kernel_rfl) (by kernel_rfl) (by kernel_rfl) (fun _ _ _ h => h) (Or.inl ⟨by rfl, ?hr62⟩) hHeld0 ?qr62
                  case hr62 => (intro w hSw; (try dsimp only at hSw); go_simp <;> with_reducible rfl)
                  try simp only [Act.put, List.setIfInBounds_toArray, List.set_cons_zero, List.set_cons_succ]
                  refine wpAnyH_take (i := 2) (v := ?vr63) (by simp only [List.getElem?_toArray, List.getElem?_cons_zero, List.getElem?_cons_succ]; rfl) (by kernel_rfl) (by kernel_rfl) (by kernel_rfl) (fun _ _ _ h => h) (Or.inl ⟨by rfl, ?hr63⟩) hHeld0 ?qr63
                  case hr63 => (intro w hSw; (try dsimp only at hSw); go_simp <;> with_reducible rfl)
                  try simp only [Act.put, List.setIfInBounds_toArray, List.set_cons_zero, List.set_cons_succ]
                  refine wpAnyH_take (i := 3) (v := .bool false) (by simp only [List.getElem?_toArray, List.getElem?_cons_zero, List.getElem?_cons_succ]; rfl) (by kernel_rfl) (by kernel_rfl) (by kernel_rfl) (fun _ _ _ h => h) (Or.inl ⟨by rfl, ?hr64⟩) hHeld0 ?qr64
                  case hr64 => (intro w hSw; (try dsimp only at hSw); go_simp; (try simp [hkd, hkd2]))
                  try simp only [Act.put, List.setIfInBounds_toArray, List.set_cons_zero, List.set_cons_succ]
                  refine wpAnyH_take (i := 4) (v := ?vr65) (by simp only [List.getElem?_toArray, List.getElem?_cons_zero, List.getElem?_cons_succ]; rfl) (by kernel_rfl) (by kernel_rfl) (by kernel_rfl) (fun _ _ _ h => h) (Or.inl ⟨by rfl, ?hr65⟩) hHeld0 ?qr65
                  case hr65 => (intro w hSw; (try dsimp only at hSw); go_simp <;> with_reducible rfl)
                  try simp only [Act.put, List.setIfInBounds_toArray, List.set_cons_zero, List.set_cons_succ]
                  refine wpAnyH_take (i := 5) (v := ?vr66) (by simp only [List.getElem?_toArray, List.getElem?_cons_zero, List.getElem?_cons_succ]; rfl) (by kernel_rfl) (by kernel_rfl) (by kernel_rfl) (fun _ _ _ h => h) (Or.inl ⟨by rfl, ?hr66⟩) hHeld0 ?qr66
                  case hr66 => (intro w hSw; (try dsimp only at hSw); go_simp <;> with_reducible rfl)
                  try simp only [Act.put, List.setIfInBounds_toArray, List.set_cons_zero, List.set_cons_succ]
                  refine wpAnyH_take (i := 6) (v := ?vr67) (by simp only [List.getElem?_toArray, List.getElem?_cons_zero, List.getElem?_cons_succ]; rfl) (by kernel_rfl) (by kernel_rfl) (by kernel_rfl) (fun _ _ _ h => h) (Or.inl ⟨by rfl, ?hr67⟩) hHeld0 ?qr67
                  case hr67 => (intro w hSw; (try dsimp only at hSw); go_simp <;> with_reducible rfl)
                  try simp only [Act.put, List.setIfInBounds_toArray, List.set_cons_zero, List.set_cons_succ]
                  refine wpAnyH_take (i := 7) (v := ?vr68) (by simp only [List.getElem?_toArray, List.getElem?_cons_zero, List.getElem?_cons_succ]; rfl) (by kernel_rfl) (by kernel_rfl) (by kernel_rfl) (fun _ _ _ h => h) (Or.inl ⟨by rfl, ?hr68⟩) hHeld0 ?qr68
                  case hr68 => (intro w hSw; (try dsimp only at hSw); go_simp <;> with_reducible rfl)
                  try simp only [Act.put, List.setIfInBounds_toArray, List.set_cons_zero, List.set_cons_succ]
                  refine wpAnyH_take (i := 8) (v := ?vr69) (by simp only [List.getElem?_toArray, List.getElem?_cons_zero, List.getElem?_cons_succ]; rfl) (by kernel_rfl) (by kernel_rfl) (by kernel_rfl) (fun _ _ _ h => h) (Or.inl ⟨by rfl, ?hr69⟩) hHeld0 ?qr69
                  case hr69 => (intro w hSw; (try dsimp only at hSw); go_simp <;> with_reducible rfl)
                  try simp only [Act.put, List.setIfInBounds_toArray, List.set_cons_zero, List.set_cons_succ]
                  refine wpAnyH_take (i := 9) (v := ?vr610) (by simp only [List.getElem?_toArray, List.getElem?_cons_zero, List.getElem?_cons_succ]; rfl) (by kernel_rfl) (by kernel_rfl) (by kernel_rfl) (fun _ _ _ h => h) (Or.inl ⟨by rfl, ?hr610⟩) hHeld0 ?qr610
                  case hr610 => (intro w hSw; (try dsimp only at hSw); go_simp <;> with_reducible rfl)
                  try simp only [Act.put, List.setIfInBounds_toArray, List.set_cons_zero, List.set_cons_succ]
                  refine wpAnyH_take (i := 10) (v := ?vr611) (by simp only [List.getElem?_toArray, List.getElem?_cons_zero, List.getElem?_cons_succ]; rfl) (by kernel_rfl) (by kernel_rfl) (by kernel_rfl) (fun _ _ _ h => h) (Or.inl ⟨by rfl, ?hr611⟩) hHeld0 ?qr611
                  case hr611 => (intro w hSw; (try dsimp only at hSw); go_simp <;> with_reducible rfl)
                  try simp only [Act.put, List.setIfInBounds_toArray, List.set_cons_zero, List.set_cons_succ]
                  refine wpAnyH_take (i := 11) (v := ?vr612) (by simp only [List.getElem?_toArray, List.getElem?_cons_zero, List.getElem?_cons_succ]; rfl) (by kernel_rfl) (by kernel_rfl) (by kernel_rfl) (fun _ _ _ h => h) (Or.inl ⟨by rfl, ?hr612⟩) hHeld0 ?qr612
                  case hr612 => (intro w hSw; (try dsimp only at hSw); go_simp <;> with_reducible rfl)
                  try simp only [Act.put, List.setIfInBounds_toArray, List.set_cons_zero, List.set_cons_succ]
                  refine wpAnyH_take (i := 12) (v := ?vr613) (by simp only [List.getElem?_toArray, List.getElem?_cons_zero, List.getElem?_cons_succ]; rfl) (by kernel_rfl) (by kernel_rfl) (by kernel_rfl) (fun _ _ _ h => h) (Or.inl ⟨by rfl, ?hr613⟩) hHeld0 ?qr613
                  case hr613 => (intro w hSw; (try dsimp only at hSw); go_simp <;> with_reducible rfl)
                  try simp only [Act.put, List.setIfInBounds_toArray, List.set_cons_zero, List.set_cons_succ]
                  refine wpAnyH_take (i := 13) (v := ?vr614) (by simp only [List.getElem?_toArray, List.getElem?_cons_zero, List.getElem?_cons_succ]; rfl) (by kernel_rfl) (by kernel_rfl) (by kernel_rfl) (fun _ _ _ h => h) (Or.inl ⟨by rfl, ?hr614⟩) hHeld0 ?qr614
                  case hr614 => (intro w hSw; (try dsimp only at hSw); go_simp <;> with_reducible rfl)
                  try simp only [Act.put, List.setIfInBounds_toArray, List.set_cons_zero, List.set_cons_succ]
                  refine wpAnyH_take (i := 14) (v := ?vr615) (by simp only [List.getElem?_toArray, List.getElem?_cons_zero, List.getElem?_cons_succ]; rfl) (by kernel_rfl) (by kernel_rfl) (by kernel_rfl) (fun _ _ _ h => h) (Or.inl ⟨by rfl, ?hr615⟩) hHeld0 ?qr615
                  case hr615 => (intro w hSw; (try dsimp only at hSw); go_simp <;> with_reducible rfl)
                  try simp only [Act.put, List.setIfInBounds_toArray, List.set_cons_zero, List.set_cons_succ]
                  refine wpAnyH_take (i := 15) (v := ?vr616) (by simp only [List.getElem?_toArray, List.getElem?_cons_zero, List.getElem?_cons_succ]; rfl) (by kernel_rfl) (by kernel_rfl) (by kernel_rfl) (fun _ _ _ h => h) (Or.inl ⟨by rfl, ?hr616⟩) hHeld0 ?qr616
                  case hr616 => (intro w hSw; (try dsimp only at hSw); go_simp <;> with_reducible rfl)
                  try simp only [Act.put, List.setIfInBounds_toArray, List.set_cons_zero, List.set_cons_succ]
                  refine wpAnyH_take (i := 16) (v := ?vr617) (by simp only [List.getElem?_toArray, List.getElem?_cons_zero, List.getElem?_cons_succ]; rfl) (by kernel_rfl) (by kernel_rfl) (by kernel_rfl) (fun _ _ _ h => h) (Or.inl ⟨by rfl, ?hr617⟩) hHeld0 ?qr617
                  case hr617 => (intro w hSw; (try dsimp only at hSw); go_simp <;> with_reducible rfl)
                  try simp only [Act.put, List.setIfInBounds_toArray, List.set_cons_zero, List.set_cons_succ]
                  refine wpAnyH_take (i := 17) (v := ?vr618) (by simp only [List.getElem?_toArray, List.getElem?_cons_zero, List.getElem?_cons_succ]; rfl) (by kernel_rfl) (by kernel_rfl) (by kernel_rfl) (fun _ _ _ h => h) (Or.inl ⟨by rfl, ?hr618⟩) hHeld0 ?qr618
                  case hr618 => (intro w hSw; (try dsimp only at hSw); go_simp <;> with_reducible rfl)
                  try simp only [Act.put, List.setIfInBounds_toArray, List.set_cons_zero, List.set_cons_succ]
                  refine wpAnyH_take (i := 18) (v := ?vr619) (by simp only [List.getElem?_toArray, List.getElem?_cons_zero, List.getElem?_cons_succ]; rfl) (by kernel_rfl) (by kernel_rfl) (by kernel_rfl) (fun _ _ _ h => h) (Or.inl ⟨by rfl, ?hr619⟩) hHeld0 ?qr619
                  case hr619 => (intro w hSw; (try dsimp only at hSw); go_simp <;> with_reducible rfl)
                  try simp only [Act.put, List.setIfInBounds_toArray, List.set_cons_zero, List.set_cons_succ]
                  refine wpAnyH_take (i := 19) (v := ?vr620) (by simp only [List.getElem?_toArray, List.getElem?_cons_zero, List.getElem?_cons_succ]; rfl) (by kernel_rfl) (by kernel_rfl) (by kernel_rfl) (fun _ _ _ h => h) (Or.inl ⟨by rfl, ?hr620⟩) hHeld0 ?qr620
                  case hr620 => (intro w hSw; (try dsimp only at hSw); go_simp <;> with_reducible rfl)
                  try simp only [Act.put, List.setIfInBounds_toArray, List.set_cons_zero, List.set_cons_succ]
                  refine wpAnyH_take (i := 20) (v := ?vr621) (by simp only [List.getElem?_toArray, List.getElem?_cons_zero, List.getElem?_cons_succ]; rfl) (by kernel_rfl) (by kernel_rfl) (by kernel_rfl) (fun _ _ _ h => h) (Or.inl ⟨by rfl, ?hr621⟩) hHeld0 ?qr621
                  case hr621 => (intro w hSw; (try dsimp only at hSw); go_simp <;> with_reducible rfl)
                  try simp only [Act.put, List.setIfInBounds_toArray, List.set_cons_zero, List.set_cons_succ]
                  refine wpAnyH_take (i := 21) (v := ?vr622) (by simp only [List.getElem?_toArray, List.getElem?_cons_zero, List.getElem?_cons_succ]; rfl) (by kernel_rfl) (by kernel_rfl) (by kernel_rfl) (fun _ _ _ h => h) (Or.inl ⟨by rfl, ?hr622⟩) hHeld0 ?qr622
                  case hr622 => (intro w hSw; (try dsimp only at hSw); go_simp <;> with_reducible rfl)
                  try simp only [Act.put, List.setIfInBounds_toArray, List.set_cons_zero, List.set_cons_succ]
                  refine wpAnyH_take (i := 22) (v := ?vr623) (by simp only [List.getElem?_toArray, List.getElem?_cons_zero, List.getElem?_cons_succ]; rfl) (by kernel_rfl) (by kernel_rfl) (by kernel_rfl) (fun _ _ _ h => h) (Or.inl ⟨by rfl, ?hr623⟩) hHeld0 ?qr623
                  case hr623 => (intro w hSw; (try dsimp only at hSw); go_simp <;> with_reducible rfl)
                  try simp only [Act.put, List.setIfInBounds_toArray, List.set_cons_zero, List.set_cons_succ]
                  refine wpAnyH_take (i := 23) (v := ?vr624) (by simp only [List.getElem?_toArray, List.getElem?_cons_zero, List.getElem?_cons_succ]; rfl) (by kernel_rfl) (by kernel_rfl) (by kernel_rfl) (fun _ _ _ h => h) (Or.inl ⟨by rfl, ?hr624⟩) hHeld0 ?qr624
                  case hr624 => (intro w hSw; (try dsimp only at hSw); go_simp <;> with_reducible rfl)
                  try simp only [Act.put, List.setIfInBounds_toArray, List.set_cons_zero, List.set_cons_succ]
                  refine wpAnyH_take (i := 24) (v := ?vr625) (by simp only [List.getElem?_toArray, List.getElem?_cons_zero, List.getElem?_cons_succ]; rfl) (by kernel_rfl) (by kernel_rfl) (by kernel_rfl) (fun _ _ _ h => h) (Or.inl ⟨by rfl, ?hr625⟩) hHeld0 ?qr625
                  case hr625 => (intro w hSw; (try dsimp only at hSw); go_simp <;> with_reducible rfl)
                  try simp only [Act.put, List.setIfInBounds_toArray, List.set_cons_zero, List.set_cons_succ]
                  refine wpAnyH_take (i := 25) (v := ?vr626) (by simp only [List.getElem?_toArray, List.getElem?_cons_zero, List.getElem?_cons_succ]; rfl) (by kernel_rfl) (by kernel_rfl) (by kernel_rfl) (fun _ _ _ h => h) (Or.inl ⟨by rfl, ?hr626⟩) hHeld0 ?qr626
                  case hr626 => (intro w hSw; (try dsimp only at hSw); go_simp <;> with_reducible rfl)
                  try simp only [Act.put, List.setIfInBounds_toArray, List.set_cons_zero, List.set_cons_succ]
                  refine wpAnyH_take (i := 26) (v := ?vr627) (by simp only [List.getElem?_toArray, List.getElem?_cons_zero, List.getElem?_cons_succ]; rfl) (by kernel_rfl) (by kernel_rfl) (by kernel_rfl) (fun _ _ _ h => h) (Or.inl ⟨by rfl, ?hr627⟩) hHeld0 ?qr627
                  case hr627 => (intro w hSw; (try dsimp only at hSw); go_simp <;> with_reducible rfl)
                  try simp only [Act.put, List.setIfInBounds_toArray, List.set_cons_zero, List.set_cons_succ]
                  refine wpAnyH_take (i := 27) (v := ?vr628) (by simp only [List.getElem?_toArray, List.getElem?_cons_zero, List.getElem?_cons_succ]; rfl) (by kernel_rfl) (by kernel_rfl) (by kernel_rfl) (fun _ _ _ h => h) (Or.inl ⟨by rfl, ?hr628⟩) hHeld0 ?qr628
                  case hr628 => (intro w hSw; (try dsimp only at hSw); go_simp <;> with_reducible rfl)
                  try simp only [Act.put, List.setIfInBounds_toArray, List.set_cons_zero, List.set_cons_succ]
                  refine wpAnyH_take (i := 28) (v := ?vr629) (by simp only [List.getElem?_toArray, List.getElem?_cons_zero, List.getElem?_cons_succ]; rfl) (by kernel_rfl) (by kernel_rfl) (by kernel_rfl) (fun _ _ _ h => h) (Or.inl ⟨by rfl, ?hr629⟩) hHeld0 ?qr629
                  case hr629 => (intro w hSw; (try dsimp only at hSw); go_simp <;> with_reducible rfl)
                  try simp only [Act.put, List.setIfInBounds_toArray, List.set_cons_zero, List.set_cons_succ]
                  refine wpAnyH_take (i := 29) (v := ?vr630) (by simp only [List.getElem?_toArray, List.getElem?_cons_zero, List.getElem?_cons_succ]; rfl) (by kernel_rfl) (by kernel_rfl) (by kernel_rfl) (fun _ _ _ h => h) (Or.inl ⟨by rfl, ?hr630⟩) hHeld0 ?qr630
                  case hr630 => (intro w hSw; (try dsimp only at hSw); go_simp <;> with_reducible rfl)
                  try simp only [Act.put, List.setIfInBounds_toArray, List.set_cons_zero, List.set_cons_succ]
                  refine wpAnyH_take (i := 30) (v := ?vr631) (by simp only [List.getElem?_toArray, List.getElem?_cons_zero, List.getElem?_cons_succ]; rfl) (by kernel_rfl) (by kernel_rfl) (by kernel_rfl) (fun _ _ _ h => h) (Or.inl ⟨by rfl, ?hr631⟩) hHeld0 ?qr631
                  case hr631 => (intro w hSw; (try dsimp only at hSw); go_simp <;> with_reducible rfl)
                  try simp only [Act.put, List.setIfInBounds_toArray, List.set_cons_zero, List.set_cons_succ]
                  refine wpAnyH_take (i := 31) (v := ?vr632) (by simp only [List.getElem?_toArray, List.getElem?_cons_zero, List.getElem?_cons_succ]; rfl) (by kernel_rfl) (by kernel_rfl) (by kernel_rfl) (fun _ _ _ h => h) (Or.inl ⟨by rfl, ?hr632⟩) hHeld0 ?qr632
                  case hr632 => (intro w hSw; (try dsimp only at hSw); go_simp <;> with_reducible rfl)
                  try simp only [Act.put, List.setIfInBounds_toArray, List.set_cons_zero, List.set_cons_succ]
                  refine wpAnyH_take (i := 32) (v := ?vr633) (by simp only [List.getElem?_toArray, List.getElem?_cons_zero, List.getElem?_cons_succ]; rfl) (by kernel_rfl) (by kernel_rfl) (by kernel_rfl) (fun _ _ _ h => h) (Or.inl ⟨by rfl, ?hr633⟩) hHeld0 ?qr633
                  case hr633 => (intro w hSw; (try dsimp only at hSw); go_simp <;> with_reducible rfl)
                  try simp only [Act.put, List.setIfInBounds_toArray, List.set_cons_zero, List.set_cons_succ]
                  refine wpAnyH_take (i := 33) (v := ?vr634) (by simp only [List.getElem?_toArray, List.getElem?_cons_zero, List.getElem?_cons_succ]; rfl) (by kernel_rfl) (by kernel_rfl) (by kernel_rfl) (fun _ _ _ h => h) (Or.inl ⟨by rfl, ?hr634⟩) hHeld0 ?qr634
                  case hr634 => (intro w hSw; (try dsimp only at hSw); go_simp <;> with_reducible rfl)
                  try simp only [Act.put, List.setIfInBounds_toArray, List.set_cons_zero, List.set_cons_succ]
                  refine wpAnyH_take (i := 34) (v := ?vr635) (by simp only [List.getElem?_toArray, List.getElem?_cons_zero, List.getElem?_cons_succ]; rfl) (by kernel_rfl) (by kernel_rfl) (by kernel_rfl) (fun _ _ _ h => h) (Or.inl ⟨by rfl, ?hr635⟩) hHeld0 ?qr635
                  case hr635 => (intro w hSw; (try dsimp only at hSw); go_simp <;> with_reducible rfl)
                  try simp only [Act.put, List.setIfInBounds_toArray, List.set_cons_zero, List.set_cons_succ]
                  refine wpAnyH_take (i := 35) (v := ?vr636) (by simp only [List.getElem?_toArray, List.getElem?_cons_zero, List.getElem?_cons_succ]; rfl) (by kernel_rfl) (by kernel_rfl) (by kernel_rfl) (fun _ _ _ h => h) (Or.inl ⟨by rfl, ?hr636⟩) hHeld0 ?qr636
                  case hr636 => (intro w hSw; (try dsimp only at hSw); go_simp <;> with_reducible rfl)
                  try simp only [Act.put, List.setIfInBounds_toArray, List.set_cons_zero, List.set_cons_succ]
                  refine wpAnyH_done (by kernel_rfl) ?_ _
                  refine NoPanic.normal ?_
                  go_wp2_with fail
                  exact ⟨⟨k + 1, s + 1, by omega, by omega, by simp, by simp, by rw [show ((s + 1 : Nat) : Int) = (s : Int) + 1 from by omega]; exact HN, Lib.hid (HKB.out.trans (((Below.refl _ wr).drew).mono HKB.out.size))⟩, by simp [intOf]; omega⟩
            · have hs20i : ¬ (s : Int) ≤ 20 := by omega
              have hke : k = hv.length := by
                rcases Nat.lt_or_ge k hv.length with h1 | h1
                · exfalso
                  have h2 := HKI.out.2 k _ (List.getElem?_eq_getElem h1)
                  obtain ⟨z, hz, he⟩ := HH.out hv[k] (List.getElem_mem h1)
                  have h3 : fromF f fr hv[k].s = some z := hz
                  unfold fromF at h3
                  split at h3
                  · have := HT.out.vote _ _ h3; omega
                  · cases h3
                · omega
              subst hke
              go_wp2_with (go_at_call 14; refine (promised_any b 100 _ (pw_cell_below HKB.out HC2.out)).mono ?_; rintro r w3 ⟨rfl, rfl⟩)
              go_ret
              exact ⟨by simp, HB0.out.trans ((HB2.out.trans (HKB.out.mono HB2.out.size)).mono HB0.out.size)⟩
    · have HC := Lib.hid HA.out.cell
      have HGR := Lib.hid (((HG.out.below HB0.out).below (HBR.out.mono (Nat.le_refl _))))
      cases late with
      | true =>
        by_cases hi3 : (i : Int) - 1 < 1
        · go_wp2_with (first
            | (go_at_call 13; refine (prepare_arg b ((i : Int) - 1) fr wr HGR.out hi3).mono ?_; rintro r w2 ⟨rfl, hB2⟩; have HB2 := Lib.hid (HBR.out.trans (hB2.mono HBR.out.size)); clear hB2)
            | (go_at_call 14; refine (promised_any b i wr HC.out).mono ?_; rintro r w2 ⟨rfl, rfl⟩))
          go_ret
          exact ⟨rfl, HB0.out.trans (HB2.out.mono HB0.out.size)⟩
        · go_wp2_with (first
            | (go_at_call 13; refine (prepare_old b i ((i : Int) - 1) fr HC.out (by omega) (by omega)).mono ?_; rintro r w2 ⟨rfl, hB2⟩; have HB2 := Lib.hid (HBR.out.trans (hB2.mono HBR.out.size)); clear hB2)
            | (go_at_call 14; refine (promised_any b i wr HC.out).mono ?_; rintro r w2 ⟨rfl, rfl⟩))
          go_ret
          exact ⟨rfl, HB0.out.trans (HB2.out.mono HB0.out.size)⟩
      | false =>
        go_wp2_with (go_at_call 13; refine (prepare_g (n := 100) (fr := fr) HA.out HBR.out.size (fun y z e => by have := HT.out.vote y z e; omega) (by decide) (by omega)).mono ?_
                     rintro r w2 ⟨v, hv, rfl, hT2, hD2, hA2⟩
                     obtain ⟨Av, cv, rfl, hrow⟩ := hT2.row
                     have hvl : hv.length ≤ 64 := hT2.2.1
                     obtain ⟨F2, hA3, hF3, hK3⟩ := hA2
                     have HROW := Lib.hid hrow
                     have HD := Lib.hid hD2
                     have HC2 := Lib.hid hA3.cell
                     have HX2 := Lib.hid (HX.out.keep hK3 HF.out)
                     have HB2 := Lib.hid (HBR.out.trans (hK3.to_below HBR.out.size (fun k hk => (HA.out.2.1 k hk).1)))
                     clear hrow hD2 hA3 hF3 hK3 hT2)
        have HH := Lib.hid (fun x (hx : x ∈ hv) => (HD.out.2 x.vo).1 (List.mem_map.2 ⟨x, hx, rfl⟩))
        go_loopw [15, 16] (fun kv sv wx => ∃ (k s : Nat), 1 ≤ s ∧ s ≤ 21 ∧ kv = .int .i64 (k : Int) ∧ sv = .int .i64 (s : Int) ∧ RowKit.Hid (KInv hv k s) ∧ RowKit.Hid (Below w2.heap.size w2 wx)) (fun _ sv _ => 21 - (intOf sv).toNat)
        case atStart => exact ⟨0, 1, by omega, by omega, rfl, rfl, Lib.hid ⟨Nat.zero_le _, fun j x hx => by
          obtain ⟨z, hz, he⟩ := HH.out x (List.mem_of_getElem? hx)
          have h1 : fromF f fr x.s = some z := hz
          unfold fromF at h1
          split at h1
          · have := HT.out.vote _ _ h1; omega
          · cases h1⟩, Lib.hid (Below.refl _ _)⟩
        case round =>
          obtain ⟨k, s, hs1, hs21, rfl, rfl, HKI, HKB⟩ := hrel
          have hkl : k ≤ hv.length := HKI.out.1
          by_cases hs20 : s ≤ 20
          · have hs20i : (s : Int) ≤ 20 := by omega
            have hs0 : (0 : Int) ≤ (s : Int) := by omega
            have HTS := Lib.hid (HT.out.zero s hs1 hs20)
            have HTV := Lib.hid (fun z (e : f (s : Int) = some z) => HT.out.vote (s : Int) z e)
            rw [Int.toNat_natCast] at HTV
            have y1 := pw_cell_below HKB.out (HX2.out.get (j := s) (by omega)).1
            obtain ⟨hq, hhq⟩ : ∃ hq, hq = h s := ⟨_, rfl⟩
            rw [← hhq] at y1 HTS HTV
            clear hhq
            by_cases hz : hq = 0
            · subst hz
              have HN := Lib.hid (HKI.out.no (fun x hx e => by
                obtain ⟨z, hz, he⟩ := HH.out x hx
                have h1 : fromF f fr x.s = some z := hz
                unfold fromF at h1
                split at h1
                · rw [e] at h1
                  have := HTV.out z h1
                  omega
                · cases h1))
              go_wp2_with fail
              exact ⟨⟨k, s + 1, by omega, by omega, rfl, by simp, by rw [show ((s + 1 : Nat) : Int) = (s : Int) + 1 from by omega]; exact HN, HKB⟩, by simp [intOf]; omega⟩
            · have hzb : (hq == 0) = false := beq_eq_false_iff_ne.mpr hz
              by_cases hfr : (s : Int) < fr
              · have HN := Lib.hid (HKI.out.no (fun x hx e => by
                  obtain ⟨z, hz, he⟩ := HH.out x hx
                  have h1 : fromF f fr x.s = some z := hz
                  unfold fromF at h1
                  rw [e, if_neg (by omega)] at h1
                  cases h1))
                go_wp2_with fail
                exact ⟨⟨k, s + 1, by omega, by omega, rfl, by simp, by rw [show ((s + 1 : Nat) : Int) = (s : Int) + 1 from by omega]; exact HN, HKB⟩, by simp [intOf]; omega⟩
              · obtain ⟨x, hx, hxs, hxb, hxq⟩ : ∃ x ∈ hv, x.s = (s : Int) ∧ x.b = hq ∧ x.q = hq := by
                  cases hf : f (s : Int) with
                  | none => exact absurd (HTS.out hf) hz
                  | some z =>
                    obtain ⟨g1, _, _, g4, g5, _⟩ := HTV.out z hf
                    have hfz : fromF f fr z.vo.s = some z := by
                      unfold fromF
                      rw [show z.vo.s = (s : Int) from g1, if_pos (by omega)]
                      exact hf
                    obtain ⟨x, hx, he⟩ := List.mem_map.1 ((HD.out.2 z.vo).2 ⟨z, hfz, rfl⟩)
                    have e1 : x.vo.s = z.vo.s := by rw [he]
                    have e2 : x.vo.b = z.vo.b := by rw [he]
                    have e3 : x.vo.q = z.vo.q := by rw [he]
                    exact ⟨x, hx, (show x.s = z.s from e1).trans g1, (show x.b = z.b from e2).trans g4.symm, (show x.q = z.q from e3).trans (g5.trans g4.symm)⟩
                obtain ⟨hxk, hklt, hKN⟩ := HKI.out.yes HD.out.1 hx hxs
                have HN := Lib.hid hKN
                have hkli : (k : Int) < (hv.length : Int) := by omega
                have hs21i : (s : Int) < 21 := by omega
                have hkd : decide ((hv.length : Int) ≤ (k : Int)) = false := decide_eq_false (by omega)
                have hkd2 : decide ((k : Int) ≥ (hv.length : Int)) = false := decide_eq_false (by omega)
                have hk0 : (0 : Int) ≤ (k : Int) := by omega
                obtain ⟨ad, rfl, hva⟩ := vh_at HROW.out hxk
                obtain ⟨v0, v1, v2, v3, v4, v5, v6, v7⟩ := hva.below HKB.out
                obtain ⟨ea, hea⟩ : ∃ ea, ea = ad.add (k * 8) := ⟨_, rfl⟩
                rw [← hea] at v0 v1 v2 v3 v4 v5 v6 v7
                have hea2 := hea.symm
                rw [hxs] at v0
                rw [hxb] at v1
                rw [hxq] at v4
                clear hea hx hxs hxb hxq hxk hKN
                go_wp2_with fail
                refine wp_region_noPanic ?_
                refine wp_region_held_drew (S := (fun w' => w'.cell? ea = some (.int .i64 (s : Int)) ∧ w'.cell? ⟨ea.block, ea.off + 1, none⟩ = some (.int .i64 hq) ∧ w'.cell? ⟨ea.block, ea.off + 4, none⟩ = some (.int .i64 hq) ∧ w'.cell? ⟨X, s, none⟩ = some (.int .i64 hq))) (by kernel_rfl) ?r4s0 (fun hHeld0 => ?r4r0)
                case r4s0 => (try dsimp only) <;> exact ⟨v0, v1, v4, y1⟩
                refine wpAnyH_take (i := 0) (v := ?vr41) (by simp only [List.getElem?_toArray, List.getElem?_cons_zero, List.getElem?_cons_succ]; rfl) (by kernel_rfl) (by kernel_rfl) (by kernel_rfl) (fun _ _ _ h => h) (Or.inl ⟨by rfl, ?hr41⟩) hHeld0 ?qr41
                case hr41 => (intro w hSw; (try dsimp only at hSw); go_simp <;> with_reducible rfl)
                try simp only [Act.put, List.setIfInBounds_toArray, List.set_cons_zero, List.set_cons_succ]
                refine wpAnyH_take (i := 1) (v := ?vr42) (by simp only [List.getElem?_toArray, List.getElem?_cons_zero, List.getElem?_cons_succ]; rfl) (by kernel_rfl) (by kernel_rfl) (by kernel_rfl) (fun _ _ _ h => h) (Or.inl ⟨by rfl, ?hr42⟩) hHeld0 ?qr42
                case hr42 => (intro w hSw; (try dsimp only at hSw); go_simp <;> with_reducible rfl)
                try simp only [Act.put, List.setIfInBounds_toArray, List.set_cons_zero, List.set_cons_succ]
                refine wpAnyH_take (i := 2) (v := ?vr43) (by simp only [List.getElem?_toArray, List.getElem?_cons_zero, List.getElem?_cons_succ]; rfl) (by kernel_rfl) (by kernel_rfl) (by kernel_rfl) (fun _ _ _ h => h) (Or.inl ⟨by rfl, ?hr43⟩) hHeld0 ?qr43
                case hr43 => (intro w hSw; (try dsimp only at hSw); go_simp <;> with_reducible rfl)
                try simp only [Act.put, List.setIfInBounds_toArray, List.set_cons_zero, List.set_cons_succ]
                refine wpAnyH_take (i := 3) (v := .bool false) (by simp only [List.getElem?_toArray, List.getElem?_cons_zero, List.getElem?_cons_succ]; rfl) (by kernel_rfl) (by kernel_rfl) (by kernel_rfl) (fun _ _ _ h => h) (Or.inl ⟨by rfl, ?hr44⟩) hHeld0 ?qr44
                case hr44 => (intro w hSw; (try dsimp only at hSw); go_simp; (try simp [hkd, hkd2]))
                try simp only [Act.put, List.setIfInBounds_toArray, List.set_cons_zero, List.set_cons_succ]
                refine wpAnyH_take (i := 4) (v := ?vr45) (by simp only [List.getElem?_toArray, List.getElem?_cons_zero, List.getElem?_cons_succ]; rfl) (by kernel_rfl) (by kernel_rfl) (by kernel_rfl) (fun _ _ _ h => h) (Or.inl ⟨by rfl, ?hr45⟩) hHeld0 ?qr45
                case hr45 => (intro w hSw; (try dsimp only at hSw); go_simp <;> with_reducible rfl)
                try simp only [Act.put, List.setIfInBounds_toArray, List.set_cons_zero, List.set_cons_succ]
                refine wpAnyH_take (i := 5) (v := ?vr46) (by simp only [List.getElem?_toArray, List.getElem?_cons_zero, List.getElem?_cons_succ]; rfl) (by kernel_rfl) (by kernel_rfl) (by kernel_rfl) (fun _ _ _ h => h) (Or.inl ⟨by rfl, ?hr46⟩) hHeld0 ?qr46
                case hr46 => (intro w hSw; (try dsimp only at hSw); go_simp <;> with_reducible rfl)
                try simp only [Act.put, List.setIfInBounds_toArray, List.set_cons_zero, List.set_cons_succ]
                refine wpAnyH_take (i := 6) (v := ?vr47) (by simp only [List.getElem?_toArray, List.getElem?_cons_zero, List.getElem?_cons_succ]; rfl) (by kernel_rfl) (by kernel_rfl) (by kernel_rfl) (fun _ _ _ h => h) (Or.inl ⟨by rfl, ?hr47⟩) hHeld0 ?qr47
                case hr47 => (intro w hSw; (try dsimp only at hSw); go_simp <;> with_reducible rfl)
                try simp only [Act.put, List.setIfInBounds_toArray, List.set_cons_zero, List.set_cons_succ]
                refine wpAnyH_take (i := 7) (v := ?vr48) (by simp only [List.getElem?_toArray, List.getElem?_cons_zero, List.getElem?_cons_succ]; rfl) (by kernel_rfl) (by kernel_rfl) (by kernel_rfl) (fun _ _ _ h => h) (Or.inl ⟨by rfl, ?hr48⟩) hHeld0 ?qr48
                case hr48 => (intro w hSw; (try dsimp only at hSw); go_simp <;> with_reducible rfl)
                try simp only [Act.put, List.setIfInBounds_toArray, List.set_cons_zero, List.set_cons_succ]
                refine wpAnyH_take (i := 8) (v := ?vr49) (by simp only [List.getElem?_toArray, List.getElem?_cons_zero, List.getElem?_cons_succ]; rfl) (by kernel_rfl) (by kernel_rfl) (by kernel_rfl) (fun _ _ _ h => h) (Or.inl ⟨by rfl, ?hr49⟩) hHeld0 ?qr49
                case hr49 => (intro w hSw; (try dsimp only at hSw); go_simp <;> with_reducible rfl)
                try simp only [Act.put, List.setIfInBounds_toArray, List.set_cons_zero, List.set_cons_succ]
                refine wpAnyH_take (i := 9) (v := ?vr410) (by simp only [List.getElem?_toArray, List.getElem?_cons_zero, List.getElem?_cons_succ]; rfl) (by kernel_rfl) (by kernel_rfl) (by kernel_rfl) (fun _ _ _ h => h) (Or.inl ⟨by rfl, ?hr410⟩) hHeld0 ?qr410
                case hr410 => (intro w hSw; (try dsimp only at hSw); go_simp <;> with_reducible rfl)
                try simp only [Act.put, List.setIfInBounds_toArray, List.set_cons_zero, List.set_cons_succ]
                refine wpAnyH_take (i := 10) (v := ?vr411) (by simp only [List.getElem?_toArray, List.getElem?_cons_zero, List.getElem?_cons_succ]; rfl) (by kernel_rfl) (by kernel_rfl) (by kernel_rfl) (fun _ _ _ h => h) (Or.inl ⟨by rfl, ?hr411⟩) hHeld0 ?qr411
                case hr411 => (intro w hSw; (try dsimp only at hSw); go_simp <;> with_reducible rfl)
                try simp only [Act.put, List.setIfInBounds_toArray, List.set_cons_zero, List.set_cons_succ]
                refine wpAnyH_take (i := 11) (v := ?vr412) (by simp only [List.getElem?_toArray, List.getElem?_cons_zero, List.getElem?_cons_succ]; rfl) (by kernel_rfl) (by kernel_rfl) (by kernel_rfl) (fun _ _ _ h => h) (Or.inl ⟨by rfl, ?hr412⟩) hHeld0 ?qr412
                case hr412 => (intro w hSw; (try dsimp only at hSw); go_simp <;> with_reducible rfl)
                try simp only [Act.put, List.setIfInBounds_toArray, List.set_cons_zero, List.set_cons_succ]
                refine wpAnyH_take (i := 12) (v := ?vr413) (by simp only [List.getElem?_toArray, List.getElem?_cons_zero, List.getElem?_cons_succ]; rfl) (by kernel_rfl) (by kernel_rfl) (by kernel_rfl) (fun _ _ _ h => h) (Or.inl ⟨by rfl, ?hr413⟩) hHeld0 ?qr413
                case hr413 => (intro w hSw; (try dsimp only at hSw); go_simp <;> with_reducible rfl)
                try simp only [Act.put, List.setIfInBounds_toArray, List.set_cons_zero, List.set_cons_succ]
                refine wpAnyH_take (i := 13) (v := ?vr414) (by simp only [List.getElem?_toArray, List.getElem?_cons_zero, List.getElem?_cons_succ]; rfl) (by kernel_rfl) (by kernel_rfl) (by kernel_rfl) (fun _ _ _ h => h) (Or.inl ⟨by rfl, ?hr414⟩) hHeld0 ?qr414
                case hr414 => (intro w hSw; (try dsimp only at hSw); go_simp <;> with_reducible rfl)
                try simp only [Act.put, List.setIfInBounds_toArray, List.set_cons_zero, List.set_cons_succ]
                refine wpAnyH_take (i := 14) (v := ?vr415) (by simp only [List.getElem?_toArray, List.getElem?_cons_zero, List.getElem?_cons_succ]; rfl) (by kernel_rfl) (by kernel_rfl) (by kernel_rfl) (fun _ _ _ h => h) (Or.inl ⟨by rfl, ?hr415⟩) hHeld0 ?qr415
                case hr415 => (intro w hSw; (try dsimp only at hSw); go_simp <;> with_reducible rfl)
                try simp only [Act.put, List.setIfInBounds_toArray, List.set_cons_zero, List.set_cons_succ]
                refine wpAnyH_take (i := 15) (v := ?vr416) (by simp only [List.getElem?_toArray, List.getElem?_cons_zero, List.getElem?_cons_succ]; rfl) (by kernel_rfl) (by kernel_rfl) (by kernel_rfl) (fun _ _ _ h => h) (Or.inl ⟨by rfl, ?hr416⟩) hHeld0 ?qr416
                case hr416 => (intro w hSw; (try dsimp only at hSw); go_simp <;> with_reducible rfl)
                try simp only [Act.put, List.setIfInBounds_toArray, List.set_cons_zero, List.set_cons_succ]
                refine wpAnyH_take (i := 16) (v := ?vr417) (by simp only [List.getElem?_toArray, List.getElem?_cons_zero, List.getElem?_cons_succ]; rfl) (by kernel_rfl) (by kernel_rfl) (by kernel_rfl) (fun _ _ _ h => h) (Or.inl ⟨by rfl, ?hr417⟩) hHeld0 ?qr417
                case hr417 => (intro w hSw; (try dsimp only at hSw); go_simp <;> with_reducible rfl)
                try simp only [Act.put, List.setIfInBounds_toArray, List.set_cons_zero, List.set_cons_succ]
                refine wpAnyH_take (i := 17) (v := ?vr418) (by simp only [List.getElem?_toArray, List.getElem?_cons_zero, List.getElem?_cons_succ]; rfl) (by kernel_rfl) (by kernel_rfl) (by kernel_rfl) (fun _ _ _ h => h) (Or.inl ⟨by rfl, ?hr418⟩) hHeld0 ?qr418
                case hr418 => (intro w hSw; (try dsimp only at hSw); go_simp <;> with_reducible rfl)
                try simp only [Act.put, List.setIfInBounds_toArray, List.set_cons_zero, List.set_cons_succ]
                refine wpAnyH_take (i := 18) (v := ?vr419) (by simp only [List.getElem?_toArray, List.getElem?_cons_zero, List.getElem?_cons_succ]; rfl) (by kernel_rfl) (by kernel_rfl) (by kernel_rfl) (fun _ _ _ h => h) (Or.inl ⟨by rfl, ?hr419⟩) hHeld0 ?qr419
                case hr419 => (intro w hSw; (try dsimp only at hSw); go_simp <;> with_reducible rfl)
                try simp only [Act.put, List.setIfInBounds_toArray, List.set_cons_zero, List.set_cons_succ]
                refine wpAnyH_take (i := 19) (v := ?vr420) (by simp only [List.getElem?_toArray, List.getElem?_cons_zero, List.getElem?_cons_succ]; rfl) (by kernel_rfl) (by kernel_rfl) (by kernel_rfl) (fun _ _ _ h => h) (Or.inl ⟨by rfl, ?hr420⟩) hHeld0 ?qr420
                case hr420 => (intro w hSw; (try dsimp only at hSw); go_simp <;> with_reducible rfl)
                try simp only [Act.put, List.setIfInBounds_toArray, List.set_cons_zero, List.set_cons_succ]
                refine wpAnyH_take (i := 20) (v := ?vr421) (by simp only [List.getElem?_toArray, List.getElem?_cons_zero, List.getElem?_cons_succ]; rfl) (by kernel_rfl) (by kernel_rfl) (by kernel_rfl) (fun _ _ _ h => h) (Or.inl ⟨by rfl, ?hr421⟩) hHeld0 ?qr421
                case hr421 => (intro w hSw; (try dsimp only at hSw); go_simp <;> with_reducible rfl)
                try simp only [Act.put, List.setIfInBounds_toArray, List.set_cons_zero, List.set_cons_succ]
                refine wpAnyH_take (i := 21) (v := ?vr422) (by simp only [List.getElem?_toArray, List.getElem?_cons_zero, List.getElem?_cons_succ]; rfl) (by kernel_rfl) (by kernel_rfl) (by kernel_rfl) (fun _ _ _ h => h) (Or.inl ⟨by rfl, ?hr422⟩) hHeld0 ?qr422
                case hr422 => (intro w hSw; (try dsimp only at hSw); go_simp <;> with_reducible rfl)
                try simp only [Act.put, List.setIfInBounds_toArray, List.set_cons_zero, List.set_cons_succ]
                refine wpAnyH_take (i := 22) (v := ?vr423) (by simp only [List.getElem?_toArray, List.getElem?_cons_zero, List.getElem?_cons_succ]; rfl) (by kernel_rfl) (by kernel_rfl) (by kernel_rfl) (fun _ _ _ h => h) (Or.inl ⟨by rfl, ?hr423⟩) hHeld0 ?qr423
                case hr423 => (intro w hSw; (try dsimp only at hSw); go_simp <;> with_reducible rfl)
                try simp only [Act.put, List.setIfInBounds_toArray, List.set_cons_zero, List.set_cons_succ]
                refine wpAnyH_take (i := 23) (v := ?vr424) (by simp only [List.getElem?_toArray, List.getElem?_cons_zero, List.getElem?_cons_succ]; rfl) (by kernel_rfl) (by kernel_rfl) (by kernel_rfl) (fun _ _ _ h => h) (Or.inl ⟨by rfl, ?hr424⟩) hHeld0 ?qr424
                case hr424 => (intro w hSw; (try dsimp only at hSw); go_simp <;> with_reducible rfl)
                try simp only [Act.put, List.setIfInBounds_toArray, List.set_cons_zero, List.set_cons_succ]
                refine wpAnyH_take (i := 24) (v := ?vr425) (by simp only [List.getElem?_toArray, List.getElem?_cons_zero, List.getElem?_cons_succ]; rfl) (by kernel_rfl) (by kernel_rfl) (by kernel_rfl) (fun _ _ _ h => h) (Or.inl ⟨by rfl, ?hr425⟩) hHeld0 ?qr425
                case hr425 => (intro w hSw; (try dsimp only at hSw); go_simp <;> with_reducible rfl)
                try simp only [Act.put, List.setIfInBounds_toArray, List.set_cons_zero, List.set_cons_succ]
                refine wpAnyH_take (i := 25) (v := ?vr426) (by simp only [List.getElem?_toArray, List.getElem?_cons_zero, List.getElem?_cons_succ]; rfl) (by kernel_rfl) (by kernel_rfl) (by kernel_rfl) (fun _ _ _ h => h) (Or.inl ⟨by rfl, ?hr426⟩) hHeld0 ?qr426
                case hr426 => (intro w hSw; (try dsimp only at hSw); go_simp <;> with_reducible rfl)
                try simp only [Act.put, List.setIfInBounds_toArray, List.set_cons_zero, List.set_cons_succ]
                refine wpAnyH_take (i := 26) (v := ?vr427) (by simp only [List.getElem?_toArray, List.getElem?_cons_zero, List.getElem?_cons_succ]; rfl) (by kernel_rfl) (by kernel_rfl) (by kernel_rfl) (fun _ _ _ h => h) (Or.inl ⟨by rfl, ?hr427⟩) hHeld0 ?qr427
                case hr427 => (intro w hSw; (try dsimp only at hSw); go_simp <;> with_reducible rfl)
                try simp only [Act.put, List.setIfInBounds_toArray, List.set_cons_zero, List.set_cons_succ]
                refine wpAnyH_take (i := 27) (v := ?vr428) (by simp only [List.getElem?_toArray, List.getElem?_cons_zero, List.getElem?_cons_succ]; rfl) (by kernel_rfl) (by kernel_rfl) (by kernel_rfl) (fun _ _ _ h => h) (Or.inl ⟨by rfl, ?hr428⟩) hHeld0 ?qr428
                case hr428 => (intro w hSw; (try dsimp only at hSw); go_simp <;> with_reducible rfl)
                try simp only [Act.put, List.setIfInBounds_toArray, List.set_cons_zero, List.set_cons_succ]
                refine wpAnyH_take (i := 28) (v := ?vr429) (by simp only [List.getElem?_toArray, List.getElem?_cons_zero, List.getElem?_cons_succ]; rfl) (by kernel_rfl) (by kernel_rfl) (by kernel_rfl) (fun _ _ _ h => h) (Or.inl ⟨by rfl, ?hr429⟩) hHeld0 ?qr429
                case hr429 => (intro w hSw; (try dsimp only at hSw); go_simp <;> with_reducible rfl)
                try simp only [Act.put, List.setIfInBounds_toArray, List.set_cons_zero, List.set_cons_succ]
                refine wpAnyH_take (i := 29) (v := ?vr430) (by simp only [List.getElem?_toArray, List.getElem?_cons_zero, List.getElem?_cons_succ]; rfl) (by kernel_rfl) (by kernel_rfl) (by kernel_rfl) (fun _ _ _ h => h) (Or.inl ⟨by rfl, ?hr430⟩) hHeld0 ?qr430
                case hr430 => (intro w hSw; (try dsimp only at hSw); go_simp <;> with_reducible rfl)
                try simp only [Act.put, List.setIfInBounds_toArray, List.set_cons_zero, List.set_cons_succ]
                refine wpAnyH_take (i := 30) (v := ?vr431) (by simp only [List.getElem?_toArray, List.getElem?_cons_zero, List.getElem?_cons_succ]; rfl) (by kernel_rfl) (by kernel_rfl) (by kernel_rfl) (fun _ _ _ h => h) (Or.inl ⟨by rfl, ?hr431⟩) hHeld0 ?qr431
                case hr431 => (intro w hSw; (try dsimp only at hSw); go_simp <;> with_reducible rfl)
                try simp only [Act.put, List.setIfInBounds_toArray, List.set_cons_zero, List.set_cons_succ]
                refine wpAnyH_take (i := 31) (v := ?vr432) (by simp only [List.getElem?_toArray, List.getElem?_cons_zero, List.getElem?_cons_succ]; rfl) (by kernel_rfl) (by kernel_rfl) (by kernel_rfl) (fun _ _ _ h => h) (Or.inl ⟨by rfl, ?hr432⟩) hHeld0 ?qr432
                case hr432 => (intro w hSw; (try dsimp only at hSw); go_simp <;> with_reducible rfl)
                try simp only [Act.put, List.setIfInBounds_toArray, List.set_cons_zero, List.set_cons_succ]
                refine wpAnyH_take (i := 32) (v := ?vr433) (by simp only [List.getElem?_toArray, List.getElem?_cons_zero, List.getElem?_cons_succ]; rfl) (by kernel_rfl) (by kernel_rfl) (by kernel_rfl) (fun _ _ _ h => h) (Or.inl ⟨by rfl, ?hr433⟩) hHeld0 ?qr433
                case hr433 => (intro w hSw; (try dsimp only at hSw); go_simp <;> with_reducible rfl)
                try simp only [Act.put, List.setIfInBounds_toArray, List.set_cons_zero, List.set_cons_succ]
                refine wpAnyH_take (i := 33) (v := ?vr434) (by simp only [List.getElem?_toArray, List.getElem?_cons_zero, List.getElem?_cons_succ]; rfl) (by kernel_rfl) (by kernel_rfl) (by kernel_rfl) (fun _ _ _ h => h) (Or.inl ⟨by rfl, ?hr434⟩) hHeld0 ?qr434
                case hr434 => (intro w hSw; (try dsimp only at hSw); go_simp <;> with_reducible rfl)
                try simp only [Act.put, List.setIfInBounds_toArray, List.set_cons_zero, List.set_cons_succ]
                refine wpAnyH_take (i := 34) (v := ?vr435) (by simp only [List.getElem?_toArray, List.getElem?_cons_zero, List.getElem?_cons_succ]; rfl) (by kernel_rfl) (by kernel_rfl) (by kernel_rfl) (fun _ _ _ h => h) (Or.inl ⟨by rfl, ?hr435⟩) hHeld0 ?qr435
                case hr435 => (intro w hSw; (try dsimp only at hSw); go_simp <;> with_reducible rfl)
                try simp only [Act.put, List.setIfInBounds_toArray, List.set_cons_zero, List.set_cons_succ]
                refine wpAnyH_take (i := 35) (v := ?vr436) (by simp only [List.getElem?_toArray, List.getElem?_cons_zero, List.getElem?_cons_succ]; rfl) (by kernel_rfl) (by kernel_rfl) (by kernel_rfl) (fun _ _ _ h => h) (Or.inl ⟨by rfl, ?hr436⟩) hHeld0 ?qr436
                case hr436 => (intro w hSw; (try dsimp only at hSw); go_simp <;> with_reducible rfl)
                try simp only [Act.put, List.setIfInBounds_toArray, List.set_cons_zero, List.set_cons_succ]
                refine wpAnyH_done (by kernel_rfl) ?_ _
                refine NoPanic.normal ?_
                go_wp2_with fail
                exact ⟨⟨k + 1, s + 1, by omega, by omega, by simp, by simp, by rw [show ((s + 1 : Nat) : Int) = (s : Int) + 1 from by omega]; exact HN, Lib.hid (HKB.out.trans (((Below.refl _ wr).drew).mono HKB.out.size))⟩, by simp [intOf]; omega⟩
          · have hs20i : ¬ (s : Int) ≤ 20 := by omega
            have hke : k = hv.length := by
              rcases Nat.lt_or_ge k hv.length with h1 | h1
              · exfalso
                have h2 := HKI.out.2 k _ (List.getElem?_eq_getElem h1)
                obtain ⟨z, hz, he⟩ := HH.out hv[k] (List.getElem_mem h1)
                have h3 : fromF f fr hv[k].s = some z := hz
                unfold fromF at h3
                split at h3
                · have := HT.out.vote _ _ h3; omega
                · cases h3
              · omega
            subst hke
            go_wp2_with (go_at_call 14; refine (promised_any b 100 _ (pw_cell_below HKB.out HC2.out)).mono ?_; rintro r w3 ⟨rfl, rfl⟩)
            go_ret
            exact ⟨by simp, HB0.out.trans ((HB2.out.trans (HKB.out.mono HB2.out.size)).mono HB0.out.size)⟩
end Go.Proofs.YtgkhkcoojfjofaaDoor
