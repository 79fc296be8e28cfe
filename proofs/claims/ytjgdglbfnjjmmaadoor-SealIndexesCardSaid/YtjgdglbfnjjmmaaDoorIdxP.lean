/- At where nothing is; ref.Same of two that are the same; what holds of generations, plainly. -/
import Derived.Test.YtjgdglbfnjjmmaaDoorFenceW
set_option linter.unusedVariables false
set_option linter.unusedSimpArgs false
namespace Go.Proofs.YtjgdglbfnjjmmaaDoor
open Go.RowKit Go.Proofs.YtjgdglbfnjjmmaaDoorW.PrintWords Go.Proofs.Mine

set_option maxRecDepth 100000 in
set_option maxHeartbeats 1000000 in
theorem at_zero (w : World) (base : Nat) (F : Nat → Prop) (b : Nat) (xs : List Ge) (i : Int) (h : GensAt w base F b xs) (h0 : 0 < xs.length) (h60 : xs.length ≤ 60) (hno : ∀ x ∈ xs, ¬ x.g.b < i) :
    Calls Tryd.prog 13 #[.pointer (some ⟨b, 0, none⟩), .int .i64 i] w fun e w' => e = .returned (.agg #[.int .i64 0, .int .i64 0, .int .i64 0, .slice none 0 0, .slice none 0 0]) ∧ Below w.heap.size w w' := by
  have HX := Lib.hid hno
  have hG1 := h.alloc (.cells #[.int .i64 0, .int .i64 0, .int .i64 0, .slice none 0 0, .slice none 0 0] 32)
  have HZ := Lib.hid (heap_alloc_new w (.cells #[.int .i64 0, .int .i64 0, .int .i64 0, .slice none 0 0, .slice none 0 0] 32))
  obtain ⟨h1, h2, vl, hb, hR, hO⟩ := hG1
  obtain ⟨g, cap, rfl, _, _, hlc, hcm⟩ := ge_row hR h0
  have vb := blk_cell hb 0
  have HR := Lib.hid hR
  clear h hno hb hR hO h2 h1
  have hB0 := Lib.hid ((Below.refl w.heap.size w).alloc (Nat.le_refl _) (.cells #[.int .i64 0, .int .i64 0, .int .i64 0, .slice none 0 0, .slice none 0 0] 32))
  go_enter Tryd.func13, Tryd.ntmps13
  go_wp2
  generalize hW : w.alloc _ = W at *
  go_loopw [5] (fun iv wr => ∃ (k : Nat), k ≤ xs.length ∧ iv = .int .i64 ((k : Int) - 1) ∧ wr = W) (fun iv _ => (intOf iv + 1).toNat)
  case atStart => exact ⟨xs.length, by omega, rfl, rfl⟩
  case round =>
    obtain ⟨k, hk, rfl, rfl⟩ := hrel
    cases k with
    | zero =>
      have z0 : wr.cell? ⟨w.heap.size, 0, none⟩ = _ := blk_cell HZ.out 0
      have z1 : wr.cell? ⟨w.heap.size, 1, none⟩ = _ := blk_cell HZ.out 1
      have z2 : wr.cell? ⟨w.heap.size, 2, none⟩ = _ := blk_cell HZ.out 2
      have z3 : wr.cell? ⟨w.heap.size, 3, none⟩ = _ := blk_cell HZ.out 3
      have z4 : wr.cell? ⟨w.heap.size, 4, none⟩ = _ := blk_cell HZ.out 4
      have g0 : wr.frozen? ⟨w.heap.size, 0, none⟩ = false := blk_frozen HZ.out 0
      have g1 : wr.frozen? ⟨w.heap.size, 1, none⟩ = false := blk_frozen HZ.out 1
      have g2 : wr.frozen? ⟨w.heap.size, 2, none⟩ = false := blk_frozen HZ.out 2
      have g3 : wr.frozen? ⟨w.heap.size, 3, none⟩ = false := blk_frozen HZ.out 3
      have g4 : wr.frozen? ⟨w.heap.size, 4, none⟩ = false := blk_frozen HZ.out 4
      have hkw : ((0 : Nat) : Int) - 1 = -1 := by omega
      rw [hkw]
      go_wp2
      have t1 := set5_blk HZ.out (.int .i64 0) (.int .i64 0) (.int .i64 0) (.slice none 0 0) (.slice none 0 0)
      have t2 := set5_below hB0.out (Nat.le_refl _) (.int .i64 0) (.int .i64 0) (.int .i64 0) (.slice none 0 0) (.slice none 0 0)
      change bodyPost _ _ _ _ _ (set5 wr w.heap.size (.int .i64 0) (.int .i64 0) (.int .i64 0) (.slice none 0 0) (.slice none 0 0))
      exact bodyPost_ret (v := .agg #[.int .i64 0, .int .i64 0, .int .i64 0, .slice none 0 0, .slice none 0 0]) (five_res _ _ _ _ w.heap.size 32 _ _ _ _ _ t1 (fun h0 h1 h2 h3 h4 => by simp [results, Tryd.results13, go_sem, h0, h1, h2, h3, h4])) rfl ⟨rfl, t2⟩
    | succ k =>
      have hget := ge_get HR.out k (by omega)
      have hb := HX.out xs[k] (List.getElem_mem _)
      generalize xs[k] = y at *
      obtain ⟨⟨n, en, bb, l⟩, A, c⟩ := y
      obtain ⟨q0, q1, q2, q3, q4⟩ := hget
      have hb' : i ≤ bb := hb
      have hb2 : ¬ bb < i := by omega
      have hkw : ((k + 1 : Nat) : Int) - 1 = k := by omega
      rw [hkw]
      have hki : (k : Int) < xs.length := by omega
      clear HX hb
      go_wp2
      exact ⟨⟨k, by omega, rfl, trivial⟩, by simp [intOf]⟩
set_option maxRecDepth 100000 in
set_option maxHeartbeats 1000000 in
theorem same17 (n en b : Int) (A B : Option Addr) (c d : Nat) (l : List Int) (w : World) (hl : ReadsInt w .i64 A l.length l) (hm : ReadsInt w .i64 B l.length l) :
    Calls Tryd.prog 14 #[.agg #[.int .i64 n, .int .i64 en, .int .i64 b, .slice none 0 0, .slice A l.length c], .agg #[.int .i64 n, .int .i64 en, .int .i64 b, .slice none 0 0, .slice B l.length d]] w fun e w' => e = .returned (.bool true) ∧ Below w.heap.size w w' := by
  have hB0 := ((Below.refl w.heap.size w).alloc (Nat.le_refl _) (.cells #[.int .i64 n, .int .i64 en, .int .i64 b, .slice none 0 0, .slice A l.length c] 32)).alloc (by simp) (.cells #[.int .i64 n, .int .i64 en, .int .i64 b, .slice none 0 0, .slice B l.length d] 32)
  have HL := Lib.hid (hl.below hB0)
  have HM := Lib.hid (hm.below hB0)
  have HB0 := Lib.hid hB0
  clear hl hm hB0
  go_enter Tryd.func14, Tryd.ntmps14
  go_wp2_with (go_at_call 15
               refine (sameC_any A B c d l _ HL.out HM.out).mono ?_
               rintro r w1 ⟨rfl, hB⟩
               have HB1 := Lib.hid (HB0.out.trans (hB.mono HB0.out.size))
               clear hB)
  go_ret
  exact ⟨rfl, HB1.out⟩
def GOk (xs : List Ge) : Prop := ∀ (i : Nat) (x : Ge), xs[i]? = some x → x.g.n = (i : Int) + 1 ∧ 0 ≤ x.g.b ∧ x.g.b ≤ 4 * (i : Int) ∧ ∀ y : Ge, xs[i + 1]? = some y → x.g.b < y.g.b
theorem gok_one (x : Ge) (h1 : x.g.n = 1) (h2 : x.g.b = 0) : GOk [x] := by
  intro i y hy
  cases i with
  | zero =>
    simp at hy
    subst hy
    exact ⟨by omega, by omega, by omega, fun z hz => by simp at hz⟩
  | succ i => simp at hy
theorem gok_last {xs : List Ge} (h : GOk xs) {x : Ge} (hx : xs.getLast? = some x) : x.g.n = (xs.length : Int) ∧ 0 ≤ x.g.b ∧ x.g.b + 4 ≤ 4 * (xs.length : Int) := by
  rw [List.getLast?_eq_getElem?] at hx
  have h0 : 0 < xs.length := by
    cases xs with
    | nil => simp at hx
    | cons a l => simp
  obtain ⟨h1, h2, h3, _⟩ := h _ _ hx
  exact ⟨by omega, h2, by omega⟩
theorem gok_snoc {xs : List Ge} (h : GOk xs) {x y : Ge} (hx : xs.getLast? = some x) (h1 : y.g.n = x.g.n + 1) (h2 : x.g.b < y.g.b) (h3 : y.g.b ≤ x.g.b + 4) : GOk (xs ++ [y]) := by
  have hl := gok_last h hx
  rw [List.getLast?_eq_getElem?] at hx
  intro i z hz
  rcases Nat.lt_trichotomy i xs.length with hi | hi | hi
  · rw [List.getElem?_append_left hi] at hz
    obtain ⟨g1, g2, g3, g4⟩ := h i z hz
    refine ⟨g1, g2, g3, fun u hu => ?_⟩
    by_cases he : i + 1 < xs.length
    · rw [List.getElem?_append_left he] at hu
      exact g4 u hu
    · have he2 : i + 1 = xs.length := by omega
      rw [he2, List.getElem?_append_right (Nat.le_refl _)] at hu
      simp at hu
      subst hu
      rw [show xs.length - 1 = i by omega] at hx
      rw [hx] at hz
      injection hz with hz
      subst hz
      exact h2
  · rw [hi, List.getElem?_append_right (Nat.le_refl _)] at hz
    simp at hz
    subst hz
    refine ⟨by omega, by omega, by omega, fun u hu => ?_⟩
    rw [hi, List.getElem?_append_right (by omega)] at hu
    simp at hu
  · rw [List.getElem?_append_right (by omega)] at hz
    rw [List.getElem?_eq_some_iff] at hz
    obtain ⟨hz, _⟩ := hz
    simp at hz
    omega
theorem gok_at {xs : List Ge} (h : GOk xs) (h0 : 0 < xs.length) {k : Int} (hk : 1 ≤ k) : ∃ j x, atG xs k = some x ∧ xs[j]? = some x ∧ x.g.b < k ∧ ∀ y, xs[j + 1]? = some y → k ≤ y.g.b := by
  have hs : (atG xs k).isSome = true := by
    unfold atG
    rw [List.find?_isSome]
    have hx : xs[0]? = some xs[0] := List.getElem?_eq_getElem h0
    have := (h 0 _ hx).2.2.1
    exact ⟨xs[0], by simp, by simp; omega⟩
  obtain ⟨x, hx⟩ := Option.isSome_iff_exists.1 hs
  have hx' := hx
  unfold atG at hx'
  obtain ⟨hp, as1, bs, he, hno⟩ := List.find?_eq_some_iff_append.1 hx'
  have he2 : xs = bs.reverse ++ (x :: as1.reverse) := by
    have := congrArg List.reverse he
    rw [List.reverse_reverse] at this
    rw [this]; simp
  refine ⟨bs.length, x, hx, ?_, by simpa using hp, fun y hy => ?_⟩
  · rw [he2, List.getElem?_append_right (by simp)]; simp
  · rw [he2, List.getElem?_append_right (by simp)] at hy
    simp only [List.length_reverse, Nat.add_sub_cancel_left, List.getElem?_cons_succ] at hy
    have hy2 := hno y (by have := List.mem_of_getElem? hy; simpa using this)
    simp at hy2
    omega
theorem gok_map {xs zs : List Ge} (h : zs.map (·.g) = xs.map (·.g)) {j : Nat} {x : Ge} (hx : xs[j]? = some x) : ∃ z, zs[j]? = some z ∧ z.g = x.g := by
  have h1 := congrArg (fun l => l[j]?) h
  simp only [List.getElem?_map, hx, Option.map_some] at h1
  obtain ⟨z, hz, he⟩ := Option.map_eq_some_iff.1 h1
  exact ⟨z, hz, he⟩
theorem map_len {xs zs : List Ge} (h : zs.map (·.g) = xs.map (·.g)) : zs.length = xs.length := by
  have := congrArg List.length h
  simpa using this
end Go.Proofs.YtjgdglbfnjjmmaaDoor
