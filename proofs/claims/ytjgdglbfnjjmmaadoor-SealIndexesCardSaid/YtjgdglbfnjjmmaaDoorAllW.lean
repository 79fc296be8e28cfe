/- The walks of All, At, Same. -/
import Derived.Test.YtjgdglbfnjjmmaaDoorSealW
import Derived.Test.YtjgdglbfnjjmmaaDoorCopyF
set_option linter.unusedVariables false
set_option linter.unusedSimpArgs false
namespace Go.Proofs.YtjgdglbfnjjmmaaDoor
open Go.RowKit Go.Proofs.YtjgdglbfnjjmmaaDoorW.PrintWords Go.Proofs.Mine

set_option maxRecDepth 100000 in
set_option maxHeartbeats 1000000 in
/-- The reference's same: lists of numbers, as they are. -/
theorem same_any (A B : Option Addr) (c d : Nat) (l m : List Int) (w : World) (hl : ReadsInt w .i64 A l.length l) (hm : ReadsInt w .i64 B m.length m) (heq : l = m) :
    Calls Tryd.prog 29 #[.slice A l.length c, .slice B m.length d] w fun e w' => e = .returned (.bool true) ∧ Below w.heap.size w w' := by
  subst heq
  have HL := Lib.hid hl
  have HM := Lib.hid hm
  have hmx := hl.2.1
  clear hl hm
  go_enter Tryd.func29, Tryd.ntmps29
  go_wp2
  go_loopw [5] (fun iv wr => ∃ (k : Nat), k ≤ l.length ∧ iv = .int .i64 k ∧ Below w.heap.size w wr) (fun iv _ => l.length - (intOf iv).toNat)
  case atStart => exact ⟨0, by omega, rfl, Below.refl _ _⟩
  case round =>
    obtain ⟨k, hk, rfl, hB⟩ := hrel
    by_cases hlt : k < l.length
    · obtain ⟨ad, rfl, hcell⟩ := HL.out.at_ k (by omega) (by omega)
      obtain ⟨bd, rfl, hcell2⟩ := HM.out.at_ k (by omega) (by omega)
      rw [Int.toNat_natCast] at hcell hcell2
      have HB := Lib.hid hB
      have c1 := pw_cell_below hB hcell
      have c2 := pw_cell_below hB hcell2
      clear hcell hcell2 hB
      generalize rd l k = x at *
      go_wp2
      go_quiet (fail)
      go_wp2
      exact ⟨⟨k + 1, by omega, by simp, pw_below_drewN HB.out _⟩, by simp [intOf]; omega⟩
    · obtain rfl : k = l.length := by omega
      go_wp2
      go_ret
      exact ⟨rfl, hB⟩
/-- The same at whatever lengths; a walk's arm says which list it is. -/
theorem same_all (w : World) (A B : Option Addr) (n c m d : Nat) (h : ∃ l, ReadsInt w .i64 A n l ∧ ReadsInt w .i64 B m l) : Calls Tryd.prog 29 #[.slice A n c, .slice B m d] w fun e w' => e = .returned (.bool true) ∧ Below w.heap.size w w' := by
  obtain ⟨l, h1, h2⟩ := h
  obtain rfl : l.length = n := h1.1
  obtain rfl : l.length = m := h2.1
  exact same_any A B c d l l w h1 h2 rfl
set_option maxRecDepth 100000 in
set_option maxHeartbeats 1000000 in
theorem sameC_any (A B : Option Addr) (c d : Nat) (l : List Int) (w : World) (hl : ReadsInt w .i64 A l.length l) (hm : ReadsInt w .i64 B l.length l) :
    Calls Tryd.prog 15 #[.agg #[.slice none 0 0, .slice A l.length c], .agg #[.slice none 0 0, .slice B l.length d]] w fun e w' => e = .returned (.bool true) ∧ Below w.heap.size w w' := by
  have hB0 := ((Below.refl w.heap.size w).alloc (Nat.le_refl _) (.cells #[.slice none 0 0, .slice A l.length c] 29)).alloc (by simp) (.cells #[.slice none 0 0, .slice B l.length d] 29)
  have hy := blk_alloc (heap_alloc_new w (.cells #[.slice none 0 0, .slice A l.length c] 29)) (.cells #[.slice none 0 0, .slice B l.length d] 29)
  have hz := heap_alloc_new (w.alloc (.cells #[.slice none 0 0, .slice A l.length c] 29)) (.cells #[.slice none 0 0, .slice B l.length d] 29)
  have hsz1 : (w.alloc (.cells #[.slice none 0 0, .slice A l.length c] 29)).heap.size = w.heap.size + 1 := by simp
  rw [hsz1] at hz
  have HB0 := Lib.hid hB0
  have HY := Lib.hid hy
  have HZ := Lib.hid hz
  have HL := Lib.hid (hl.below hB0)
  have HM := Lib.hid (hm.below hB0)
  clear hB0 hy hz hsz1 hl hm
  go_enter Tryd.func15, Tryd.ntmps15
  go_wp2_with (first
    | (go_at_call 29
       have hb1 := HB1.out
       refine (same_all _ _ _ _ _ _ _ ⟨l, HL.out.below HB1.out, HM.out.below HB1.out⟩).mono ?_
       rintro e w2 ⟨rfl, hB⟩
       have HB2 := Lib.hid ((HB0.out.trans (HB1.out.mono HB0.out.size)).trans (hB.mono (Nat.le_trans HB0.out.size HB1.out.size)))
       clear hB hb1)
    | (go_at_call 29
       refine (same_all _ _ _ _ _ _ _ ⟨[], ReadsInt.nil _ .i64, ReadsInt.nil _ .i64⟩).mono ?_
       rintro e w1 ⟨rfl, hB⟩
       have HB1 := Lib.hid hB
       have y1 : w1.cell? ⟨w.heap.size, 1, none⟩ = _ := blk_cell (blk_below HY.out HB1.out) 1
       have z1 : w1.cell? ⟨w.heap.size + 1, 1, none⟩ = _ := blk_cell (blk_below HZ.out HB1.out) 1
       clear hB))
  go_ret
  exact ⟨rfl, HB2.out⟩
/-- What All tells: the same generations, in rows of its own. -/
structure AllOk (w w' : World) (v : Value) (xs zs : List Ge) : Prop where
  same : zs.map (·.g) = xs.map (·.g)
  row : geK.R 32 w' w.heap.size (fun k => w.heap.size ≤ k) v zs
  rows : RowsOk w' w.heap.size (fun k => w.heap.size ≤ k) zs
  below : Below w.heap.size w w'
theorem made_row {w : World} {base : Nat} {ok : Nat → Prop} {v : Value} {m : Nat} {z : Ge} (h : geK.R 32 w base ok v (List.replicate m z)) (hm : 0 < m) :
    ∃ G cap cur, v = .slice (some ⟨G, 0, none⟩) m cap ∧ base ≤ G ∧ w.heap[G]? = some (.cells cur 32 (0, 0)) ∧ m ≤ cap ∧ cap ≤ maxLen ∧ cur.size = cap * 5 := by
  rcases fixR_iff.1 h with ⟨_, hx⟩ | ⟨g, cap, cur, rfl, h0, h1, h2, h3, h4, h5, _⟩
  · have := congrArg List.length hx
    simp at this
    omega
  · rw [List.length_replicate] at h3 ⊢
    exact ⟨g, cap, cur, rfl, h1, h2, h3, h4, h5⟩
theorem all_copied {w w1 : World} {base G g cap cap1 : Nat} {F : Nat → Prop} {xs : List Ge} {cur : Array Value} (hR : geK.R 32 w base F (.slice (some ⟨g, 0, none⟩) xs.length cap) xs) (h0 : 0 < xs.length) (hB : Below w.heap.size w w1) (hG : w.heap.size ≤ G)
    (hb : w1.heap[G]? = some (.cells cur 32 (0, 0))) (hl : xs.length ≤ cap1) (hs : cur.size = cap1 * 5) :
    ∃ W2, (Builtin.copy_ #[36, 36] 3 #[.slice (some ⟨G, 0, none⟩) xs.length cap1, .slice (some ⟨g, 0, none⟩) xs.length cap]).run Tryd.prog w1 = .ok (.int .i64 xs.length) W2 ∧ Below w.heap.size w W2 ∧
      ∃ cur', W2.heap[G]? = some (.cells cur' 32 (0, 0)) ∧ cur'.size = cap1 * 5 ∧ cur'.toList.take (xs.length * 5) = xs.flatMap Ge.cells := by
  have hfl : (xs.flatMap Ge.cells).length = xs.length * 5 := flat_length (enc := Ge.cells) (fun _ => rfl) xs
  have hi : (Tryd.prog.info? 32).map (·.size) = some 5 := by kernel_rfl
  have hC := Kd.C_below (Kd.R_reads' hR).2.2 hB
  have hmul : xs.length * 5 ≤ cap1 * 5 := Nat.mul_le_mul_right _ hl
  have hrun := run_copy_many (P := Tryd.prog) w1 36 36 3 32 5 G 0 xs.length cap1 ⟨g, 0, none⟩ xs.length cap (xs.flatMap Ge.cells) Tryd.underlying36 hi (by rw [hfl, show Nat.min xs.length xs.length = xs.length from Nat.min_self _])
    (C_cells hC (by decide) ⟨g, 0, none⟩ rfl) (fun j hj => by rw [Nat.zero_add, blk_cell hb j, Array.getElem?_eq_getElem (by omega)]; rfl) (fun j hj => by rw [Nat.zero_add]; exact blk_frozen hb j)
    (fun v hv => by
      obtain ⟨x, _, hx⟩ := List.mem_flatMap.1 hv
      simp only [Ge.cells, List.mem_cons, List.not_mem_nil, or_false] at hx
      rcases hx with rfl | rfl | rfl | rfl | rfl <;> rfl)
  rw [show Nat.min xs.length xs.length = xs.length from Nat.min_self _] at hrun
  obtain ⟨cur', h1, h2, h3⟩ := setCells_blk (xs.flatMap Ge.cells) 0 w1 cur hb (by rw [hfl]; omega)
  refine ⟨_, hrun, ?_, cur', h1, by rw [h2, hs], ?_⟩
  · exact (Keep.setCells (F := fun k => w.heap.size ≤ k) G _ 0 w1 (Keep.of_below hB _) (.inl hG)).to_below (Nat.le_refl _) (fun k hk => hk)
  · rw [h3, List.take_zero, List.nil_append, ← hfl, List.take_left']
    rfl
theorem flat_set (c : List Value) (zs rest : List Ge) (x y : Ge) (k n : Nat) (h : c.take (n * 5) = (zs ++ x :: rest).flatMap Ge.cells) (hz : zs.length = k) (hn : n = k + 1 + rest.length) (hc : n * 5 ≤ c.length) :
    (c.take (k * 5) ++ y.cells ++ c.drop (k * 5 + 5)).take (n * 5) = (zs ++ y :: rest).flatMap Ge.cells := by
  have hfz : (zs.flatMap Ge.cells).length = k * 5 := by rw [flat_length (enc := Ge.cells) (n := 5) (fun _ => rfl), hz]
  have hfr : (rest.flatMap Ge.cells).length = rest.length * 5 := flat_length (enc := Ge.cells) (n := 5) (fun _ => rfl) rest
  have hx : x.cells.length = 5 := rfl
  have hy : y.cells.length = 5 := rfl
  have e : c = zs.flatMap Ge.cells ++ (x.cells ++ (rest.flatMap Ge.cells ++ c.drop (n * 5))) := by
    conv => lhs; rw [← List.take_append_drop (n * 5) c, h]
    simp [List.append_assoc]
  have h1 : c.take (k * 5) = zs.flatMap Ge.cells := by rw [e, List.take_left' hfz]
  have h2 : c.drop (k * 5 + 5) = rest.flatMap Ge.cells ++ c.drop (n * 5) := by
    rw [← List.drop_drop]
    conv => lhs; rw [e]
    rw [List.drop_left' hfz, List.drop_left' hx]
  rw [h1, h2, List.flatMap_append, List.flatMap_cons]
  have h3 : (zs.flatMap Ge.cells ++ (y.cells ++ rest.flatMap Ge.cells)).length = n * 5 := by simp only [List.length_append, hfz, hfr, hy, hn]; omega
  rw [show zs.flatMap Ge.cells ++ y.cells ++ (rest.flatMap Ge.cells ++ c.drop (n * 5)) = (zs.flatMap Ge.cells ++ (y.cells ++ rest.flatMap Ge.cells)) ++ c.drop (n * 5) from by simp [List.append_assoc], List.take_left' h3]
theorem add_at (G o j : Nat) : (⟨G, o, none⟩ : Addr).add j = ⟨G, o + j, none⟩ := by
  unfold Addr.add
  split
  · rename_i h; subst h; simp
  · rfl
theorem row_cells {w : World} {G n k : Nat} {cur : Array Value} {ys : List Ge} {x : Ge} (hb : w.heap[G]? = some (.cells cur 32 (0, 0))) (h : cur.toList.take (n * 5) = ys.flatMap Ge.cells) (hk : ys[k]? = some x) : GeCells w ⟨G, k * 5, none⟩ x := by
  refine geCells_of fun j u hj => ?_
  have hlt : j < 5 := by have := (List.getElem?_eq_some_iff.1 hj).1; simpa [Ge.cells] using this
  have hg := flat_get (enc := Ge.cells) (n := 5) (fun _ => rfl) ys k x hk
  rw [add_at, blk_cell hb (k * 5 + j), ← Array.getElem?_toList]
  have h1 : ((ys.flatMap Ge.cells).drop (k * 5))[j]? = some u := by
    rw [← hj, ← hg, List.getElem?_take_of_lt hlt]
  rw [List.getElem?_drop, ← h] at h1
  have hlt2 : k * 5 + j < n * 5 := by
    have := (List.getElem?_eq_some_iff.1 h1).1
    rw [List.length_take] at this
    omega
  rwa [List.getElem?_take_of_lt hlt2] at h1
/-- What the loop of All holds. -/
structure AllIn (w wr : World) (G cap1 : Nat) (xs zs : List Ge) (k : Nat) (cur : Array Value) : Prop where
  len : zs.length = k
  same : zs.map (·.g) = (xs.take k).map (·.g)
  below : Below w.heap.size w wr
  blk : wr.heap[G]? = some (.cells cur 32 (0, 0))
  size : cur.size = cap1 * 5
  cells : cur.toList.take (xs.length * 5) = (zs ++ xs.drop k).flatMap Ge.cells
  rows : RowsOk wr w.heap.size (fun j => w.heap.size ≤ j ∧ j ≠ G) zs
theorem all_step {w wr w4 : World} {G cap1 k : Nat} {xs zs : List Ge} {x y : Ge} {cur : Array Value} {o : Obj} (hI : AllIn w wr G cap1 xs zs k cur) (hG : w.heap.size ≤ G) (hk : k < xs.length) (hl : xs.length ≤ cap1) (hd : xs.drop k = x :: xs.drop (k + 1)) (hg : y.g = x.g)
    (htk : (xs.take (k + 1)).map (·.g) = (xs.take k).map (·.g) ++ [x.g]) (hB : Below (wr.alloc o).heap.size (wr.alloc o) w4) (hR : (Kd.int .i64).R 3 w4 (wr.alloc o).heap.size (fun j => (wr.alloc o).heap.size ≤ j) y.v y.g.l) (h0 : 0 < y.g.l.length ∧ y.g.l.length ≤ 7) :
    ∃ cur', AllIn w (w4.setCells G (k * 5) y.cells) G cap1 xs (zs ++ [y]) (k + 1) cur' := by
  have hsz : (wr.alloc o).heap.size = wr.heap.size + 1 := by simp
  have hGl := blk_lt hI.blk
  have hB1 : Below w.heap.size w (wr.alloc o) := hI.below.alloc hI.below.size o
  have hB2 : Below w.heap.size w w4 := hB1.trans (hB.mono hB1.size)
  have hb4 := blk_below (blk_alloc hI.blk o) hB
  have hmul : (k + 1) * 5 ≤ cap1 * 5 := Nat.mul_le_mul_right _ (by omega)
  have hmul2 : xs.length * 5 ≤ cap1 * 5 := Nat.mul_le_mul_right _ hl
  have hy : y.cells.length = 5 := rfl
  obtain ⟨cur', h1, h2, h3⟩ := setCells_blk y.cells (k * 5) w4 cur hb4 (by rw [hy, hI.size]; omega)
  have hK : Keep (fun j => j = G) w4 (w4.setCells G (k * 5) y.cells) := Keep.setCells G _ _ _ (Keep.refl _ _) (.inl rfl)
  have hrest : xs.length = k + 1 + (xs.drop (k + 1)).length := by rw [List.length_drop]; omega
  refine ⟨cur', by rw [List.length_append, hI.len]; rfl, by rw [List.map_append, hI.same, htk, ← hg]; rfl, ?_, h1, by rw [h2, hI.size], ?_, ?_⟩
  · exact hB2.trans (hK.to_below hB2.size (fun j hj => by rw [hj]; exact hG))
  · rw [h3, hy]
    have hc := hI.cells
    rw [hd] at hc
    rw [flat_set cur.toList zs (xs.drop (k + 1)) x y k xs.length hc hI.len hrest (by have e1 : cur.toList.length = cur.size := Array.length_toList; have e2 := hI.size; omega), List.append_assoc]
    rfl
  · intro z hz
    rcases List.mem_append.1 hz with hz | hz
    · have e := hI.rows.keep ((Keep.of_below ((Below.refl wr.heap.size wr).alloc (Nat.le_refl _) o) (fun _ => False)).trans (Keep.of_below hB (fun _ => False)) (fun _ h => h.elim)) (fun _ _ h => h)
      exact (e.keep hK (fun j hj he => hj.2 he)) z hz
    · rw [List.mem_singleton] at hz
      subst hz
      refine ⟨hK.R (Kd.R_mono (Kd.R_lower hR hB1.size) (fun j hj => ⟨Nat.le_trans hB1.size hj, by omega⟩)) (fun j hj he => hj.2 he), h0⟩
set_option maxRecDepth 100000 in
set_option maxHeartbeats 1000000 in
theorem all_any (w : World) (base : Nat) (F : Nat → Prop) (b : Nat) (xs : List Ge) (h : GensAt w base F b xs) (h0 : 0 < xs.length) (h60 : xs.length ≤ 60) :
    Calls Tryd.prog 12 #[.pointer (some ⟨b, 0, none⟩)] w fun e w' => ∃ v zs, e = .returned v ∧ AllOk w w' v xs zs := by
  obtain ⟨h1, h2, vl, hb, hR, hO⟩ := h
  obtain ⟨g, cap, rfl, _, _, hlc, hcm⟩ := ge_row hR h0
  have vb : w.cell? ⟨b, 0, none⟩ = _ := blk_cell hb 0
  have HR := Lib.hid hR
  have HO := Lib.hid hO
  have HBK := Lib.hid hb
  clear hR hO hb
  have hi : (Tryd.prog.info? 32).map (·.size) = some 5 := by kernel_rfl
  go_enter Tryd.func12, Tryd.ntmps12
  go_wp2_with (at_make
               refine Kd.R_make geK (w0 := w) w.heap.size 32 rfl rfl 36 _ _ rfl (xs.length : Int) rfl rfl Tryd.underlying36 _ 72 Tryd.info33 rfl (by decide) (by decide) ⟨⟨0, 0, 0, []⟩, none, 0⟩ (okp := fun _ => False) (ok := fun k => w.heap.size ≤ k) rfl (fun _ h => h.elim) (Nat.le_refl _) (by omega) (by omega) (Below.refl _ _) (Nat.le_refl _) ?_
               intro v1 w1 hR1 hB1 hg1 hat1
               rw [Int.toNat_natCast] at hR1
               obtain ⟨G, cap1, cur, hv, hG, hb1, hl1, hl2, hsz⟩ := made_row hR1 h0
               subst hv
               have hG1 := blk_lt hb1
               obtain ⟨W2, hcp, hB2, cur2, hb2, hs2, ht2⟩ := all_copied HR.out h0 hB1 hG hb1 hl1 hsz
               have vb1 : w1.cell? ⟨b, 0, none⟩ = _ := blk_cell (blk_below HBK.out hB1) 0
               have HB2 := Lib.hid hB2
               have Hb2 := Lib.hid hb2
               have HT2 := Lib.hid ht2
               have HS2 := Lib.hid hs2
               clear hR1 hB1 hg1 hat1 hb1 hsz hB2 hb2 ht2 hs2)
  go_loopw [20] (fun iv wr => ∃ (k : Nat) (zs : List Ge) (cur : Array Value), k ≤ xs.length ∧ iv = .int .i64 k ∧ AllIn w wr G cap1 xs zs k cur) (fun iv _ => xs.length - (intOf iv).toNat)
  case atStart => exact ⟨0, [], cur2, by omega, rfl, ⟨rfl, rfl, HB2.out, Hb2.out, HS2.out, by rw [HT2.out]; rfl, fun x hx => by simp at hx⟩⟩
  case round =>
    obtain ⟨k, zs, cur3, hk, rfl, HI⟩ := hrel
    by_cases hlt : k < xs.length
    · have hdrop : xs.drop k = xs[k] :: xs.drop (k + 1) := List.drop_eq_getElem_cons hlt
      have hget : (zs ++ xs.drop k)[k]? = some xs[k] := by rw [List.getElem?_append_right (by rw [HI.len]; omega), HI.len, Nat.sub_self, hdrop]; rfl
      have hcl := row_cells HI.blk HI.cells hget
      have hOk := HO.out xs[k] (List.getElem_mem _)
      have htk : (xs.take (k + 1)).map (·.g) = (xs.take k).map (·.g) ++ [xs[k].g] := by rw [List.take_succ_eq_append_getElem hlt, List.map_append]; rfl
      have HGET := Lib.hid hget
      have hI := Lib.hid HI
      have HD := Lib.hid hdrop
      have HTK := Lib.hid htk
      have hbb := HI.blk
      have hBb := HI.below
      generalize xs[k] = x at *
      obtain ⟨ad, hA, hC⟩ := mem_row hOk.1 hOk.2.1
      obtain ⟨⟨n, en, bb, l⟩, A, c⟩ := x
      obtain rfl : A = some ad := hA
      simp only at hC hOk
      have hlen : 0 < l.length ∧ l.length ≤ 7 := hOk.2
      have HC := Lib.hid (Kd.C_below hC hBb)
      obtain ⟨q0, q1, q2, q3, q4⟩ := hcl
      have q4' : wr.cell? _ = some (Value.slice (some ad) l.length c) := q4
      have HQ := Lib.hid hbb
      clear hC hOk HI hdrop htk hget hbb hBb q4
      go_wp2_with (go_at_call 27
                   refine (twin_lit _ n en bb l ad l.length c (Kd.C_below HC.out ((Below.refl _ _).alloc (Nat.le_refl _) _)) (by omega)).mono ?_
                   rintro e w4 ⟨A1, c1, rfl, hR, hB⟩
                   have HR4 := Lib.hid hR
                   have HB4 := Lib.hid hB
                   have hb4 := blk_below (blk_alloc HQ.out _) hB
                   obtain ⟨s0, s1, s2, s3, s4⟩ := row_cells hb4 hI.out.cells HGET.out
                   have f0 : w4.frozen? ⟨G, k * 5, none⟩ = false := blk_frozen hb4 _
                   have f1 : w4.frozen? ⟨G, k * 5 + 1, none⟩ = false := blk_frozen hb4 _
                   have f2 : w4.frozen? ⟨G, k * 5 + 2, none⟩ = false := blk_frozen hb4 _
                   have f3 : w4.frozen? ⟨G, k * 5 + 3, none⟩ = false := blk_frozen hb4 _
                   have f4 : w4.frozen? ⟨G, k * 5 + 4, none⟩ = false := blk_frozen hb4 _
                   have HQ4 := Lib.hid hb4
                   clear hR hB hb4)
      obtain ⟨cur4, h4⟩ := all_step (y := ⟨⟨n, en, bb, l⟩, A1, c1⟩) hI.out hG hlt hl1 HD.out rfl HTK.out HB4.out HR4.out hlen
      exact ⟨⟨k + 1, _, cur4, by omega, by simp, h4⟩, by simp [intOf]; omega⟩
    · obtain rfl : k = xs.length := by omega
      have hI := Lib.hid HI
      clear HI
      go_wp2
      go_ret
      have H := hI.out
      have hc := H.cells
      rw [List.drop_length, List.append_nil] at hc
      have hs := H.same
      rw [List.take_length] at hs
      refine ⟨_, zs, rfl, hs, fixR_iff.2 (.inr ⟨G, cap1, cur3, by rw [H.len]; rfl, hG, hG, H.blk, by rw [H.len]; exact hl1, hl2, H.size, by rw [H.len]; exact hc⟩), H.rows.mono (fun j hj _ => hj.1), H.below⟩
/-- The last generation that begins ahead of an index. -/
def atG (xs : List Ge) (i : Int) : Option Ge := xs.reverse.find? (fun x => decide (x.g.b < i))
theorem atG_none {xs : List Ge} {i : Int} {k : Nat} (h : ∀ j (hj : j < xs.length), k ≤ j → ¬ xs[j].g.b < i) (hk : k < xs.length + 1) : atG xs i = atG (xs.take k) i := by
  unfold atG
  conv => lhs; rw [← List.take_append_drop k xs]
  rw [List.reverse_append, List.find?_append]
  have : (xs.drop k).reverse.find? (fun x => decide (x.g.b < i)) = none := by
    rw [List.find?_eq_none]
    intro x hx
    rw [List.mem_reverse] at hx
    obtain ⟨n, hn, rfl⟩ := List.mem_iff_getElem.1 hx
    rw [List.getElem_drop]
    rw [List.length_drop] at hn
    simpa using h (k + n) (by omega) (by omega)
  rw [this]
  rfl
theorem atG_some {xs : List Ge} {i : Int} {k : Nat} (h : ∀ j (hj : j < xs.length), k + 1 ≤ j → ¬ xs[j].g.b < i) (hk : k < xs.length) (hb : xs[k].g.b < i) : atG xs i = some xs[k] := by
  rw [atG_none h (by omega)]
  unfold atG
  rw [List.take_succ_eq_append_getElem hk, List.reverse_append]
  simp [hb]
set_option maxRecDepth 100000 in
set_option maxHeartbeats 1000000 in
theorem at_any (w : World) (base : Nat) (F : Nat → Prop) (b : Nat) (xs : List Ge) (i : Int) (x : Ge) (h : GensAt w base F b xs) (h0 : 0 < xs.length) (h60 : xs.length ≤ 60) (hx : atG xs i = some x) :
    Calls Tryd.prog 13 #[.pointer (some ⟨b, 0, none⟩), .int .i64 i] w fun e w' => ∃ A c, e = .returned (.agg #[.int .i64 x.g.n, .int .i64 x.g.e, .int .i64 x.g.b, .slice none 0 0, .slice A x.g.l.length c]) ∧ (Kd.int .i64).R 3 w' w.heap.size (fun k => w.heap.size ≤ k) (.slice A x.g.l.length c) x.g.l ∧ Below w.heap.size w w' := by
  have HX := Lib.hid hx
  have hG1 := h.alloc (.cells #[.int .i64 0, .int .i64 0, .int .i64 0, .slice none 0 0, .slice none 0 0] 32)
  have HZ := Lib.hid (heap_alloc_new w (.cells #[.int .i64 0, .int .i64 0, .int .i64 0, .slice none 0 0, .slice none 0 0] 32))
  obtain ⟨h1, h2, vl, hb, hR, hO⟩ := hG1
  obtain ⟨g, cap, rfl, _, _, hlc, hcm⟩ := ge_row hR h0
  have vb := blk_cell hb 0
  have HR := Lib.hid hR
  have HO := Lib.hid hO
  clear h hx hb hR hO h2 h1
  have hB0 := Lib.hid ((Below.refl w.heap.size w).alloc (Nat.le_refl _) (.cells #[.int .i64 0, .int .i64 0, .int .i64 0, .slice none 0 0, .slice none 0 0] 32))
  go_enter Tryd.func13, Tryd.ntmps13
  go_wp2
  generalize hW : w.alloc _ = W at *
  go_loopw [5] (fun iv wr => ∃ (k : Nat), k ≤ xs.length ∧ iv = .int .i64 ((k : Int) - 1) ∧ wr = W ∧ (∀ j (hj : j < xs.length), k ≤ j → ¬ xs[j].g.b < i)) (fun iv _ => (intOf iv + 1).toNat)
  case atStart => exact ⟨xs.length, by omega, rfl, rfl, fun j hj hk => by omega⟩
  case round =>
    obtain ⟨k, hk, rfl, rfl, hno⟩ := hrel
    cases k with
    | zero =>
      exfalso
      have := HX.out
      rw [atG_none hno (by omega)] at this
      simp [atG] at this
    | succ k =>
      have hget := ge_get HR.out k (by omega)
      have hOk := HO.out xs[k] (List.getElem_mem _)
      have hsome := fun (hb : xs[k].g.b < i) => atG_some hno (by omega) hb
      have hno2 : ¬ xs[k].g.b < i → ∀ j (hj : j < xs.length), k ≤ j → ¬ xs[j].g.b < i := by
        intro hb j hj hkj
        rcases Nat.eq_or_lt_of_le hkj with rfl | h
        · exact hb
        · exact hno j hj h
      have HNO := Lib.hid hno2
      have HSO := Lib.hid hsome
      clear hno hno2 hsome
      generalize xs[k] = y at *
      obtain ⟨ad, hA, hC⟩ := mem_row hOk.1 hOk.2.1
      obtain ⟨⟨n, en, bb, l⟩, A, c⟩ := y
      obtain rfl : A = some ad := hA
      simp only at hC hOk
      have hlen : l.length ≤ 7 := hOk.2.2
      obtain ⟨q0, q1, q2, q3, q4⟩ := hget
      have q4' : wr.cell? _ = some (Value.slice (some ad) l.length c) := q4
      have HC := Lib.hid hC
      have hkw : ((k + 1 : Nat) : Int) - 1 = k := by omega
      rw [hkw]
      have hki : (k : Int) < xs.length := by omega
      clear hC hOk q4
      by_cases hb : bb < i
      · have hx2 := Option.some.inj (HX.out.symm.trans (HSO.out hb))
        subst hx2
        clear HX HSO HNO
        go_wp2_with (go_at_call 27
                     refine (twin_lit _ n en bb l ad l.length c HC.out (by omega)).mono ?_
                     rintro e w4 ⟨A1, c1, rfl, hR, hB⟩
                     have HR4 := Lib.hid hR
                     have HB4 := Lib.hid hB
                     have z0 : w4.cell? ⟨w.heap.size, 0, none⟩ = _ := blk_cell (blk_below HZ.out HB4.out) 0
                     have z1 : w4.cell? ⟨w.heap.size, 1, none⟩ = _ := blk_cell (blk_below HZ.out HB4.out) 1
                     have z2 : w4.cell? ⟨w.heap.size, 2, none⟩ = _ := blk_cell (blk_below HZ.out HB4.out) 2
                     have z3 : w4.cell? ⟨w.heap.size, 3, none⟩ = _ := blk_cell (blk_below HZ.out HB4.out) 3
                     have z4 : w4.cell? ⟨w.heap.size, 4, none⟩ = _ := blk_cell (blk_below HZ.out HB4.out) 4
                     have g0 : w4.frozen? ⟨w.heap.size, 0, none⟩ = false := blk_frozen (blk_below HZ.out HB4.out) 0
                     have g1 : w4.frozen? ⟨w.heap.size, 1, none⟩ = false := blk_frozen (blk_below HZ.out HB4.out) 1
                     have g2 : w4.frozen? ⟨w.heap.size, 2, none⟩ = false := blk_frozen (blk_below HZ.out HB4.out) 2
                     have g3 : w4.frozen? ⟨w.heap.size, 3, none⟩ = false := blk_frozen (blk_below HZ.out HB4.out) 3
                     have g4 : w4.frozen? ⟨w.heap.size, 4, none⟩ = false := blk_frozen (blk_below HZ.out HB4.out) 4
                     clear hR hB)
        obtain ⟨t1, t2, t3⟩ := stored5 (x0 := .int .i64 n) (x1 := .int .i64 en) (x2 := .int .i64 bb) (x3 := .slice none 0 0) (Nat.le_refl _) HZ.out hB0.out HB4.out HR4.out
        change bodyPost _ _ _ _ _ (set5 w4 w.heap.size (.int .i64 n) (.int .i64 en) (.int .i64 bb) (.slice none 0 0) (.slice A1 l.length c1))
        exact bodyPost_ret (v := .agg #[.int .i64 n, .int .i64 en, .int .i64 bb, .slice none 0 0, .slice A1 l.length c1]) (five_res _ _ _ _ w.heap.size 32 _ _ _ _ _ t1 (fun h0 h1 h2 h3 h4 => by simp [results, Tryd.results13, go_sem, h0, h1, h2, h3, h4])) rfl ⟨_, _, rfl, Kd.R_mono t3 (fun k hk => hk.1), t2⟩
      · have hn := Lib.hid (HNO.out hb)
        clear HX HSO HNO
        go_wp2
        exact ⟨⟨k, by omega, rfl, trivial, hn.out⟩, by simp [intOf]⟩
end Go.Proofs.YtjgdglbfnjjmmaaDoor
