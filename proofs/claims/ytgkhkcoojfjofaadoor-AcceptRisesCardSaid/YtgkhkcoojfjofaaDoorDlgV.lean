/- Rows of votes laid open: IndexFunc, DeleteFunc. -/
import Derived.Test.YtgkhkcoojfjofaaDoorAcgO
set_option linter.unusedVariables false
set_option linter.unusedSimpArgs false
namespace Go.Proofs.YtgkhkcoojfjofaaDoor
open Go.RowKit Go.Shelf Go.Proofs.YtgkhkcoojfjofaaDoorW.PrintWords Go.Proofs.Mine

theorem vadd_plain (g i j : Nat) : (⟨g, i, none⟩ : Addr).add j = ⟨g, i + j, none⟩ := by unfold Addr.add; split <;> simp_all
theorem zero_vote (w : World) : (zeroValue 41).run Tryd.prog w = .ok (.agg #[.int .i64 0, .int .i64 0, .int .i64 0, .int .i64 0, .int .i64 0, .string ByteArray.empty, .slice none 0 0, .int .i64 0]) w := by kernel_rfl
theorem size_vote (w : World) : (sizeOf 41).run Tryd.prog w = .ok 8 w := by kernel_rfl
theorem vh_one (x : Vh) : ∀ u ∈ x.cells, u.oneCell' = true := by
  intro u hu
  simp only [Vh.cells, List.mem_cons, List.not_mem_nil, or_false] at hu
  rcases hu with rfl | rfl | rfl | rfl | rfl | rfl | rfl | rfl <;> rfl
def RowV (w : World) (g cap : Nat) (l : List Vh) : Prop :=
  ∃ cur, w.heap[g]? = some (.cells cur 41 (0, 0)) ∧ l.length ≤ cap ∧ cap ≤ maxLen ∧ cur.size = cap * 8 ∧ cur.toList.take (l.length * 8) = l.flatMap Vh.cells
theorem RowV.keep {w w1 : World} {G : Nat → Prop} {g cap : Nat} {l : List Vh} (h : RowV w g cap l) (k : Keep G w w1) (hg : ¬ G g) : RowV w1 g cap l := by
  obtain ⟨cur, h1, h2⟩ := h
  exact ⟨cur, k.blk h1 hg, h2⟩
theorem RowV.lt {w : World} {g cap : Nat} {l : List Vh} (h : RowV w g cap l) : g < w.heap.size := by
  obtain ⟨cur, h1, h2⟩ := h
  exact (Array.getElem?_eq_some_iff.1 h1).1
theorem vat_of {W : World} {a : Addr} {x : Vh} (h : ∀ j u, x.cells[j]? = some u → W.cell? (a.add j) = some u) : VAt W a x := by
  refine ⟨by simpa [Addr.add] using h 0 _ rfl, by simpa [Addr.add] using h 1 _ rfl, by simpa [Addr.add] using h 2 _ rfl, by simpa [Addr.add] using h 3 _ rfl, by simpa [Addr.add] using h 4 _ rfl, by simpa [Addr.add] using h 5 _ rfl, by simpa [Addr.add] using h 6 _ rfl, by simpa [Addr.add] using h 7 _ rfl⟩
theorem vat_block {W : World} {g : Nat} {x : Vh} (h : W.heap[g]? = some (.cells x.cells.toArray 41 (0, 0))) : VAt W ⟨g, 0, none⟩ x :=
  ⟨blk_cell h 0, blk_cell h 1, blk_cell h 2, blk_cell h 3, blk_cell h 4, blk_cell h 5, blk_cell h 6, blk_cell h 7⟩
theorem RowV.cell {w : World} {g cap i : Nat} {l : List Vh} {x : Vh} (h : RowV w g cap l) (hx : l[i]? = some x) : ∀ j u, x.cells[j]? = some u → w.cell? ⟨g, i * 8 + j, none⟩ = some u := by
  obtain ⟨cur, h1, h2, h3, h4, h5⟩ := h
  intro j u hj
  have he := flat_get (enc := Vh.cells) (n := 8) (fun _ => rfl) l i x hx
  rw [← h5] at he
  rw [blk_cell h1]
  have hu : (((cur.toList.take (l.length * 8)).drop (i * 8)).take 8)[j]? = some u := by rw [he]; exact hj
  rw [List.getElem?_take] at hu
  split at hu
  · rw [List.getElem?_drop, List.getElem?_take] at hu
    split at hu
    · simpa using hu
    · cases hu
  · cases hu
theorem RowV.get {w : World} {g cap i : Nat} {l : List Vh} {x : Vh} (h : RowV w g cap l) (hx : l[i]? = some x) : VAt w ⟨g, i * 8, none⟩ x :=
  vat_of fun j u hj => by rw [vadd_plain]; exact h.cell hx j u hj
theorem RowV.row {w : World} {g cap : Nat} {l : List Vh} (h : RowV w g cap l) (hl : l.length ≤ 9223372036854775807) : VRow w (some ⟨g, 0, none⟩) l.length l :=
  ⟨rfl, hl, fun _ => ⟨⟨g, 0, none⟩, rfl, fun j x hx => ⟨x.cells, rfl, rfl, fun i u hu => by rw [vadd_plain, Nat.zero_add]; exact h.cell hx i u hu⟩⟩⟩
theorem RowV.set {W : World} {g cap i : Nat} {l : List Vh} (h : RowV W g cap l) (hi : i < l.length) (m : Vh) : RowV (W.setCells g (i * 8) m.cells) g cap (l.set i m) := by
  obtain ⟨cur, h1, h2, h3, h4, h5⟩ := h
  have hml : m.cells.length = 8 := rfl
  obtain ⟨cur', c1, c2, c3⟩ := setCells_blk (t := 41) m.cells (i * 8) W cur h1 (by rw [hml, h4]; omega)
  refine ⟨cur', c1, by rw [List.length_set]; exact h2, h3, by rw [c2, h4], ?_⟩
  have hcl : cur.toList.length = cap * 8 := by rw [Array.length_toList, h4]
  have ha : (cur.toList.take (i * 8)).length = i * 8 := by rw [List.length_take, hcl]; omega
  have e1 : (cur.toList.take (i * 8) ++ m.cells ++ cur.toList.drop (i * 8 + 8)).take (l.length * 8) = cur.toList.take (i * 8) ++ (m.cells ++ (cur.toList.drop (i * 8 + 8)).take (l.length * 8 - (i * 8 + 8))) := by
    have hx : (cur.toList.take (i * 8) ++ m.cells).length = i * 8 + 8 := by rw [List.length_append, ha, hml]
    rw [List.take_append, hx, List.take_of_length_le (by rw [hx]; omega : (cur.toList.take (i * 8) ++ m.cells).length ≤ l.length * 8), List.append_assoc]
  have e2 : (l.drop (i + 1)).flatMap Vh.cells = (cur.toList.drop (i * 8 + 8)).take (l.length * 8 - (i * 8 + 8)) := by
    rw [← flat_drop (n := 8) (fun _ => rfl), ← h5, List.drop_take]
    rw [show (i + 1) * 8 = i * 8 + 8 from by omega]
  have e3 : (l.take i).flatMap Vh.cells = cur.toList.take (i * 8) := by
    rw [← flat_take (n := 8) (fun _ => rfl), ← h5, List.take_take, Nat.min_eq_left (by omega)]
  rw [List.length_set, c3, hml, e1, List.set_eq_take_append_cons_drop, if_pos hi, List.flatMap_append, List.flatMap_cons, e2, e3]
theorem RowV.some_ {W : World} {g cap : Nat} {l : List Vh} (h : RowV W g cap l) (j : Nat) (hj : j < cap * 8) : (W.cell? ⟨g, j, none⟩).isSome = true ∧ W.frozen? ⟨g, j, none⟩ = false := by
  obtain ⟨cur, h1, h2, h3, h4, h5⟩ := h
  exact ⟨by rw [blk_cell h1 j, Array.getElem?_eq_getElem (by rw [h4]; exact hj)]; rfl, blk_frozen h1 j⟩
theorem RowV.frozen {W : World} {g cap : Nat} {l : List Vh} (h : RowV W g cap l) (j : Nat) : W.frozen? ⟨g, j, none⟩ = false := by
  obtain ⟨cur, h1, _⟩ := h
  exact blk_frozen h1 j
theorem RowV.clear {W : World} {g cap i : Nat} {l : List Vh} (h : RowV W g cap l) (hi : i ≤ l.length) (vs : List Value) (hv : i * 8 + vs.length ≤ cap * 8) : RowV (W.setCells g (i * 8) vs) g cap (l.take i) := by
  obtain ⟨cur, h1, h2, h3, h4, h5⟩ := h
  obtain ⟨cur', c1, c2, c3⟩ := setCells_blk (t := 41) vs (i * 8) W cur h1 (by rw [h4]; exact hv)
  have hcl : cur.toList.length = cap * 8 := by rw [Array.length_toList, h4]
  have ha : (cur.toList.take (i * 8)).length = i * 8 := by rw [List.length_take, hcl]; omega
  have hlt : (l.take i).length = i := by rw [List.length_take]; omega
  refine ⟨cur', c1, by rw [hlt]; omega, h3, by rw [c2, h4], ?_⟩
  rw [hlt, c3, List.append_assoc, List.take_append, ha, Nat.sub_self, List.take_zero, List.append_nil, List.take_take, Nat.min_self, ← flat_take (n := 8) (fun _ => rfl), ← h5, List.take_take, Nat.min_eq_left (by omega)]
theorem vcut_suffix {g cap L k : Nat} (hk : k ≤ L) (hL : L ≤ cap) (A : Addr) (hA : A = if cap = k then ⟨g, 0, none⟩ else ⟨g, k * 8, none⟩) (W : World) :
    (Instr.slice 35 (.slice (some ⟨g, 0, none⟩) L cap) (some (.int .i64 (k : Int))) none none).run Tryd.prog W = .ok (.slice (some A) (L - k) (cap - k)) W := by
  subst hA
  by_cases h : cap = k
  · simp [Instr.slice, run_underlying Tryd.underlying35, Instr.sliceBounds, Instr.sliceBound, asIntOf, size_vote, h]
    intro; omega
  · simp [Instr.slice, run_underlying Tryd.underlying35, Instr.sliceBounds, Instr.sliceBound, asIntOf, size_vote, h]
    rw [if_pos hk, vadd_plain, Nat.zero_add]
theorem vcut_prefix {cap L k : Nat} (hk : k ≤ cap) (W : World) (a : Option Addr) :
    (Instr.slice 35 (.slice a L cap) none (some (.int .i64 (k : Int))) none).run Tryd.prog W = .ok (.slice a k cap) W := by
  simp [Instr.slice, run_underlying Tryd.underlying35, Instr.sliceBounds, Instr.sliceBound, asIntOf, size_vote]
  rw [if_pos hk]
  by_cases h : cap = 0
  · simp [h]
  · cases a <;> simp [h, Addr.add]
/-- From the slot on. -/
def keepS (fr : Int) (x : Vh) : Bool := !decide (x.s < fr)
def dropI (fr : Int) (l : List Vh) : Int := match l.findIdx? (fun x => decide (x.s < fr)) with
  | none => -1
  | some i => (i : Int)
set_option maxRecDepth 100000 in
set_option maxHeartbeats 2000000 in
theorem vindex_any (w : World) (q : Nat) (fr : Int) (hq : w.cell? ⟨q, 0, none⟩ = some (.int .i64 fr)) (g cap : Nat) (l : List Vh) (A : Option Addr) (hA : 0 < l.length → A = some ⟨g, 0, none⟩ ∧ RowV w g cap l) (hl : l.length < 1000000) :
    Calls Tryd.prog 36 #[.slice A l.length cap, .func (.func 28) #[] #[.pointer (some ⟨q, 0, none⟩)]] w fun e w' => e = .returned (.int .i64 (dropI fr l)) ∧ Below w.heap.size w w' := by
  have HQ := Lib.hid hq
  have HA := Lib.hid hA
  clear hq hA
  go_enter Tryd.func36, Tryd.ntmps36
  go_wp2
  go_loopw [5, 8] (fun _ iv wr => ∃ k : Nat, k ≤ l.length ∧ iv = .int .i64 k ∧ (∀ j m, j < k → l[j]? = some m → decide (m.s < fr) = false) ∧ Below w.heap.size w wr) (fun _ iv _ => l.length - (intOf iv).toNat)
  case atStart => exact ⟨0, by omega, rfl, fun j m hj => by omega, Below.refl _ _⟩
  case round =>
    rename_i wr
    obtain ⟨k, hk, rfl, hno, hB⟩ := hrel
    by_cases hlt : k < l.length
    · obtain ⟨rfl, hrow⟩ := HA.out (by omega)
      have hlt2 : (k : Int) < (l.length : Int) := by omega
      have hk0 : (0 : Int) ≤ (k : Int) := by omega
      have hm : l[k]? = some l[k] := List.getElem?_eq_getElem hlt
      generalize l[k] = m at hm
      have hKr := Keep.of_below hB (fun _ => False)
      obtain ⟨q0, q1, q2, q3, q4, q5, q6, q7⟩ := (hrow.keep hKr (fun h => h)).get hm
      have hcu := del1_any m.vo (.slice m.A m.mem.length m.cap) fr q wr (pw_cell_below hB HQ.out)
      have HC := Lib.hid (show Calls Tryd.prog 28 #[.agg #[.int .i64 m.s, .int .i64 m.b, .int .i64 m.kd, .int .i64 m.c, .int .i64 m.q, .string m.data, .slice m.A m.mem.length m.cap, .int .i64 m.dst], .pointer (some ⟨q, 0, none⟩)] wr fun r w' => r = .returned (.bool (decide (m.s < fr))) ∧ Below wr.heap.size wr w' from hcu)
      have HN := Lib.hid hno
      have HB := Lib.hid hB
      have HM := Lib.hid hm
      clear hcu hno hB hKr hrow hm
      cases hc : decide (m.s < fr)
      · rw [hc] at HC
        go_wp2_with (go_at_call 28; refine HC.out.mono ?_; rintro e w2 ⟨rfl, hB2⟩; have HB2 := Lib.hid (HB.out.trans (hB2.mono HB.out.size)); clear hB2)
        refine ⟨⟨k + 1, by omega, by simp, fun j m' hj hm' => ?_, HB2.out⟩, by simp [intOf]; omega⟩
        by_cases hjk : j < k
        · exact HN.out j m' hjk hm'
        · obtain rfl : j = k := by omega
          rw [HM.out] at hm'
          injection hm' with hm'
          subst hm'
          exact hc
      · rw [hc] at HC
        go_wp2_with (go_at_call 28; refine HC.out.mono ?_; rintro e w2 ⟨rfl, hB2⟩; have HB2 := Lib.hid (HB.out.trans (hB2.mono HB.out.size)); clear hB2)
        have hf : dropI fr l = (k : Int) := by
          suffices hq : l.findIdx? (fun x => decide (x.s < fr)) = some k by unfold dropI; rw [hq]
          rw [List.findIdx?_eq_some_iff_getElem]
          have hmk := HM.out
          rw [List.getElem?_eq_getElem hlt] at hmk
          injection hmk with hmk
          refine ⟨hlt, by rw [hmk]; exact hc, fun j hj => ?_⟩
          have := HN.out j _ hj (List.getElem?_eq_getElem (by omega))
          simpa using this
        go_ret
        rw [hf]
        exact ⟨rfl, HB2.out⟩
    · obtain rfl : k = l.length := by omega
      have hf : dropI fr l = -1 := by
        suffices hq : l.findIdx? (fun x => decide (x.s < fr)) = none by unfold dropI; rw [hq]
        rw [List.findIdx?_eq_none_iff]
        intro m hm
        obtain ⟨j, hj, rfl⟩ := List.getElem_of_mem hm
        exact hno j _ hj (List.getElem?_eq_getElem hj)
      have HB := Lib.hid hB
      clear hB hno
      go_wp2
      go_ret
      rw [hf]
      exact ⟨rfl, HB.out⟩
set_option maxRecDepth 100000 in
set_option maxHeartbeats 2000000 in
theorem vdel_any (w : World) (q : Nat) (fr : Int) (hq : w.cell? ⟨q, 0, none⟩ = some (.int .i64 fr)) (g cap : Nat) (sl : List Vh) (hr : RowV w g cap sl) (hqg : q ≠ g) (hl : sl.length < 1000000) :
    Calls Tryd.prog 27 #[.slice (some ⟨g, 0, none⟩) sl.length cap, .func (.func 28) #[] #[.pointer (some ⟨q, 0, none⟩)]] w fun e w' => e = .returned (.slice (some ⟨g, 0, none⟩) (sl.filter (keepS fr)).length cap) ∧ RowV w' g cap (sl.filter (keepS fr)) ∧ Keep (fun k => k = g) w w' := by
  have hix := Lib.hid (vindex_any w q fr hq g cap sl (some ⟨g, 0, none⟩) (fun _ => ⟨rfl, hr⟩) hl)
  have HQ := Lib.hid hq
  have HR := Lib.hid hr
  clear hq hr
  cases hf : sl.findIdx? (fun x => decide (x.s < fr)) with
  | none =>
    have hci : dropI fr sl = -1 := by unfold dropI; rw [hf]
    have hfil : sl.filter (keepS fr) = sl := by
      rw [List.filter_eq_self]
      intro m hm
      have := List.findIdx?_eq_none_iff.1 hf m hm
      unfold keepS
      rw [this]; rfl
    rw [hfil]
    go_enter Tryd.func27, Tryd.ntmps27
    go_wp2_with (go_at_call 36; refine hix.out.mono ?_; rintro e w1 ⟨rfl, hB⟩; rw [hci]; have HB1 := Lib.hid hB; clear hB)
    go_ret
    have hk := Keep.of_below HB1.out (fun _ => False)
    exact ⟨rfl, HR.out.keep hk (fun h => h), hk.mono (fun _ h _ => h.elim)⟩
  | some i0 =>
    have hci : dropI fr sl = (i0 : Int) := by unfold dropI; rw [hf]
    obtain ⟨hi0, hcut0, hno0⟩ := List.findIdx?_eq_some_iff_getElem.1 hf
    have hstart : (sl.take (i0 + 1)).filter (keepS fr) = sl.take i0 := by
      rw [List.take_succ_eq_append_getElem hi0, List.filter_append]
      have h1 : [sl[i0]].filter (keepS fr) = [] := by
        have : keepS fr sl[i0] = false := by unfold keepS; rw [hcut0]; rfl
        simp [this]
      rw [h1, List.append_nil, List.filter_eq_self]
      intro m hm
      obtain ⟨j, hj, rfl⟩ := List.getElem_of_mem hm
      rw [List.length_take] at hj
      have := hno0 j (by omega)
      rw [List.getElem_take]
      unfold keepS
      simpa using this
    clear hno0 hcut0 hf
    generalize hLL : sl.length = L at *
    have HST := Lib.hid hstart
    have hi1 : ((i0 : Int) == -1) = false := by simp
    clear hstart
    go_enter Tryd.func27, Tryd.ntmps27
    go_wp2_with (go_at_call 36; refine hix.out.mono ?_; rintro e w1 ⟨rfl, hB⟩; rw [hci]; have HB1 := Lib.hid hB; clear hB)
    go_loopw [5, 6] (fun iv jv wr => ∃ (i j : Nat) (lc : List Vh), i < j ∧ j ≤ L ∧ iv = .int .i64 i ∧ jv = .int .i64 j ∧ lc.length = L ∧ lc.take i = (sl.take j).filter (keepS fr) ∧ lc.drop j = sl.drop j ∧ RowV wr g cap lc ∧ Keep (fun k => k = g) w wr) (fun _ jv _ => L - (intOf jv).toNat)
    case atStart =>
      have hk := Keep.of_below HB1.out (fun _ => False)
      exact ⟨i0, i0 + 1, sl, by omega, by omega, rfl, by simp, hLL, HST.out.symm, rfl, HR.out.keep hk (fun h => h), hk.mono (fun _ h _ => h.elim)⟩
    case round =>
      rename_i wr
      obtain ⟨i, j, lc, hij, hj, rfl, rfl, hlc, htk, hdr, hRr, hKr⟩ := hrel
      have HTK := Lib.hid htk
      have HDR := Lib.hid hdr
      have HRr := Lib.hid hRr
      have HKr := Lib.hid hKr
      clear htk hdr hRr hKr
      have hLc : L ≤ cap := by obtain ⟨_, _, h, _⟩ := HRr.out; omega
      by_cases hlt : j < L
      · have hlt2 : (j : Int) < (L : Int) := by omega
        have hj0 : (0 : Int) ≤ (j : Int) := by omega
        have hm : lc[j]? = some lc[j] := List.getElem?_eq_getElem (by omega)
        have hml : sl[j]? = some lc[j] := by
          have := HDR.out
          have h0 := congrArg (fun l => l[0]?) this
          simp only [List.getElem?_drop, Nat.add_zero] at h0
          rw [← h0, hm]
        generalize lc[j] = m at hm hml
        obtain ⟨q0, q1, q2, q3, q4, q5, q6, q7⟩ := HRr.out.get hm
        have htk1 : (sl.take (j + 1)).filter (keepS fr) = if keepS fr m then lc.take i ++ [m] else lc.take i := by
          obtain ⟨hj', hme⟩ := List.getElem?_eq_some_iff.1 hml
          rw [List.take_succ_eq_append_getElem hj', List.filter_append, hme, HTK.out]
          cases hst : keepS fr m <;> simp [hst]
        have hdr1 : lc.drop (j + 1) = sl.drop (j + 1) := by
          have := congrArg (List.drop 1) HDR.out
          rwa [List.drop_drop, List.drop_drop] at this
        have HT1 := Lib.hid htk1
        have HD1 := Lib.hid hdr1
        clear hm hml htk1 hdr1
        go_wp2_with fail
        generalize hW : wr.alloc _ = W
        have hK1 : Keep (fun _ => False) wr W := by rw [← hW]; exact (Keep.refl _ wr).alloc _
        have hbox : W.heap[wr.heap.size]? = some (.cells m.cells.toArray 41 (0, 0)) := by rw [← hW]; exact heap_alloc_new wr _
        clear hW q0 q1 q2 q3 q4 q5 q6 q7
        have hqW : W.cell? ⟨q, 0, none⟩ = some (.int .i64 fr) := hK1.cell (HKr.out.cell HQ.out (show ¬ q = g from hqg)) (fun h => h)
        have hcl := del1_any m.vo (.slice m.A m.mem.length m.cap) fr q W hqW
        have hcl2 : Calls Tryd.prog 28 #[.agg #[.int .i64 m.s, .int .i64 m.b, .int .i64 m.kd, .int .i64 m.c, .int .i64 m.q, .string m.data, .slice m.A m.mem.length m.cap, .int .i64 m.dst], .pointer (some ⟨q, 0, none⟩)] W fun r w' => r = .returned (.bool (decide (m.s < fr))) ∧ Below W.heap.size W w' := hcl
        have HCL := Lib.hid hcl2
        have HK1 := Lib.hid hK1
        have HBX := Lib.hid hbox
        clear hK1 hbox hqW hcl hcl2
        refine HCL.out.mono ?_
        rintro e W2 ⟨rfl, hB2⟩
        have hK2 := Keep.of_below hB2 (fun _ => False)
        have hK3 := HK1.out.trans hK2 (fun _ h => h.elim)
        have hR2 := HRr.out.keep hK3 (fun h => h)
        have hKw := HKr.out.trans hK3 (fun _ h => h.elim)
        have hbox2 := hK2.blk HBX.out (fun h => h)
        have HR2 := Lib.hid hR2
        have HKw := Lib.hid hKw
        have HX2 := Lib.hid hbox2
        clear hB2 hK2 hK3 hR2 hKw hbox2
        cases hcu : decide (m.s < fr)
        · have hst : keepS fr m = true := by unfold keepS; rw [hcu]; rfl
          have hil : i < lc.length := by omega
          have hil2 : (i : Int) < (L : Int) := by omega
          have hi0' : (0 : Int) ≤ (i : Int) := by omega
          have hmi : lc[i]? = some lc[i] := List.getElem?_eq_getElem hil
          generalize lc[i] = mi at hmi
          obtain ⟨p0, p1, p2, p3, p4, p5, p6, p7⟩ := HR2.out.get hmi
          have hfz := HR2.out.frozen
          obtain ⟨q0, q1, q2, q3, q4, q5, q6, q7⟩ := vat_block HX2.out
          simp only [Nat.zero_add] at q1 q2 q3 q4 q5 q6 q7
          have hlt1 := HT1.out
          rw [if_pos hst] at hlt1
          have HT2 := Lib.hid hlt1
          clear hmi hlt1
          go_wp2_with fail
          have hRs := HR2.out.set hil m
          have hks : Keep (fun k => k = g) W2 (W2.setCells g (i * 8) m.cells) := Keep.setCells g _ _ _ (Keep.refl _ _) (.inl rfl)
          have htks : (lc.set i m).take (i + 1) = lc.take i ++ [m] := by
            have h1 : (lc.take i).length = i := by rw [List.length_take]; omega
            rw [List.set_eq_take_append_cons_drop, if_pos hil, List.take_append, h1, List.take_of_length_le (by rw [h1]; omega), Nat.add_sub_cancel_left, List.take_succ_cons, List.take_zero]
          have hdrs : (lc.set i m).drop (j + 1) = sl.drop (j + 1) := by rw [List.drop_set_of_lt (by omega)]; exact HD1.out
          exact ⟨⟨i + 1, j + 1, lc.set i m, by omega, by omega, by simp, by simp, by simp [hlc], by rw [htks, HT2.out], hdrs, hRs, HKw.out.trans hks (fun _ h => .inl h)⟩, by simp [intOf]; omega⟩
        · have hst : keepS fr m = false := by unfold keepS; rw [hcu]; rfl
          have hlt1 := HT1.out
          rw [if_neg (by rw [hst]; decide)] at hlt1
          have HT2 := Lib.hid hlt1
          clear hlt1
          go_wp2_with fail
          exact ⟨⟨i, j + 1, lc, by omega, by omega, rfl, by simp, hlc, HT2.out.symm, HD1.out, HR2.out, HKw.out⟩, by simp [intOf]; omega⟩
      · obtain rfl : j = L := by omega
        have hil : i < j := hij
        obtain ⟨d, hd⟩ : ∃ d, j - i = d := ⟨_, rfl⟩
        have hsl := vcut_suffix (g := g) (cap := cap) (L := j) (k := i) (by omega) hLc ⟨g, i * 8, none⟩ (by rw [if_neg (by omega)])
        rw [hd] at hsl
        have hp := vcut_prefix (L := j) (cap := cap) (k := i) (by omega) (a := some ⟨g, 0, none⟩)
        obtain ⟨w2, hw2⟩ : ∃ w2, w2 = wr.setCells g (i * 8) (Builtin.zeroCells (Value.agg #[.int .i64 0, .int .i64 0, .int .i64 0, .int .i64 0, .int .i64 0, .string ByteArray.empty, .slice none 0 0, .int .i64 0]).cells d).toList := ⟨_, rfl⟩
        have hclr : (Builtin.clear_ #[35] 0 #[.slice (some ⟨g, i * 8, none⟩) d (cap - i)]).run Tryd.prog wr = .ok (.tuple #[]) w2 := by
          rw [hw2]
          exact run_clear_cells wr 35 41 0 _ Tryd.underlying35 zero_vote (by intro u hu; simp only [Value.cells, Array.toList, List.mem_cons, List.not_mem_nil, or_false] at hu; rcases hu with rfl | rfl | rfl | rfl | rfl | rfl | rfl | rfl <;> rfl) (by simp [Value.cells]) ⟨g, i * 8, none⟩ g (i * 8) d (cap - i) (fun _ => rfl)
            (fun q hq => (HRr.out.some_ (i * 8 + q) (by simp [Value.cells] at hq; omega)).1) (fun q hq => (HRr.out.some_ (i * 8 + q) (by simp [Value.cells] at hq; omega)).2)
        have hRc : RowV w2 g cap (lc.take i) := by rw [hw2]; exact HRr.out.clear (by omega) _ (by simp [Builtin.zeroCells, Value.cells]; omega)
        have hKc : Keep (fun k => k = g) wr w2 := by rw [hw2]; exact Keep.setCells g _ _ _ (Keep.refl _ _) (.inl rfl)
        have htk := HTK.out
        rw [← hLL, List.take_length] at htk
        rw [htk] at hRc
        have hlen : (sl.filter (keepS fr)).length = i := by rw [← htk, List.length_take]; omega
        have HRc := Lib.hid hRc
        have HKc := Lib.hid (HKr.out.trans hKc (fun _ h => .inl h))
        have HLEN := Lib.hid hlen
        clear hw2 hRc hKc htk hlen hd
        go_wp2
        go_ret
        rw [HLEN.out]
        exact ⟨rfl, HRc.out, HKc.out⟩
end Go.Proofs.YtgkhkcoojfjofaaDoor
