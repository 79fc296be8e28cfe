/- The walk of slices.DeleteFunc over a net's own messages. -/
import Derived.Test.YtepmnkelfaiapaaFuncW
set_option linter.unusedVariables false
set_option linter.unusedSimpArgs false
namespace Go.Proofs.Ytepmnkelfaiapaa
open Go.RowKit Go.Proofs.YtepmnkelfaiapaaW.PrintWords Go.Proofs.Mine

def stays (s : NSt) (m : Pm) : Bool := !isCut s m
theorem RowM.set {W : World} {g cap i : Nat} {l : List Pm} (h : RowM W g cap l) (hi : i < l.length) (m : Pm) : RowM (W.setCells g (i * 13) m.cells) g cap (l.set i m) := by
  obtain ⟨cur, h1, h2, h3, h4, h5⟩ := h
  have hml : m.cells.length = 13 := rfl
  obtain ⟨cur', c1, c2, c3⟩ := setCells_blk (t := 32) m.cells (i * 13) W cur h1 (by rw [hml, h4]; omega)
  refine ⟨cur', c1, by rw [List.length_set]; exact h2, h3, by rw [c2, h4], ?_⟩
  have hcl : cur.toList.length = cap * 13 := by rw [Array.length_toList, h4]
  have ha : (cur.toList.take (i * 13)).length = i * 13 := by rw [List.length_take, hcl]; omega
  have e1 : (cur.toList.take (i * 13) ++ m.cells ++ cur.toList.drop (i * 13 + 13)).take (l.length * 13) = cur.toList.take (i * 13) ++ (m.cells ++ (cur.toList.drop (i * 13 + 13)).take (l.length * 13 - (i * 13 + 13))) := by
    have hx : (cur.toList.take (i * 13) ++ m.cells).length = i * 13 + 13 := by rw [List.length_append, ha, hml]
    rw [List.take_append, hx, List.take_of_length_le (by rw [hx]; omega : (cur.toList.take (i * 13) ++ m.cells).length ≤ l.length * 13), List.append_assoc]
  have e2 : (l.drop (i + 1)).flatMap Pm.cells = (cur.toList.drop (i * 13 + 13)).take (l.length * 13 - (i * 13 + 13)) := by
    rw [← flat_drop (n := 13) (fun _ => rfl), ← h5, List.drop_take]
    rw [show (i + 1) * 13 = i * 13 + 13 from by omega]
  have e3 : (l.take i).flatMap Pm.cells = cur.toList.take (i * 13) := by
    rw [← flat_take (n := 13) (fun _ => rfl), ← h5, List.take_take, Nat.min_eq_left (by omega)]
  rw [List.length_set, c3, hml, e1, List.set_eq_take_append_cons_drop, if_pos hi, List.flatMap_append, List.flatMap_cons, e2, e3]
theorem RowM.some_ {W : World} {g cap : Nat} {l : List Pm} (h : RowM W g cap l) (j : Nat) (hj : j < cap * 13) : (W.cell? ⟨g, j, none⟩).isSome = true ∧ W.frozen? ⟨g, j, none⟩ = false := by
  obtain ⟨cur, h1, h2, h3, h4, h5⟩ := h
  exact ⟨by rw [blk_cell h1 j, Array.getElem?_eq_getElem (by rw [h4]; exact hj)]; rfl, blk_frozen h1 j⟩
theorem RowM.frozen {W : World} {g cap : Nat} {l : List Pm} (h : RowM W g cap l) (j : Nat) : W.frozen? ⟨g, j, none⟩ = false := by
  obtain ⟨cur, h1, _⟩ := h
  exact blk_frozen h1 j
theorem RowM.clear {W : World} {g cap i : Nat} {l : List Pm} (h : RowM W g cap l) (hi : i ≤ l.length) (vs : List Value) (hv : i * 13 + vs.length ≤ cap * 13) : RowM (W.setCells g (i * 13) vs) g cap (l.take i) := by
  obtain ⟨cur, h1, h2, h3, h4, h5⟩ := h
  obtain ⟨cur', c1, c2, c3⟩ := setCells_blk (t := 32) vs (i * 13) W cur h1 (by rw [h4]; exact hv)
  have hcl : cur.toList.length = cap * 13 := by rw [Array.length_toList, h4]
  have ha : (cur.toList.take (i * 13)).length = i * 13 := by rw [List.length_take, hcl]; omega
  have hlt : (l.take i).length = i := by rw [List.length_take]; omega
  refine ⟨cur', c1, by rw [hlt]; omega, h3, by rw [c2, h4], ?_⟩
  rw [hlt, c3, List.append_assoc, List.take_append, ha, Nat.sub_self, List.take_zero, List.append_nil, List.take_take, Nat.min_self, ← flat_take (n := 13) (fun _ => rfl), ← h5, List.take_take, Nat.min_eq_left (by omega)]
/-- The net's row has been written in place. -/
theorem net_inplace {W w1 : World} {base b g cap : Nat} {F : Nat → Prop} {s : NSt} {vs : Value} {l' : List Pm} (h : NetAt W base F b s) (hb : W.heap[b]? = some (.cells #[.slice (some ⟨g, 0, none⟩) s.l.length cap, vs, .int .i64 s.lost] 52 (0, 0)))
    (hF : F g) (hr0 : RowM W g cap s.l) (hr : RowM w1 g cap l') (hll : l'.length = s.l.length) (hk : Keep (fun k => k = g) W w1) (hbg : b ≠ g) : NetAt w1 base F b { s with l := l' } := by
  obtain ⟨h1, h2, vl', vs', hb', hR, hS, hm⟩ := h
  rw [hb] at hb'
  obtain ⟨rfl, rfl⟩ : .slice (some ⟨g, 0, none⟩) s.l.length cap = vl' ∧ vs = vs' := by simpa using hb'
  have hb1 := hk.blk hb hbg
  obtain ⟨cur0, hh0, _⟩ := hr0
  have hmg : ∀ k, Value.mapBlock vs = some k → ¬ k = g := fun k hk' he => by subst he; exact map_typed hS hk' hh0
  obtain ⟨cur, hh, r1, r2, r3, r4⟩ := hr
  exact ⟨h1, fun k hk' => ⟨(h2 k hk').1, Nat.lt_of_lt_of_le (h2 k hk').2 hk.size⟩, _, vs, hb1, fixR_iff.2 (.inr ⟨g, cap, cur, by rw [hll], hF, (h2 g hF).1, hh, r1, r2, r3, r4⟩), hS.keep hk hmg, hm⟩
set_option maxRecDepth 100000 in
set_option maxHeartbeats 2000000 in
theorem delFunc_any (w : World) (base : Nat) (F : Nat → Prop) (b : Nat) (s : NSt) (g cap : Nat) (vs : Value) (h : NetAt w base F b s) (hb : w.heap[b]? = some (.cells #[.slice (some ⟨g, 0, none⟩) s.l.length cap, vs, .int .i64 s.lost] 52 (0, 0)))
    (hF : F g) (hr : RowM w g cap s.l) (hbg : b ≠ g) (hl : s.l.length < 1000000) :
    Calls Try.prog 23 #[.slice (some ⟨g, 0, none⟩) s.l.length cap, .func (.func 19) #[.pointer (some ⟨b, 0, none⟩)] #[]] w fun e w' => e = .returned (.slice (some ⟨g, 0, none⟩) (s.l.filter (stays s)).length cap) ∧ RowM w' g cap (s.l.filter (stays s)) ∧ Keep (fun k => k = g) w w' := by
  have hix := Lib.hid (index_any w base F b s g cap s.l h (some ⟨g, 0, none⟩) (fun _ => ⟨rfl, hr⟩) hl)
  have H := Lib.hid h
  have HB := Lib.hid hb
  have HR := Lib.hid hr
  clear h hb hr
  cases hf : s.l.findIdx? (isCut s) with
  | none =>
    have hci : cutIdx s s.l = -1 := by unfold cutIdx; rw [hf]
    have hfil : s.l.filter (stays s) = s.l := by
      rw [List.filter_eq_self]
      intro m hm
      have := List.findIdx?_eq_none_iff.1 hf m hm
      simp [stays, this]
    rw [hfil]
    go_enter Try.func23, Try.ntmps23
    go_wp2_with (go_at_call 26; refine hix.out.mono ?_; rintro e w1 ⟨rfl, hB⟩; rw [hci]; have HB1 := Lib.hid hB; clear hB)
    go_ret
    have hk := Keep.of_below HB1.out (fun _ => False)
    exact ⟨rfl, HR.out.keep hk (fun h => h), hk.mono (fun _ h _ => h.elim)⟩
  | some i0 =>
    have hci : cutIdx s s.l = (i0 : Int) := by unfold cutIdx; rw [hf]
    obtain ⟨hi0, hcut0, hno0⟩ := List.findIdx?_eq_some_iff_getElem.1 hf
    have hstart : (s.l.take (i0 + 1)).filter (stays s) = s.l.take i0 := by
      rw [List.take_succ_eq_append_getElem hi0, List.filter_append]
      have h1 : [s.l[i0]].filter (stays s) = [] := by simp [stays, hcut0]
      rw [h1, List.append_nil, List.filter_eq_self]
      intro m hm
      obtain ⟨j, hj, rfl⟩ := List.getElem_of_mem hm
      rw [List.length_take] at hj
      have := hno0 j (by omega)
      rw [List.getElem_take]
      simp [stays, this]
    clear hno0 hcut0 hf
    generalize hLL : s.l.length = L at *
    have HST := Lib.hid hstart
    have hi1 : ((i0 : Int) == -1) = false := by simp
    clear hstart
    go_enter Try.func23, Try.ntmps23
    go_wp2_with (go_at_call 26; refine hix.out.mono ?_; rintro e w1 ⟨rfl, hB⟩; rw [hci]; have HB1 := Lib.hid hB; clear hB)
    go_loopw [5, 6] (fun iv jv wr => ∃ (i j : Nat) (lc : List Pm), i < j ∧ j ≤ L ∧ iv = .int .i64 i ∧ jv = .int .i64 j ∧ lc.length = L ∧ lc.take i = (s.l.take j).filter (stays s) ∧ lc.drop j = s.l.drop j ∧ NetAt wr base F b { s with l := lc } ∧ RowM wr g cap lc ∧ Keep (fun k => k = g) w wr) (fun _ jv _ => L - (intOf jv).toNat)
    case atStart =>
      have hk := Keep.of_below HB1.out (fun _ => False)
      exact ⟨i0, i0 + 1, s.l, by omega, by omega, rfl, by simp, hLL, HST.out.symm, rfl, H.out.keep hk (fun _ _ h => h), HR.out.keep hk (fun h => h), hk.mono (fun _ h _ => h.elim)⟩
    case round =>
      obtain ⟨i, j, lc, hij, hj, rfl, rfl, hlc, htk, hdr, hNr, hRr, hKr⟩ := hrel
      have HTK := Lib.hid htk
      have HDR := Lib.hid hdr
      have HNr := Lib.hid hNr
      have HRr := Lib.hid hRr
      have HKr := Lib.hid hKr
      clear htk hdr hNr hRr hKr
      have hLc : L ≤ cap := by obtain ⟨_, _, h, _⟩ := HRr.out; omega
      by_cases hlt : j < L
      · have hm : lc[j]? = some lc[j] := List.getElem?_eq_getElem (by omega)
        have hml : s.l[j]? = some lc[j] := by
          have := HDR.out
          have h0 := congrArg (fun l => l[0]?) this
          simp only [List.getElem?_drop, Nat.add_zero] at h0
          rw [← h0, hm]
        generalize lc[j] = m at hm hml
        obtain ⟨q0, q1, q2, q3, q4, q5, q6, q7, q8, q9, q10, q11, q12⟩ := HRr.out.get hm
        have htk1 : (s.l.take (j + 1)).filter (stays s) = if stays s m then lc.take i ++ [m] else lc.take i := by
          obtain ⟨hj', hme⟩ := List.getElem?_eq_some_iff.1 hml
          rw [List.take_succ_eq_append_getElem hj', List.filter_append, hme, HTK.out]
          cases hst : stays s m <;> simp [hst]
        have hdr1 : lc.drop (j + 1) = s.l.drop (j + 1) := by
          have := congrArg (List.drop 1) HDR.out
          rwa [List.drop_drop, List.drop_drop] at this
        have HT1 := Lib.hid htk1
        have HD1 := Lib.hid hdr1
        clear hm hml htk1 hdr1
        go_wp2_with fail
        generalize hW : wr.alloc _ = W
        have hK1 : Keep (fun _ => False) wr W := by rw [← hW]; exact (Keep.refl _ wr).alloc _
        have hbox : W.heap[wr.heap.size]? = some (.cells m.cells.toArray 32 (0, 0)) := by rw [← hW]; exact heap_alloc_new wr _
        clear hW q0 q1 q2 q3 q4 q5 q6 q7 q8 q9 q10 q11 q12
        have hN1 := HNr.out.keep hK1 (fun _ _ h => h)
        refine (cut_any W base F b _ m hN1).mono ?_
        rintro e W2 ⟨rfl, hB2⟩
        have hK2 := Keep.of_below hB2 (fun _ => False)
        have hK3 := hK1.trans hK2 (fun _ h => h.elim)
        have hN2 := hN1.keep hK2 (fun _ _ h => h)
        have hR2 := HRr.out.keep hK3 (fun h => h)
        have hKw := HKr.out.trans hK3 (fun _ h => h.elim)
        have hbox2 := hK2.blk hbox (fun h => h)
        have hb2 := hKw.blk HB.out hbg
        have HN2 := Lib.hid hN2
        have HR2 := Lib.hid hR2
        have HKw := Lib.hid hKw
        have HX2 := Lib.hid hbox2
        have HB2' := Lib.hid hb2
        clear hB2 hK1 hK2 hK3 hN1 hN2 hR2 hKw hbox hbox2 hb2
        cases hcu : cutS s.side m.f m.t
        · have hst : stays s m = true := by unfold stays isCut; rw [hcu]; rfl
          have hil : i < lc.length := by omega
          have hmi : lc[i]? = some lc[i] := List.getElem?_eq_getElem hil
          generalize lc[i] = mi at hmi
          obtain ⟨p0, p1, p2, p3, p4, p5, p6, p7, p8, p9, p10, p11, p12⟩ := HR2.out.get hmi
          have hfz := HR2.out.frozen
          obtain ⟨q0, q1, q2, q3, q4, q5, q6, q7, q8, q9, q10, q11, q12⟩ := msgCells_block HX2.out
          simp only [Nat.zero_add] at q1 q2 q3 q4 q5 q6 q7 q8 q9 q10 q11 q12
          have hlt1 := HT1.out
          rw [if_pos hst] at hlt1
          have HT2 := Lib.hid hlt1
          clear hmi hlt1
          go_wp2_with fail
          have hRs := HR2.out.set hil m
          have hks : Keep (fun k => k = g) W2 (W2.setCells g (i * 13) m.cells) := Keep.setCells g _ _ _ (Keep.refl _ _) (.inl rfl)
          have hNs := net_inplace (l' := lc.set i m) HN2.out (vs := vs) (by show W2.heap[b]? = some (.cells #[.slice (some ⟨g, 0, none⟩) lc.length cap, vs, .int .i64 s.lost] 52 (0, 0)); rw [hlc]; exact HB2'.out) hF HR2.out hRs (List.length_set) hks hbg
          have htks : (lc.set i m).take (i + 1) = lc.take i ++ [m] := by
            have h1 : (lc.take i).length = i := by rw [List.length_take]; omega
            rw [List.set_eq_take_append_cons_drop, if_pos hil, List.take_append, h1, List.take_of_length_le (by rw [h1]; omega), Nat.add_sub_cancel_left, List.take_succ_cons, List.take_zero]
          have hdrs : (lc.set i m).drop (j + 1) = s.l.drop (j + 1) := by rw [List.drop_set_of_lt (by omega)]; exact HD1.out
          exact ⟨⟨i + 1, j + 1, lc.set i m, by omega, by omega, by simp, by simp, by simp [hlc], by rw [htks, HT2.out], hdrs, hNs, hRs, HKw.out.trans hks (fun _ h => .inl h)⟩, by simp [intOf]; omega⟩
        · have hst : stays s m = false := by unfold stays isCut; rw [hcu]; rfl
          have hlt1 := HT1.out
          rw [if_neg (by rw [hst]; decide)] at hlt1
          have HT2 := Lib.hid hlt1
          clear hlt1
          go_wp2_with fail
          exact ⟨⟨i, j + 1, lc, by omega, by omega, rfl, by simp, hlc, HT2.out.symm, HD1.out, HN2.out, HR2.out, HKw.out⟩, by simp [intOf]; omega⟩
      · obtain rfl : j = L := by omega
        have hil : i < j := hij
        obtain ⟨d, hd⟩ : ∃ d, j - i = d := ⟨_, rfl⟩
        have hsl := cut_suffix (g := g) (cap := cap) (L := j) (k := i) (by omega) hLc ⟨g, i * 13, none⟩ (by rw [if_neg (by omega)])
        rw [hd] at hsl
        have hp := cut_prefix (L := j) (cap := cap) (k := i) (by omega) (a := some ⟨g, 0, none⟩)
        obtain ⟨w2, hw2⟩ : ∃ w2, w2 = wr.setCells g (i * 13) (Builtin.zeroCells (Value.agg #[.int .i64 0, .int .i64 0, .int .i64 0, .int .i64 0, .int .i64 0, .int .i64 0, .int .i64 0, .int .i64 0, .bool false, .slice none 0 0, .slice none 0 0, .slice none 0 0, .slice none 0 0]).cells d).toList := ⟨_, rfl⟩
        have hclr : (Builtin.clear_ #[27] 0 #[.slice (some ⟨g, i * 13, none⟩) d (cap - i)]).run Try.prog wr = .ok (.tuple #[]) w2 := by
          rw [hw2]
          exact run_clear_cells wr 27 32 0 _ Try.underlying27 Try.zero32 (by intro u hu; exact msgK.K_one (w := default) (x := ⟨0, 0, 0, 0⟩) rfl u (by simpa [Value.cells, Pm.cells] using hu)) (by simp [Value.cells]) ⟨g, i * 13, none⟩ g (i * 13) d (cap - i) (fun _ => rfl)
            (fun q hq => (HRr.out.some_ (i * 13 + q) (by simp [Value.cells] at hq; omega)).1) (fun q hq => (HRr.out.some_ (i * 13 + q) (by simp [Value.cells] at hq; omega)).2)
        have hRc : RowM w2 g cap (lc.take i) := by rw [hw2]; exact HRr.out.clear (by omega) _ (by simp [Builtin.zeroCells, Value.cells]; omega)
        have hKc : Keep (fun k => k = g) wr w2 := by rw [hw2]; exact Keep.setCells g _ _ _ (Keep.refl _ _) (.inl rfl)
        have htk := HTK.out
        rw [← hLL, List.take_length] at htk
        rw [htk] at hRc
        have hlen : (s.l.filter (stays s)).length = i := by rw [← htk, List.length_take]; omega
        have HRc := Lib.hid hRc
        have HKc := Lib.hid (HKr.out.trans hKc (fun _ h => .inl h))
        have HLEN := Lib.hid hlen
        clear hw2 hRc hKc htk hlen hd
        go_wp2
        go_ret
        rw [HLEN.out]
        exact ⟨rfl, HRc.out, HKc.out⟩
end Go.Proofs.Ytepmnkelfaiapaa
