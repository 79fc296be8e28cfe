/- The walk of Append. -/
import Derived.Test.YtfnnjgbldojigaaDoorAppW
set_option linter.unusedVariables false
set_option linter.unusedSimpArgs false
namespace Go.Proofs.YtfnnjgbldojigaaDoor
open Go.RowKit Go.Proofs.YtfnnjgbldojigaaDoorW.PrintWords Go.Proofs.Mine

theorem size5 : (Tryd.prog.info? 5).map (·.size) = some 1 := by kernel_rfl
/-- Behind copy: what may be appended. -/
structure Filled (w3 W : World) (x : List Int) : Prop where
  below : Below w3.heap.size w3 W
  reads : ReadsInt W .u8 (some ⟨w3.heap.size, 0, none⟩) x.length x
theorem apd_done {w w3 W w6 : World} {base b : Nat} {F F2 : Nat → Prop} {s : TS} {A : Option Addr} {c : Nat} {ev v1 : Value} {x : List Int} (h : Spent w base F b s w3 F2 A c ev) (hw : Below w3.heap.size w3 W)
    (hv : Buf .u8 5 w6 base v1 (s.l ++ x)) (hg : W.grownBy w6 (Value.slice A s.l.length c).ownBlock) (hat : v1.ownBlock = (Value.slice A s.l.length c).ownBlock ∨ ∃ b, v1.ownBlock = some b ∧ W.heap.size ≤ b) :
    Tape' w base F b { spendS s with l := s.l ++ x } (w6.setCell ⟨b, 1, none⟩ v1) ∧ ErrT (w6.setCell ⟨b, 1, none⟩ v1) ev (spendE s) ∧ ∃ G, (∀ k, G k → F2 k ∨ w3.heap.size ≤ k) ∧ Keep G w3 (w6.setCell ⟨b, 1, none⟩ v1) := by
  have hl : (Value.slice A (spendS s).l.length c) = .slice A s.l.length c := by rw [spendS_l]
  have hk6 : Keep (fun k => (Value.slice A (spendS s).l.length c).ownBlock = some k) w3 w6 := by
    rw [hl]
    exact (Keep.of_below hw _).trans (Keep.of_grown (F := fun k => (Value.slice A s.l.length c).ownBlock = some k) hg (fun k hk => hk)) (fun k h => .inl h)
  have hT := tape_put (l' := s.l ++ x) h.opn hv hk6 (fun k hk => by
    rw [hl]
    rcases hat with e | ⟨b', e, hb'⟩
    · exact .inl (e ▸ hk)
    · rw [e] at hk; injection hk with hk; subst hk; exact .inr (Nat.le_trans hw.size hb'))
  have hblk := h.opn.blk
  have hkk : Keep (fun k => k = b ∨ (Value.slice A (spendS s).l.length c).ownBlock = some k) w3 (w6.setCell ⟨b, 1, none⟩ v1) :=
    (hk6.mono (fun k e _ => .inr e)).setCell _ _ (.inl (.inl rfl))
  refine ⟨Tape'.after h.sub h.keep hT, h.err.keep hkk (fun j hj C => ?_), _, fun k hk => .inl ?_, hkk⟩
  · rcases hj with rfl | hj
    · rw [hblk]; intro e; injection e with e; injection e with _ e2 _; exact absurd e2 (by decide)
    · obtain ⟨cur, hc⟩ := h.opn.buf.typed j hj
      rw [hc]; intro e; injection e with e; injection e with _ e2 _; exact absurd e2 (by decide)
  · rcases hk with rfl | hk
    · exact h.opn.inF
    · exact (h.opn.own k hk).1
theorem laid_of_grown {w w3 W : World} {base b : Nat} {F F2 : Nat → Prop} {s : TS} {A : Option Addr} {c : Nat} {ev : Value} (h : Spent w base F b s w3 F2 A c ev) (hb : 0 < base) (hk : ∃ G, (∀ k, G k → F2 k ∨ w3.heap.size ≤ k) ∧ Keep G w3 W) : Laid W := by
  obtain ⟨G, hG, hK⟩ := hk
  refine hK.cell h.laid (fun hg => ?_)
  rcases hG 0 hg with e | e
  · have := (h.opn.lt 0 e).1; omega
  · have := World.block_lt_of_cell? w3 ⟨0, 0, none⟩ h.laid
    simp at this; omega
theorem open_below {w w1 : World} {base b : Nat} {F : Nat → Prop} {s : TS} {A : Option Addr} {c : Nat} (h : TOpen w base F b s A c) (hB : Below w.heap.size w w1) : TOpen w1 base F b s A c :=
  ⟨h.inF, fun k hk => ⟨(h.lt k hk).1, Nat.lt_of_lt_of_le (h.lt k hk).2 hB.size⟩, blk_below h.blk hB, h.buf.keep (Keep.of_below hB (fun _ => False)) (fun _ _ h => h), h.own⟩
theorem made_cell (w3 : World) (x : List Int) : ∀ j, j < (nums .u8 x).length → ((w3.alloc (.cells (madeCells #[.int .u8 0] x.length) 5)).cell? ⟨w3.heap.size, j, none⟩).isSome = true := by
  intro j hj
  have hj : j < x.length := by simpa [nums] using hj
  rw [cell_of_row _ w3.heap.size j _ 5 (0, 0) (heap_alloc_new w3 _)]
  simp [madeCells, hj]
theorem copy_made (w3 : World) (B : Option Addr) (cx : Nat) (x : List Int) (hR3 : ReadsInt w3 .u8 B x.length x) (hx : x.length ≤ 1000000000) :
    ∃ w5, (Builtin.copy_ #[32, 32] 3 #[.slice (some ⟨w3.heap.size, 0, none⟩) x.length x.length, .slice B x.length cx]).run Tryd.prog (w3.alloc (.cells (madeCells #[.int .u8 0] x.length) 5)) = .ok (.int .i64 (x.length : Int)) w5 ∧ Filled w3 w5 x := by
  have hal : Below w3.heap.size w3 (w3.alloc (.cells (madeCells #[.int .u8 0] x.length) 5)) := (Below.refl _ _).alloc (Nat.le_refl _) _
  refine ⟨_, ?_, filled.1, filled.2 (by omega)⟩
  cases B with
  | some ad =>
    have h := run_copy_many (P := Tryd.prog) (w3.alloc (.cells (madeCells #[.int .u8 0] x.length) 5)) 32 32 3 5 1 w3.heap.size 0 x.length x.length ad x.length cx (nums .u8 x) Tryd.underlying32 size5 (by simp [nums, Nat.min_def]) (buf_news (hR3.below hal)) (by simpa using made_cell w3 x) (fun j _ => blk_frozen (heap_alloc_new w3 _) (0 + j)) (fun u hu => by simp only [nums, List.mem_map] at hu; obtain ⟨q, _, rfl⟩ := hu; rfl)
    rw [show Nat.min x.length x.length = x.length from Nat.min_self _] at h
    exact h
  | none =>
    have h0 : x.length = 0 := by
      rcases Nat.eq_zero_or_pos x.length with h | h
      · exact h
      · obtain ⟨_, h, _⟩ := hR3.2.2 h; cases h
    obtain rfl : x = [] := List.eq_nil_of_length_eq_zero h0
    have hl : ∀ (x : Addr) (w : World), (loadCells x 0).run Tryd.prog w = .ok #[] w := fun x w => by simpa using run_loadCells_list (P := Tryd.prog) w x [] (by simp)
    obtain ⟨i, hq, hi⟩ := Option.map_eq_some_iff.1 size5
    simp [Builtin.copy_, run_underlying Tryd.underlying32, Builtin.lenOf, Builtin.firstCells, sizeOf, typeInfo, hq, storeCells, World.setCells, hl, nums]
    rfl
set_option maxRecDepth 100000 in
set_option maxHeartbeats 2000000 in
theorem append_any (B : Option Addr) (cx : Nat) (x : List Int) (w : World) (base b : Nat) (F : Nat → Prop) (s : TS) (hg0 : Laid w) (hb0 : 0 < base) (hk : TOk s) (h : TapeAt w base F b s)
    (hx : ReadsInt w .u8 B x.length x) (hxB : 0 < x.length → ∀ a, B = some a → ¬ F a.block) (hxl : x.length ≤ 1000000000) :
    Calls Tryd.prog 48 #[.pointer (some ⟨b, 0, none⟩), .slice B x.length cx] w fun r w' => r = .returned (.int .i64 (appendE s x)) ∧ Tape' w base F b (appendS s x) w' := by
  have HG := Lib.hid hg0
  have HH := Lib.hid h
  have HK := Lib.hid hk
  have HB0 := Lib.hid hb0
  have HX := Lib.hid hx
  have HXB := Lib.hid hxB
  have hll : (s.l.length : Int) ≤ 1073741824 := by have := hk.len; have := hk.room2; omega
  have hbl : (s.l.length + x.length) * 1 ≤ 140737488355328 := by omega
  have hmk := print_make (P := Tryd.prog) 32 5 .u8 1 Tryd.underlying32 info5 (by decide) x.length (by omega)
  obtain ⟨A0, c0, ho0⟩ := h.open_
  have qq : w.cell? ⟨b, 1, none⟩ = some (.slice A0 s.l.length c0) := blk_cell ho0.blk 1
  clear hg0 h hk hb0 hx hxB ho0
  by_cases hm : mayE s ((s.l.length : Int) + (x.length : Int)) = 0
  · have hE : appendE s x = spendE s := if_pos hm
    have hS : appendS s x = { spendS s with l := s.l ++ x } := if_pos hm
    rw [hE, hS]
    have HM := Lib.hid hm
    by_cases hs : spendE s = 0
    · rw [hs]
      have HS := Lib.hid hs
      clear hm hs hE hS
      go_enter Tryd.func48, Tryd.ntmps48
      go_wp2_with (first
        | (go_at_call 62; refine (may_any _ w base b F s HH.out).mono ?_; rintro r w1 ⟨ev, rfl, hE, hB⟩
           obtain rfl := hE.nil HM.out
           have HB1 := Lib.hid hB
           have HT1 := Lib.hid (HH.out.below hB)
           clear hB hE)
        | (go_at_call 64; refine (spend_any w1 base b F s HK.out HT1.out).mono ?_; rintro r w2 ⟨ev2, rfl, hE2, hT2⟩
           have HE2 := Lib.hid hE2
           have HT2 := Lib.hid hT2
           have HG2 := Lib.hid (show Laid w2 from by obtain ⟨F2, _, _, hK2⟩ := hT2; exact laid_at (F2 := F2) (HG.out.below HB1.out) HB0.out HT1.out hK2)
           clear hE2 hT2)
        | (go_at_call 41; refine (wrap_any _ ev2 _ w2 HG2.out HE2.out).mono ?_; rintro r w3 ⟨ev3, rfl, hE3, hB3⟩
           obtain ⟨F3, A, c, hsp⟩ := Spent.of (HG.out.below HB1.out) HB0.out HT1.out HB1.out HT2.out hB3 hE3
           have q1 : w3.cell? ⟨b, 1, none⟩ = some (.slice A s.l.length c) := by rw [← spendS_l s]; exact blk_cell hsp.opn.blk 1
           have q2 : w3.cell? ⟨b, 2, none⟩ = some (.int .i64 ((spendS s).synced : Int)) := blk_cell hsp.opn.blk 2
           have f1 : w3.frozen? ⟨b, 1, none⟩ = false := blk_frozen hsp.opn.blk 1
           have f2 : w3.frozen? ⟨b, 2, none⟩ = false := blk_frozen hsp.opn.blk 2
           have HSP := Lib.hid hsp
           have hlt3 : b < w3.heap.size := blk_lt hsp.opn.blk
           have hs3 : ev3 = .nilIface := hE3.nil HS.out
           subst hs3
           obtain ⟨w5, hcp, hfl5⟩ := copy_made w3 B cx x (reads_keep HX.out HSP.out.keep HXB.out) (by omega)
           have HFL := Lib.hid hfl5
           have hop5 : TOpen w5 base F3 b (spendS s) A c := open_below HSP.out.opn hfl5.below
           have q5 : w5.cell? ⟨b, 1, none⟩ = some (.slice A s.l.length c) := by rw [← spendS_l s]; exact blk_cell hop5.blk 1
           have hbf := hop5.buf
           rw [spendS_l] at hbf
           have hbk := hop5.blk
           rw [spendS_l] at hbk
           have hne : some b ≠ (Value.slice A s.l.length c).ownBlock := fun e => by rw [← spendS_l s] at e; exact (hop5.own b e.symm).2 rfl
           have HBF := Lib.hid hbf
           have HBK := Lib.hid hbk
           have HNE := Lib.hid hne
           have hbw5 : base ≤ w5.heap.size := by have := (hop5.lt b hop5.inF).1; have := (hop5.lt b hop5.inF).2; omega
           clear hfl5 hop5 hbf hbk hne
           clear hE3 hB3 hsp)
        | (have hfl := HFL.out
           at_builtin
           refine wpList_append_buf w5 rfl _ _ 32 5 .u8 1 base rfl Tryd.underlying32 info5 (by decide) (.slice A s.l.length c) s.l x (some ⟨w3.heap.size, 0, none⟩) x.length x.length ?a1 ?a2 HBF.out hfl.reads hbw5 hbl ?a3
           case a1 => rfl
           case a2 => rfl
           intro v1 w6 hv hg hat
           have hdn := apd_done HSP.out hfl.below hv hg hat
           have p6 : w6.cell? ⟨b, 1, none⟩ = some (.slice A s.l.length c) := blk_cell (blk_grown HBK.out hg HNE.out) 1
           have g6 : w6.frozen? ⟨b, 1, none⟩ = false := blk_frozen (blk_grown HBK.out hg HNE.out) 1
           obtain ⟨A6, c6, rfl⟩ := hv.slice
           simp only [List.length_append] at hdn
           have HDN := Lib.hid hdn
           clear hv hg hat hdn)
        | (go_at_call 63; refine (told_any .nilIface 0 _ (by obtain ⟨G, _, hKG⟩ := HDN.out.2.2; exact laid_of_grown HSP.out HB0.out HDN.out.2.2) (.inl ⟨rfl, rfl⟩)).mono ?_; rintro r w8 ⟨rfl, hB8⟩; have HB8 := Lib.hid hB8; clear hB8))
      go_ret
      exact ⟨rfl, (HDN.out.1).below HB8.out⟩
    · have HS := Lib.hid hs
      clear hm hs hE hS
      go_enter Tryd.func48, Tryd.ntmps48
      go_wp2_with (first
        | (go_at_call 62; refine (may_any _ w base b F s HH.out).mono ?_; rintro r w1 ⟨ev, rfl, hE, hB⟩
           obtain rfl := hE.nil HM.out
           have HB1 := Lib.hid hB
           have HT1 := Lib.hid (HH.out.below hB)
           clear hB hE)
        | (go_at_call 64; refine (spend_any w1 base b F s HK.out HT1.out).mono ?_; rintro r w2 ⟨ev2, rfl, hE2, hT2⟩
           have HE2 := Lib.hid hE2
           have HT2 := Lib.hid hT2
           have HG2 := Lib.hid (show Laid w2 from by obtain ⟨F2, _, _, hK2⟩ := hT2; exact laid_at (F2 := F2) (HG.out.below HB1.out) HB0.out HT1.out hK2)
           clear hE2 hT2)
        | (go_at_call 41; refine (wrap_any _ ev2 _ w2 HG2.out HE2.out).mono ?_; rintro r w3 ⟨ev3, rfl, hE3, hB3⟩
           obtain ⟨F3, A, c, hsp⟩ := Spent.of (HG.out.below HB1.out) HB0.out HT1.out HB1.out HT2.out hB3 hE3
           have q1 : w3.cell? ⟨b, 1, none⟩ = some (.slice A s.l.length c) := by rw [← spendS_l s]; exact blk_cell hsp.opn.blk 1
           have q2 : w3.cell? ⟨b, 2, none⟩ = some (.int .i64 ((spendS s).synced : Int)) := blk_cell hsp.opn.blk 2
           have f1 : w3.frozen? ⟨b, 1, none⟩ = false := blk_frozen hsp.opn.blk 1
           have f2 : w3.frozen? ⟨b, 2, none⟩ = false := blk_frozen hsp.opn.blk 2
           have HSP := Lib.hid hsp
           have hlt3 : b < w3.heap.size := blk_lt hsp.opn.blk
           obtain ⟨b3, hev3⟩ := hE3.some HS.out
           subst hev3
           obtain ⟨w5, hcp, hfl5⟩ := copy_made w3 B cx x (reads_keep HX.out HSP.out.keep HXB.out) (by omega)
           have HFL := Lib.hid hfl5
           have hop5 : TOpen w5 base F3 b (spendS s) A c := open_below HSP.out.opn hfl5.below
           have q5 : w5.cell? ⟨b, 1, none⟩ = some (.slice A s.l.length c) := by rw [← spendS_l s]; exact blk_cell hop5.blk 1
           have hbf := hop5.buf
           rw [spendS_l] at hbf
           have hbk := hop5.blk
           rw [spendS_l] at hbk
           have hne : some b ≠ (Value.slice A s.l.length c).ownBlock := fun e => by rw [← spendS_l s] at e; exact (hop5.own b e.symm).2 rfl
           have HBF := Lib.hid hbf
           have HBK := Lib.hid hbk
           have HNE := Lib.hid hne
           have hbw5 : base ≤ w5.heap.size := by have := (hop5.lt b hop5.inF).1; have := (hop5.lt b hop5.inF).2; omega
           clear hfl5 hop5 hbf hbk hne
           clear hE3 hB3 hsp)
        | (have hfl := HFL.out
           at_builtin
           refine wpList_append_buf w5 rfl _ _ 32 5 .u8 1 base rfl Tryd.underlying32 info5 (by decide) (.slice A s.l.length c) s.l x (some ⟨w3.heap.size, 0, none⟩) x.length x.length ?b1 ?b2 HBF.out hfl.reads hbw5 hbl ?b3
           case b1 => rfl
           case b2 => rfl
           intro v1 w6 hv hg hat
           have hdn := apd_done HSP.out hfl.below hv hg hat
           have p6 : w6.cell? ⟨b, 1, none⟩ = some (.slice A s.l.length c) := blk_cell (blk_grown HBK.out hg HNE.out) 1
           have g6 : w6.frozen? ⟨b, 1, none⟩ = false := blk_frozen (blk_grown HBK.out hg HNE.out) 1
           obtain ⟨A6, c6, rfl⟩ := hv.slice
           simp only [List.length_append] at hdn
           have HDN := Lib.hid hdn
           clear hv hg hat hdn)
        | (go_at_call 63; refine (told_any _ (spendE s) _ (laid_of_grown HSP.out HB0.out HDN.out.2.2) HDN.out.2.1).mono ?_; rintro r w8 ⟨rfl, hB8⟩; have HB8 := Lib.hid hB8; clear hB8))
      go_ret
      exact ⟨rfl, (HDN.out.1).below HB8.out⟩
  · have hE : appendE s x = mayE s ((s.l.length : Int) + (x.length : Int)) := if_neg hm
    have hS : appendS s x = s := if_neg hm
    rw [hE, hS]
    have HM := Lib.hid hm
    clear hm hE hS
    go_enter Tryd.func48, Tryd.ntmps48
    go_wp2_with (first
      | (go_at_call 62; refine (may_any _ w base b F s HH.out).mono ?_; rintro r w1 ⟨ev, rfl, hE, hB⟩
         obtain ⟨b3, ps3, rfl, hA3⟩ := hE.some HM.out
         have HB1 := Lib.hid hB
         have HT1 := Lib.hid (HH.out.below hB)
         have HE1 := Lib.hid hE.t
         clear hB hE hA3)
      | (go_at_call 63; refine (told_any _ (mayE s ((s.l.length : Int) + (x.length : Int))) _ (HG.out.below HB1.out) HE1.out).mono ?_; rintro r w5 ⟨rfl, hB5⟩; have HB5 := Lib.hid hB5; clear hB5))
    go_ret
    exact ⟨rfl, (Tape'.after (fun _ h => .inl h) (Keep.of_below HB1.out F) (Tape'.refl HT1.out)).below HB5.out⟩
end Go.Proofs.YtfnnjgbldojigaaDoor
