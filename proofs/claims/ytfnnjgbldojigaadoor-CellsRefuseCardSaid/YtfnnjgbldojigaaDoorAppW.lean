/- The walks of Append, Sync, Replace. -/
import Derived.Test.YtfnnjgbldojigaaDoorTapeC
set_option linter.unusedVariables false
set_option linter.unusedSimpArgs false
namespace Go.Proofs.YtfnnjgbldojigaaDoor
open Go.RowKit Go.Proofs.YtfnnjgbldojigaaDoorW.PrintWords Go.Proofs.Mine

theorem add_block (a : Addr) (i : Nat) : (a.add i).block = a.block := by unfold Addr.add; split <;> rfl
theorem reads_keep {k : IntKind} {w w1 : World} {F : Nat → Prop} {A : Option Addr} {n : Nat} {l : List Int} (h : ReadsInt w k A n l) (q : Keep F w w1) (hA : 0 < n → ∀ a, A = some a → ¬ F a.block) : ReadsInt w1 k A n l := by
  refine ⟨h.1, h.2.1, fun hp => ?_⟩
  obtain ⟨ad, ha, hc⟩ := h.2.2 hp
  exact ⟨ad, ha, fun i hi => q.cell (hc i hi) (by rw [add_block]; exact hA hp ad ha)⟩
theorem spendS_room (s : TS) : (spendS s).room = s.room := by unfold spendS; split <;> split <;> rfl
theorem spendS_l (s : TS) : (spendS s).l = s.l := by unfold spendS; split <;> split <;> rfl
theorem spendS_syn (s : TS) : (spendS s).synced = s.synced := by unfold spendS; split <;> split <;> rfl
theorem mayE_zero {s : TS} {n : Int} (h : mayE s n = 0) : s.dead = false ∧ n ≤ s.room := by
  unfold mayE at h
  split at h
  · cases h
  · rename_i hd
    split at h
    · cases h
    · exact ⟨by simpa using hd, by omega⟩
/-- The slice in the tape's block is put: what was grown, stored. -/
theorem tape_put {w w1 : World} {base b : Nat} {F : Nat → Prop} {s : TS} {A : Option Addr} {c : Nat} {v1 : Value} {l' : List Int} (h : TOpen w base F b s A c) (hv : Buf .u8 5 w1 base v1 l') (hk : Keep (fun k => (Value.slice A s.l.length c).ownBlock = some k) w w1)
    (hat : ∀ k, v1.ownBlock = some k → (Value.slice A s.l.length c).ownBlock = some k ∨ w.heap.size ≤ k) : Tape' w base F b { s with l := l' } (w1.setCell ⟨b, 1, none⟩ v1) := by
  have hbK : ¬ ((Value.slice A s.l.length c).ownBlock = some b) := fun e => (h.own b e).2 rfl
  have hblt := (h.lt b h.inF).2
  have hb1 := hk.blk h.blk hbK
  have hs := (Keep.refl (fun k => k = b) w1).setCell ⟨b, 1, none⟩ v1 (.inl rfl)
  have hv1 : ∀ k, v1.ownBlock = some k → (F k ∨ w.heap.size ≤ k) ∧ k ≠ b := fun k hk => by
    rcases hat k hk with e | e
    · exact ⟨.inl (h.own k e).1, (h.own k e).2⟩
    · exact ⟨.inr e, by omega⟩
  have hKK : Keep F w (w1.setCell ⟨b, 1, none⟩ v1) := (hk.mono (fun k e _ => (h.own k e).1)).trans hs (fun k e => .inl (by subst e; exact h.inF))
  refine ⟨fun k => F k ∨ v1.ownBlock = some k, ⟨.inl h.inF, fun k hk => ?_, v1, blk_set hb1 1 _, hv.keep hs (fun j hj e => (hv1 j hj).2 e), fun k hk => ⟨.inr hk, (hv1 k hk).2⟩⟩, fun k hk => hk.elim .inl fun e => (hv1 k e).1, hKK⟩
  rcases hk with hk | hk
  · exact ⟨(h.lt k hk).1, Nat.lt_of_lt_of_le (h.lt k hk).2 hKK.size⟩
  · exact ⟨(hv.lt k hk).1, Nat.lt_of_lt_of_le (hv.lt k hk).2 hs.size⟩
/-- What was made, filled. -/
theorem filled {w3 : World} {x : List Int} : Below w3.heap.size w3 ((w3.alloc (.cells (madeCells #[.int .u8 0] x.length) 5)).setCells w3.heap.size 0 (nums .u8 x)) ∧ (x.length ≤ 9223372036854775807 → ReadsInt ((w3.alloc (.cells (madeCells #[.int .u8 0] x.length) 5)).setCells w3.heap.size 0 (nums .u8 x)) .u8 (some ⟨w3.heap.size, 0, none⟩) x.length x) := by
  have hnl : (nums .u8 x).length = x.length := by simp [nums]
  refine ⟨((((Keep.refl (fun k => w3.heap.size ≤ k) w3).alloc _).setCells w3.heap.size (nums .u8 x) 0 _ (.inl (Nat.le_refl _)))).to_below (Nat.le_refl _) (fun _ h => h), fun hx => ?_⟩
  obtain ⟨cur, h1, h2, h3⟩ := setCells_blk (nums .u8 x) 0 (w3.alloc (.cells (madeCells #[.int .u8 0] x.length) 5)) _ (heap_alloc_new w3 _) (by rw [hnl, size_madeCells]; omega)
  rw [List.take_zero, List.nil_append, hnl, Nat.zero_add, List.drop_of_length_le (by rw [Array.length_toList, size_madeCells]; omega), List.append_nil] at h3
  refine ⟨rfl, hx, fun _ => ⟨_, rfl, fun i hi => ?_⟩⟩
  have ha : (⟨w3.heap.size, 0, none⟩ : Addr).add i = ⟨w3.heap.size, i, none⟩ := by unfold Addr.add; split <;> simp_all
  rw [ha, cell_of_row _ w3.heap.size i cur 5 (0, 0) h1]
  have h4 : cur.toList[i]? = (nums .u8 x)[i]? := by rw [h3]
  simpa [nums, List.getD_eq_getElem?_getD, hi] using h4
theorem ErrV.nil {w : World} {ev : Value} {e : Int} (h : ErrV w ev e) (h0 : e = 0) : ev = .nilIface := h.elim (fun h => h.2) (fun h => absurd h0 h.1)
theorem laid_at {w1 w2 : World} {base b : Nat} {F F2 : Nat → Prop} {s : TS} (hg : Laid w1) (hb : 0 < base) (hT : TapeAt w1 base F b s) (k : Keep F w1 w2) : Laid w2 :=
  k.cell hg (fun h => by have := (hT.2.1 0 h).1; omega)
theorem tape_sync {w : World} {base b : Nat} {F : Nat → Prop} {s : TS} {A : Option Addr} {c : Nat} (h : TOpen w base F b s A c) (n : Nat) : Tape' w base F b { s with synced := n } (w.setCell ⟨b, 2, none⟩ (.int .i64 (n : Int))) :=
  tape_set h (set1 w b 2 _) rfl (blk_set h.blk 2 _)
/-- What stands behind spend and wrap. -/
structure Spent (w : World) (base : Nat) (F : Nat → Prop) (b : Nat) (s : TS) (W : World) (F2 : Nat → Prop) (A : Option Addr) (c : Nat) (ev : Value) : Prop where
  opn : TOpen W base F2 b (spendS s) A c
  sub : ∀ k, F2 k → F k ∨ w.heap.size ≤ k
  keep : Keep F w W
  laid : Laid W
  err : ErrT W ev (spendE s)
theorem Spent.of {w w1 w2 w3 : World} {base b : Nat} {F : Nat → Prop} {s : TS} {ev : Value} (hg : Laid w1) (hb : 0 < base) (hT : TapeAt w1 base F b s) (h0 : Below w.heap.size w w1) (h : Tape' w1 base F b (spendS s) w2) (hB : Below w2.heap.size w2 w3) (he : ErrT w3 ev (spendE s)) : ∃ F2 A c, Spent w base F b s w3 F2 A c ev := by
  obtain ⟨F2, hT2, hF2, hK2⟩ := h.below hB
  obtain ⟨A, c, ho⟩ := hT2.open_
  refine ⟨F2, A, c, ho, fun k hk => ?_, (Keep.of_below h0 F).trans hK2 (fun _ h => .inl h), laid_at (F2 := F2) hg hb hT hK2, he⟩
  rcases hF2 k hk with e | e
  · exact .inl e
  · exact .inr (Nat.le_trans h0.size e)
theorem ErrT.nil {w : World} {ev : Value} {e : Int} (h : ErrT w ev e) (h0 : e = 0) : ev = .nilIface := h.elim (fun h => h.2) (fun h => absurd h0 h.1)
theorem ErrT.some {w : World} {ev : Value} {e : Int} (h : ErrT w ev e) (h0 : e ≠ 0) : ∃ b, ev = .iface 99 (.pointer (some ⟨b, 0, none⟩)) := h.elim (fun h => absurd h.1 h0) (fun ⟨_, b, _, h, _⟩ => ⟨b, h⟩)
theorem ErrV.some {w : World} {ev : Value} {e : Int} (h : ErrV w ev e) (h0 : e ≠ 0) : ∃ b ps, ev = .iface 99 (.pointer (some ⟨b, 0, none⟩)) ∧ AtIs w b ps (.num e) := h.elim (fun h => absurd h.1 h0) (fun ⟨_, b, ps, h, hA, _⟩ => ⟨b, ps, h, hA⟩)
theorem spent_at {w : World} {base b : Nat} {F : Nat → Prop} {s : TS} {W : World} {F2 : Nat → Prop} {A : Option Addr} {c : Nat} {ev : Value} (h : Spent w base F b s W F2 A c ev) : TapeAt W base F2 b (spendS s) :=
  ⟨h.opn.inF, h.opn.lt, _, h.opn.blk, h.opn.buf, h.opn.own⟩
set_option maxRecDepth 100000 in
set_option maxHeartbeats 2000000 in
theorem sync_any (w : World) (base b : Nat) (F : Nat → Prop) (s : TS) (hg0 : Laid w) (hb0 : 0 < base) (hk : TOk s) (h : TapeAt w base F b s) :
    Calls Tryd.prog 50 #[.pointer (some ⟨b, 0, none⟩)] w fun r w' => r = .returned (.int .i64 (syncE s)) ∧ Tape' w base F b (syncS s) w' := by
  have HG := Lib.hid hg0
  have HH := Lib.hid h
  have HK := Lib.hid hk
  have HB0 := Lib.hid hb0
  clear hg0 h hk hb0
  by_cases hm : mayE s 0 = 0
  · have hE : syncE s = spendE s := if_pos hm
    rw [hE]
    have HM := Lib.hid hm
    by_cases hs : spendE s = 0
    · have hS : syncS s = { spendS s with synced := s.l.length } := by unfold syncS; rw [if_pos hm, if_pos hs]
      rw [hS, hs]
      have HS := Lib.hid hs
      clear hm hs hE hS
      go_enter Tryd.func50, Tryd.ntmps50
      go_wp2_with (first
        | (go_at_call 62; refine (may_any 0 w base b F s HH.out).mono ?_; rintro r w1 ⟨ev, rfl, hE, hB⟩
           obtain rfl := hE.nil HM.out
           have HB1 := Lib.hid hB
           have HT1 := Lib.hid (HH.out.below hB)
           clear hB hE)
        | (go_at_call 64; refine (spend_any w1 base b F s HK.out HT1.out).mono ?_; rintro r w2 ⟨ev2, rfl, hE2, hT2⟩
           have HE2 := Lib.hid hE2
           have HT2 := Lib.hid hT2
           have HG2 := Lib.hid (show Laid w2 from by obtain ⟨F2, _, _, hK2⟩ := hT2; exact laid_at (F2 := F2) (HG.out.below HB1.out) HB0.out HT1.out hK2)
           clear hE2 hT2)
        | (go_at_call 41; refine (wrap_any _ ev2 _ w2 HG2.out HE2.out).mono ?_; rintro r w3 ⟨ev3, rfl, hE3, hB3⟩
           obtain ⟨F3, A, c, hsp⟩ := Spent.of (HG.out.below HB1.out) HB0.out HT1.out HB1.out HT2.out hB3 hE3
           have q1 : w3.cell? ⟨b, 1, none⟩ = some (.slice A s.l.length c) := by rw [← spendS_l s]; exact blk_cell hsp.opn.blk 1
           have q2 : w3.cell? ⟨b, 2, none⟩ = some (.int .i64 ((spendS s).synced : Int)) := blk_cell hsp.opn.blk 2
           have f1 : w3.frozen? ⟨b, 1, none⟩ = false := blk_frozen hsp.opn.blk 1
           have f2 : w3.frozen? ⟨b, 2, none⟩ = false := blk_frozen hsp.opn.blk 2
           have HSP := Lib.hid hsp
           have hlt3 : b < w3.heap.size := blk_lt hsp.opn.blk
           have hs3 : ev3 = .nilIface := hE3.nil HS.out
           subst hs3
           clear hE3 hB3 hsp)
        | (go_at_call 63; refine (told_any .nilIface 0 _ (laid_at (F2 := F3) HSP.out.laid HB0.out (spent_at HSP.out) ((set1 w3 b 2 _).mono (fun k e _ => by subst e; exact HSP.out.opn.inF))) (.inl ⟨rfl, rfl⟩)).mono ?_; rintro r w5 ⟨rfl, hB5⟩; have HB5 := Lib.hid hB5; clear hB5))
      go_ret
      exact ⟨rfl, (Tape'.after HSP.out.sub HSP.out.keep (tape_sync HSP.out.opn s.l.length)).below HB5.out⟩
    · have hS : syncS s = spendS s := by unfold syncS; rw [if_pos hm, if_neg hs]
      rw [hS]
      have HS := Lib.hid hs
      clear hm hs hE hS
      go_enter Tryd.func50, Tryd.ntmps50
      go_wp2_with (first
        | (go_at_call 62; refine (may_any 0 w base b F s HH.out).mono ?_; rintro r w1 ⟨ev, rfl, hE, hB⟩
           obtain rfl := hE.nil HM.out
           have HB1 := Lib.hid hB
           have HT1 := Lib.hid (HH.out.below hB)
           clear hB hE)
        | (go_at_call 64; refine (spend_any w1 base b F s HK.out HT1.out).mono ?_; rintro r w2 ⟨ev2, rfl, hE2, hT2⟩
           have HE2 := Lib.hid hE2
           have HT2 := Lib.hid hT2
           have HG2 := Lib.hid (show Laid w2 from by obtain ⟨F2, _, _, hK2⟩ := hT2; exact laid_at (F2 := F2) (HG.out.below HB1.out) HB0.out HT1.out hK2)
           clear hE2 hT2)
        | (go_at_call 41; refine (wrap_any _ ev2 _ w2 HG2.out HE2.out).mono ?_; rintro r w3 ⟨ev3, rfl, hE3, hB3⟩
           obtain ⟨F3, A, c, hsp⟩ := Spent.of (HG.out.below HB1.out) HB0.out HT1.out HB1.out HT2.out hB3 hE3
           have q1 : w3.cell? ⟨b, 1, none⟩ = some (.slice A s.l.length c) := by rw [← spendS_l s]; exact blk_cell hsp.opn.blk 1
           have q2 : w3.cell? ⟨b, 2, none⟩ = some (.int .i64 ((spendS s).synced : Int)) := blk_cell hsp.opn.blk 2
           have f1 : w3.frozen? ⟨b, 1, none⟩ = false := blk_frozen hsp.opn.blk 1
           have f2 : w3.frozen? ⟨b, 2, none⟩ = false := blk_frozen hsp.opn.blk 2
           have HSP := Lib.hid hsp
           have hlt3 : b < w3.heap.size := blk_lt hsp.opn.blk
           obtain ⟨b3, hev3⟩ := hE3.some HS.out
           subst hev3
           clear hE3 hB3 hsp)
        | (go_at_call 63; refine (told_any _ (spendE s) _ HSP.out.laid HSP.out.err).mono ?_; rintro r w5 ⟨rfl, hB5⟩; have HB5 := Lib.hid hB5; clear hB5))
      go_ret
      exact ⟨rfl, (Tape'.after HSP.out.sub HSP.out.keep (Tape'.refl (spent_at HSP.out))).below HB5.out⟩
  · have hE : syncE s = mayE s 0 := if_neg hm
    have hS : syncS s = s := if_neg hm
    rw [hE, hS]
    have HM := Lib.hid hm
    clear hm hE hS
    go_enter Tryd.func50, Tryd.ntmps50
    go_wp2_with (first
      | (go_at_call 62; refine (may_any 0 w base b F s HH.out).mono ?_; rintro r w1 ⟨ev, rfl, hE, hB⟩
         obtain ⟨b3, ps3, rfl, hA3⟩ := hE.some HM.out
         have HB1 := Lib.hid hB
         have HT1 := Lib.hid (HH.out.below hB)
         have HE1 := Lib.hid hE.t
         clear hB hE hA3)
      | (go_at_call 63; refine (told_any _ (mayE s 0) _ (HG.out.below HB1.out) HE1.out).mono ?_; rintro r w5 ⟨rfl, hB5⟩; have HB5 := Lib.hid hB5; clear hB5))
    go_ret
    exact ⟨rfl, (Tape'.after (fun _ h => .inl h) (Keep.of_below HB1.out F) (Tape'.refl HT1.out)).below HB5.out⟩
end Go.Proofs.YtfnnjgbldojigaaDoor
