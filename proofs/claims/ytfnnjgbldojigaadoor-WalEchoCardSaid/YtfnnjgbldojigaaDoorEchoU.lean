/- WalEcho's last region: each operation's step. -/
import Derived.Test.YtfnnjgbldojigaaDoorEchoS
set_option linter.unusedVariables false
set_option linter.unusedSimpArgs false
namespace Go.Proofs.YtfnnjgbldojigaaDoor
open Go.RowKit Go.Proofs.YtfnnjgbldojigaaDoorW.PrintWords Go.Proofs.Mine Go.Proofs.Mine.Crc

theorem RowOk.sub {w : World} {F G : Nat → Prop} {A : Option Addr} {hs : List Hd} (h : RowOk w F A hs) (hG : ∀ k, G k → F k) : RowOk w G A hs := ⟨h.row, h.ins, fun hp a ha hf => h.off hp a ha (hG _ hf), fun y hy hp a ha hf => h.offs y hy hp a ha (hG _ hf)⟩
section
variable {w w31 w1 : World} {bt bl cv i : Nat} {s : TS} {F : Nat → Prop} {Av : Option Addr} {hs : List Hd} {rs2 : List (List UInt8)} {ph b : Nat} {a : Act} {o : Oper} {K : Act → World → Prop} {Q : Exit → Act → World → Prop} {ts : Array TypeId}
theorem st22 (E : EEnv w w31 bt bl s F Av hs i rs2) (h : ESt w31 bl Av cv hs i rs2 ph b a w1) (hph : ph = 0 ∨ ph = 2) (ho : o.op = .call { callee := .value (.func 21), args := #[.tmp 120], argTypes := ts }) (hd : o.dst = some 121)
    (hK : ∀ a' w', ESt w31 bl Av cv hs i rs2 (ph + 1) b a' w' → K a' w') : Oper.wp Tryd.prog o a w1 K Q := by
  obtain ⟨hb, V, hV, hA, hB⟩ := h
  have hlen : rs2.length ≤ 1000000 := by have h1 := E.h8; have h2 := E.il; rw [E.r2, List.length_append, List.length_map, List.length_take]; simp only [moreL, List.length_cons, List.length_nil]; omega
  refine call_wp _ Tryd.func21 (by decide) (by intro h; cases h) _ _ ho (ys := #[.pointer (some ⟨bl, 0, none⟩)]) (by simp only [List.map_toArray, List.map_cons, List.map_nil, Act.eval, hb.t120]) (cal_all w w1 bt bl s rs2 F (E.win.to hb.hB) hlen E.sz) ?_
  rintro v w2 ⟨hv, hB2⟩
  rw [hd]
  obtain ⟨A, c, rfl⟩ := Kd.R_slice hv
  obtain ⟨g, hm, hq, hi⟩ := hds_of_rows (Kd.R_reads' hv).2.2
  have hl := congrArg List.length hm
  rw [List.length_map] at hl
  rw [← hl] at hq
  rw [← hl]
  refine hK _ _ ⟨hb.put (by decide) (by decide) (by decide) (hb.hB.trans (hB2.mono hb.hB.size)), V, fun k hk => ⟨(hV k hk).1, Nat.lt_of_lt_of_le (hV k hk).2 hB2.size⟩, ?_, (hB.below hB2).put (by decide) (by decide) (by decide)⟩
  have h0 : RowOk w2 (fun _ => False) A g := ⟨hq, hi, fun _ _ _ h => h, fun _ _ _ _ _ h => h⟩
  have ht : ((a.put (some 121) (.slice A g.length c)).tmps.getD 121 undef) = .slice A g.length c := put_same (by rw [hb.sz]; decide)
  rcases hph with rfl | rfl
  · exact ⟨hA, A, c, g, ht, h0.sub (fun k hk => hA k hk), hm⟩
  · obtain ⟨e, hv2, h23⟩ := hA
    have h23' := h23.below hB2
    exact ⟨e, hv2, h23'.put (by decide), A, c, g, ht, (row_off_empty h0 h23'.2).sub (fun k hk => (hv2 k).1 hk), hm⟩
theorem st23 (h : ESt w31 bl Av cv hs i rs2 ph b a w1) (hph : ph = 0 ∨ ph = 1) (ho : o.op = .buildSlice 22 0 #[]) (hd : o.dst = some 122)
    (hK : ∀ a' w', ESt w31 bl Av cv hs i rs2 (ph + 2) b a' w' → K a' w') : Oper.wp Tryd.prog o a w1 K Q := by
  obtain ⟨hb, V, hV, hA, hB⟩ := h
  refine build_wp _ _ _ ho (ys := #[]) (by simp) (build_empty w1) ?_
  rw [hd]
  have hBN : Below w1.heap.size w1 (w1.alloc (.cells #[] 32)) := (Below.refl _ _).alloc (Nat.le_refl _) _
  have hN : w31.heap.size ≤ w1.heap.size := hb.hB.size
  refine hK _ _ ⟨hb.put (by decide) (by decide) (by decide) (hb.hB.trans (hBN.mono hN)), fun k => k = w1.heap.size, fun k hk => by subst hk; exact ⟨hN, by simp⟩, ?_, (((hB.turn (V' := fun k => k = w1.heap.size) (fun k hk _ e => by omega)).below hBN).put (by decide) (by decide) (by decide))⟩
  have h23 : F23 (a.put (some 122) (.slice (some ⟨w1.heap.size, 0, none⟩) 0 0)) (w1.alloc (.cells #[] 32)) w1.heap.size := ⟨put_same (by rw [hb.sz]; decide), heap_alloc_new w1 _⟩
  rcases hph with rfl | rfl
  · exact ⟨_, fun k => Iff.rfl, h23⟩
  · obtain ⟨_, A, c, g, h1, h2, h3⟩ := hA
    exact ⟨_, fun k => Iff.rfl, h23, A, c, g, (put_other (by decide)).trans h1, row_off_fresh (h2.sub (fun _ h => h.elim)) hBN, h3⟩
theorem st28 (h : ESt w31 bl Av cv hs i rs2 ph 0 a w1) (ho : o.op = .buildSlice 32 4 #[(0, .const (.int .u8 109)), (1, .const (.int .u8 111)), (2, .const (.int .u8 114)), (3, .const (.int .u8 101))]) (hd : o.dst = some 127)
    (hK : ∀ a' w', ESt w31 bl Av cv hs i rs2 ph 1 a' w' → K a' w') : Oper.wp Tryd.prog o a w1 K Q := by
  obtain ⟨hb, V, hV, hA, hB⟩ := h
  refine build_wp _ _ _ ho (ys := #[(0, .int .u8 109), (1, .int .u8 111), (2, .int .u8 114), (3, .int .u8 101)]) (by simp only [List.map_toArray, List.map_cons, List.map_nil, Act.eval]) (build_more w1) ?_
  rw [hd]
  have hBN : Below w1.heap.size w1 (w1.alloc (.cells moreC 5)) := (Below.refl _ _).alloc (Nat.le_refl _) _
  have hN : w31.heap.size ≤ w1.heap.size := hb.hB.size
  exact hK _ _ ⟨hb.put (by decide) (by decide) (by decide) (hb.hB.trans (hBN.mono hN)), V, fun k hk => ⟨(hV k hk).1, Nat.lt_of_lt_of_le (hV k hk).2 hBN.size⟩, (hA.below hBN).put (by decide) (by decide) (by decide), w1.heap.size, put_same (by rw [hb.sz]; decide), heap_alloc_new w1 _, hN, fun hv => by have := (hV _ hv).2; omega⟩
theorem st30 (h : ESt w31 bl Av cv hs i rs2 ph 2 a w1) (ho : o.op = .buildSlice 22 1 #[(0, .tmp 128)]) (hd : o.dst = some 129)
    (hK : ∀ a' w', ESt w31 bl Av cv hs i rs2 ph 3 a' w' → K a' w') : Oper.wp Tryd.prog o a w1 K Q := by
  obtain ⟨hb, V, hV, hA, g, hg1, hg2, hg3, hg4⟩ := h
  refine build_wp _ _ _ ho (ys := #[(0, .slice (some ⟨g, 0, none⟩) 4 4)]) (by simp only [List.map_toArray, List.map_cons, List.map_nil, Act.eval, hg1]) (build_one w1 _ g rfl) ?_
  rw [hd]
  have hBN : Below w1.heap.size w1 (w1.alloc (.cells #[.slice (some ⟨g, 0, none⟩) 4 4] 32)) := (Below.refl _ _).alloc (Nat.le_refl _) _
  have hN : w31.heap.size ≤ w1.heap.size := hb.hB.size
  exact hK _ _ ⟨hb.put (by decide) (by decide) (by decide) (hb.hB.trans (hBN.mono hN)), V, fun k hk => ⟨(hV k hk).1, Nat.lt_of_lt_of_le (hV k hk).2 hBN.size⟩, (hA.below hBN).put (by decide) (by decide) (by decide), g, w1.heap.size, put_same (by rw [hb.sz]; decide), heap_alloc_new w1 _, (Keep.of_below hBN (fun _ => False)).blk hg2 (fun h => h), hg3, hN, hg4, fun hv => by have := (hV _ hv).2; omega⟩
theorem SA.freeze {N g : Nat} {V : Nat → Prop} (h : SA N hs i rs2 ph a w1 V) (hg : ¬ V g) : SA N hs i rs2 ph a (w1.freeze ⟨g, 4, none⟩ 1) V := by
  have f22 : ∀ {X : Nat → Prop}, F22 rs2 a w1 X → F22 rs2 a (w1.freeze ⟨g, 4, none⟩ 1) X := fun h => by
    obtain ⟨A, c, g', h1, h2, h3⟩ := h
    exact ⟨A, c, g', h1, row_freeze h2 g 4, h3⟩
  have f23 : ∀ {e : Nat}, (∀ k, V k ↔ k = e) → F23 a w1 e → F23 a (w1.freeze ⟨g, 4, none⟩ 1) e := fun hv h => ⟨h.1, (freeze_keep w1 g 4).blk h.2 (fun e => hg ((hv g).2 e.symm))⟩
  match ph, h with
  | 0, h => exact h
  | 1, h => exact ⟨h.1, f22 h.2⟩
  | 2, ⟨e, hv, h⟩ => exact ⟨e, hv, f23 hv h⟩
  | 3, ⟨e, hv, h, k⟩ => exact ⟨e, hv, f23 hv h, f22 k⟩
  | _ + 4, ⟨A, c, h, k, hv, l⟩ => exact ⟨A, c, h, (freeze_keep w1 g 4).own k (fun j hj e => by subst e; exact hg ((hv _).2 hj)), hv, f22 l⟩
theorem st29 (h : ESt w31 bl Av cv hs i rs2 ph 1 a w1) (ho : o.op = .convert 32 32 (.tmp 127)) (hd : o.dst = some 128)
    (hK : ∀ a' w', ESt w31 bl Av cv hs i rs2 ph 2 a' w' → K a' w') : Oper.wp Tryd.prog o a w1 K Q := by
  obtain ⟨hb, V, hV, hA, g, hg1, hg2, hg3, hg4⟩ := h
  refine convert_wp _ _ _ ho (v := .slice (some ⟨g, 0, none⟩) 4 4) (w' := w1.freeze ⟨g, 4, none⟩ 1) (by simp only [Act.eval, hg1]; exact convert_at w1 _ 5 moreC 4 4 g hg2 Tryd.underlying32 Tryd.underlying5) ?_
  rw [hd]
  have hk := freeze_keep w1 g 4
  refine hK _ _ ⟨hb.put (by decide) (by decide) (by decide) (hb.hB.trans (hk.to_below hb.hB.size (fun j e => by subst e; exact hg3))), V, fun k hk2 => ⟨(hV k hk2).1, Nat.lt_of_lt_of_le (hV k hk2).2 hk.size⟩, (hA.freeze hg4).put (by decide) (by decide) (by decide), g, put_same (by rw [hb.sz]; decide), freeze_at hg2, hg3, hg4⟩
theorem st27 (E : EEnv w w31 bt bl s F Av hs i rs2) (h : ESt w31 bl Av cv hs i rs2 3 b a w1) (ho : o.op = .call { callee := .builtin .append, args := #[.tmp 122, .tmp 125], argTypes := #[22, 22] }) (hd : o.dst = some 126)
    (hK : ∀ a' w', ESt w31 bl Av cv hs i rs2 4 b a' w' → K a' w') : Oper.wp Tryd.prog o a w1 K Q := by
  obtain ⟨hb, V, hV, ⟨e, hv, ⟨h122, he⟩, A, c, g, h121, hr, hm⟩, hB⟩ := h
  have hti : (hs.take i).length = i := by have := E.il; rw [List.length_take]; omega
  have heN : w31.heap.size ≤ e := (hV e ((hv e).2 rfl)).1
  refine append_wp Hd.v hd0 e _ _ 22 32 (.slice none 0 0) 24 ho Tryd.underlying22 infoR rfl (by decide) hd_one (.slice (some ⟨e, 0, none⟩) 0 0) [] (hs.take i) Av i cv h122 hb.t125 (own_empty he) (by have h := row_take (E.row.below hb.hB).row i E.il; rw [hti] at h; exact h) (Nat.le_of_lt (blk_lt he)) (by have := E.il; have := E.h8; simp only [List.length_nil]; omega) ?_
  intro v2 w2 hown hg hat
  rw [hd]
  have hown' : HOwn w2 w31.heap.size v2 (hs.take i) := own_less hown heN
  have hatF : ∀ k, v2.ownBlock = some k → V k ∨ w1.heap.size ≤ k := fun k hk => by
    rcases hat with h | ⟨b', h, hle⟩
    · rw [h] at hk; exact .inl ((hv k).2 (by injection hk with hk; exact hk.symm))
    · rw [h] at hk; injection hk with hk; exact .inr (hk ▸ hle)
  have hk : Keep V w1 w2 := Keep.of_grown hg (fun k hk => (hv k).2 (by injection hk with hk; exact hk.symm))
  obtain ⟨A2, c2, rfl⟩ := own_slice hown'
  rw [hti] at hown' hatF
  rw [hti]
  refine hK _ _ ⟨hb.put (by decide) (by decide) (by decide) (hb.hB.trans (hk.to_below hb.hB.size (fun j hj => (hV j hj).1))), fun k => (Value.slice A2 i c2).ownBlock = some k, fun k hk2 => ⟨own_base hown' k hk2, own_lt hown' k hk2⟩, ⟨A2, c2, put_same (by rw [hb.sz]; decide), hown', fun k => Iff.rfl, A, c, g, (put_other (by decide)).trans h121, hr.step hk hatF, hm⟩, SB.put ?_ (by decide) (by decide) (by decide)⟩
  exact (((hB.turn (V' := fun k => V k ∨ (Value.slice A2 i c2).ownBlock = some k) (fun k hlt hn h2 => h2.elim hn (fun h3 => (hatF k h3).elim hn (fun h4 => by omega)))).keep hk (fun j hj => .inl hj)).turn (fun k _ hn h2 => hn (.inr h2)))
/-- Behind 31. -/
structure EEnd (w31 : World) (bl : Nat) (Av : Option Addr) (cv : Nat) (hs : List Hd) (i : Nat) (rs2 : List (List UInt8)) (a : Act) (w : World) : Prop where
  base : EBase w31 bl Av cv i a w
  all : F22 rs2 a w (fun _ => False)
  want : ∃ A c g, a.tmps.getD 130 undef = .slice A (i + 1) c ∧ HOwn w w31.heap.size (.slice A (i + 1) c) (hs.take i ++ [(⟨some ⟨g, 0, none⟩, 4, moreL⟩ : Hd)]) ∧ w.heap[g]? = some (.cells moreC 5 (4, 5))
theorem st31 (E : EEnv w w31 bt bl s F Av hs i rs2) (h : ESt w31 bl Av cv hs i rs2 4 3 a w1) (ho : o.op = .call { callee := .builtin .append, args := #[.tmp 126, .tmp 129], argTypes := #[22, 22] }) (hd : o.dst = some 130)
    (hK : ∀ a' w', EEnd w31 bl Av cv hs i rs2 a' w' → K a' w') : Oper.wp Tryd.prog o a w1 K Q := by
  obtain ⟨hb, V, hV, ⟨A2, c2, h126, hO, hv, A, c, g0, h121, hr, hm⟩, g, p, h129, hp, hg2, hgN, hpN, hgV, hpV⟩ := h
  have hti : (hs.take i).length = i := by have := E.il; rw [List.length_take]; omega
  have hi := E.il
  have h8 := E.h8
  have hO2 : w1.ownsRow w31.heap.size 32 1 (.slice A2 i c2) (hs.take i).length (encs Hd.v (hs.take i)) := hO
  refine append_wp Hd.v hd0 w31.heap.size _ _ 22 32 (.slice none 0 0) 24 ho Tryd.underlying22 infoR rfl (by decide) hd_one (.slice A2 i c2) (hs.take i) [(⟨some ⟨g, 0, none⟩, 4, moreL⟩ : Hd)] (some ⟨p, 0, none⟩) 1 1 h126 h129 hO2 (one_at (⟨some ⟨g, 0, none⟩, 4, moreL⟩ : Hd) hp) hb.hB.size (by rw [hti]; omega) ?_
  intro v2 w2 hown hg hat
  rw [hd]
  have hown' : HOwn w2 w31.heap.size v2 (hs.take i ++ [(⟨some ⟨g, 0, none⟩, 4, moreL⟩ : Hd)]) := hown
  have hk : Keep V w1 w2 := Keep.of_grown hg (fun k hk => (hv k).2 hk)
  obtain ⟨A3, c3, rfl⟩ := own_slice hown'
  have e1 : (hs.take i ++ [(⟨some ⟨g, 0, none⟩, 4, moreL⟩ : Hd)]).length = i + 1 := by rw [List.length_append, hti]; rfl
  rw [e1] at hown'
  rw [e1]
  exact hK _ _ ⟨hb.put (by decide) (by decide) (by decide) (hb.hB.trans (hk.to_below hb.hB.size (fun j hj => (hV j hj).1))), ⟨A, c, g0, (put_other (by decide)).trans h121, (hr.step hk (fun k h => .inl h)).sub (fun _ h => h.elim), hm⟩, A3, c3, g, put_same (by rw [hb.sz]; decide), hown', hk.blk hg2 hgV⟩
theorem st32 (E : EEnv w w31 bt bl s F Av hs i rs2) (h : EEnd w31 bl Av cv hs i rs2 a w1) (ho : o.op = .call { callee := .value (.func 20), args := #[.tmp 121, .tmp 130], argTypes := ts }) (hd : o.dst = some 131)
    (hK : ∀ a' w', EBase w31 bl Av cv i a' w' → a'.tmps.getD 131 undef = .bool true → K a' w') : Oper.wp Tryd.prog o a w1 K Q := by
  obtain ⟨hb, ⟨A, c, g0, h121, hr, hm⟩, A3, c3, g, h130, hO, hg⟩ := h
  have hti : (hs.take i).length = i := by have := E.il; rw [List.length_take]; omega
  have e1 : (hs.take i ++ [(⟨some ⟨g, 0, none⟩, 4, moreL⟩ : Hd)]).length = i + 1 := by rw [List.length_append, hti]; rfl
  have hs1 := same_any A A3 c c3 g0 (hs.take i ++ [(⟨some ⟨g, 0, none⟩, 4, moreL⟩ : Hd)]) w1 hr.row (own_reads_of' (show HOwn w1 w31.heap.size (.slice A3 (hs.take i ++ [(⟨some ⟨g, 0, none⟩, 4, moreL⟩ : Hd)]).length c3) _ from by rw [e1]; exact hO)) hr.ins (HdsIn.app (HdsIn.sub (E.row.below hb.hB).ins (fun y hy => List.mem_of_mem_take hy)) (HdsIn.one (y := (⟨some ⟨g, 0, none⟩, 4, moreL⟩ : Hd)) (bytes_at moreL hg (by decide)) (show (4 : Nat) ≤ 4 from Nat.le_refl _)))
  rw [e1, decide_eq_true (show g0.map (·.l) = (hs.take i ++ [(⟨some ⟨g, 0, none⟩, 4, moreL⟩ : Hd)]).map (·.l) from by rw [hm, E.r2, List.map_append]; rfl)] at hs1
  refine call_wp _ Tryd.func20 (by decide) (by intro h; cases h) _ _ ho (ys := #[.slice A g0.length c, .slice A3 (i + 1) c3]) (by simp only [List.map_toArray, List.map_cons, List.map_nil, Act.eval, h121, h130]) (R := fun v w' => v = .bool true ∧ Below w1.heap.size w1 w') (hs1.mono (fun r w' h => ⟨_, h.1, rfl, h.2⟩)) ?_
  rintro v w2 ⟨rfl, hB2⟩
  rw [hd]
  exact hK _ _ (hb.put (by decide) (by decide) (by decide) (hb.hB.trans (hB2.mono hb.hB.size))) (put_same (by rw [hb.sz]; decide))
theorem st33 (hb : EBase w31 bl Av cv i a w1) (h131 : a.tmps.getD 131 undef = .bool true) (ho : o.op = .pick (.tmp 119) (.tmp 131) (.const (.bool false))) (hd : o.dst = some 132)
    (hK : ∀ a' w', EBase w31 bl Av cv i a' w' → a'.tmps.getD 132 undef = .bool true → K a' w') : Oper.wp Tryd.prog o a w1 K Q := by
  refine pick_wp _ _ _ ho hb.t119 ?_
  rw [hd]
  refine hK _ _ (hb.put (by decide) (by decide) (by decide) hb.hB) ?_
  rw [put_same (by rw [hb.sz]; decide)]
  exact h131
theorem st34 (hb : EBase w31 bl Av cv i a w1) (h132 : a.tmps.getD 132 undef = .bool true) (ho : o.op = .assign (.tmp 132)) (hd : o.dst = some 4)
    (hK : ∀ tm w', tm.getD 4 undef = .bool true → Below w31.heap.size w31 w' → K ⟨tm, []⟩ w') : Oper.wp Tryd.prog o a w1 K Q := by
  refine assign_wp _ ho ?_
  rw [hd]
  have h1 := hK (a.put (some 4) (a.eval (.tmp 132))).tmps w1 (by rw [put_same (by rw [hb.sz]; decide)]; exact h132) hb.hB
  have e : a.put (some 4) (a.eval (.tmp 132)) = ⟨(a.put (some 4) (a.eval (.tmp 132))).tmps, []⟩ := by
    show (⟨_, _⟩ : Act) = _
    rw [← hb.df]; rfl
  rw [e]
  exact h1
end
end Go.Proofs.YtfnnjgbldojigaaDoor
