/- The row that wire reads from: entries, configurations. -/
import Derived.Test.YtkdlghbfplhkpaaDoorRdY
import Derived.Test.YtkdlghbfplhkpaaDoorRdQ
set_option linter.unusedVariables false
set_option linter.unusedSimpArgs false
namespace Go.Proofs.YtkdlghbfplhkpaaDoor
open Go.RowKit Go.Proofs.YtkdlghbfplhkpaaDoorW.PrintWords Go.Proofs.Mine

/-- A reader at work, and two blocks beside it: the result's and the variable's. -/
structure BoxS (w : World) (base : Nat) (F0 : Nat → Prop) (b gr ge : Nat) (zr ce : Obj) (s : St) (W : World) (F : Nat → Prop) : Prop where
  rd : RdAt W base F b s
  hF : ∀ k, F k → F0 k ∨ w.heap.size ≤ k
  keep : Keep (fun k => k = b) w W
  be : W.heap[ge]? = some ce
  br : W.heap[gr]? = some zr
  ne : ¬ F ge ∧ w.heap.size ≤ ge
  nr : ¬ F gr ∧ w.heap.size ≤ gr
  er : ge ≠ gr
theorem BoxS.after {w W W' : World} {base b gr ge : Nat} {F0 F F' : Nat → Prop} {zr ce : Obj} {s s' : St} (h : BoxS w base F0 b gr ge zr ce s W F) (h1 : RdAt W' base F' b s') (h2 : ∀ k, F' k → F k ∨ W.heap.size ≤ k) (h3 : Keep (fun k => k = b) W W') : BoxS w base F0 b gr ge zr ce s' W' F' := by
  have hb := h.rd.1
  have l1 := blk_lt h.be
  have l2 := blk_lt h.br
  refine ⟨h1, fun k hk => ?_, h.keep.trans h3 (fun _ h => .inl h), h3.blk h.be (fun e => h.ne.1 (by have e' : ge = b := e; rw [e']; exact hb)), h3.blk h.br (fun e => h.nr.1 (by have e' : gr = b := e; rw [e']; exact hb)), ⟨fun hf => ?_, h.ne.2⟩, ⟨fun hf => ?_, h.nr.2⟩, h.er⟩
  · rcases h2 k hk with e | e
    · exact h.hF k e
    · exact .inr (Nat.le_trans h.keep.size e)
  · rcases h2 ge hf with e | e
    · exact h.ne.1 e
    · omega
  · rcases h2 gr hf with e | e
    · exact h.nr.1 e
    · omega
theorem BoxS.store {w W : World} {base b gr ge t : Nat} {F0 F : Nat → Prop} {zr : Obj} {cs cs' : Array Value} {s : St} (h : BoxS w base F0 b gr ge zr (.cells cs t (0, 0)) s W F) (i : Nat) (v : Value) (hc : cs.setIfInBounds i v = cs') : BoxS w base F0 b gr ge zr (.cells cs' t (0, 0)) s (W.setCell ⟨ge, i, none⟩ v) F := by
  have hk : Keep (fun k => k = ge) W (W.setCell ⟨ge, i, none⟩ v) := (Keep.refl _ _).setCell _ _ (.inl rfl)
  refine ⟨h.rd.keep hk (fun j hj e => h.ne.1 (e ▸ hj)), h.hF, h.keep.setCell _ _ (.inr h.ne.2), ?_, hk.blk h.br (fun e => h.er (by have e' : gr = ge := e; exact e'.symm)), h.ne, h.nr, h.er⟩
  rw [← hc]
  exact blk_set h.be i v
theorem BoxS.begin {w W : World} {base b gr : Nat} {F0 F : Nat → Prop} {zr ce : Obj} {s : St} (h1 : RdAt W base F b s) (h2 : ∀ k, F k → F0 k ∨ w.heap.size ≤ k) (h3 : Keep (fun k => k = b) w W) (h4 : W.heap[gr]? = some zr) (h5 : ¬ F gr ∧ w.heap.size ≤ gr) {ge : Nat} (hge : ge = W.heap.size) : BoxS w base F0 b gr ge zr ce s (W.alloc ce) F := by
  have hB : Below W.heap.size W (W.alloc ce) := (Below.refl _ W).alloc (Nat.le_refl _) _
  have hl := blk_lt h4
  subst hge
  refine ⟨h1.below hB, h2, h3.alloc _, heap_alloc_new W _, (blk_below h4 hB), ⟨fun hf => by have := (h1.2.1 _ hf).2; omega, h3.size⟩, h5, by omega⟩
/-- An entry that was read. -/
def RdEnt (w : World) (base : Nat) (F : Nat → Prop) (b : Nat) (s : St) (x : Ent) (r : Ending) (w' : World) : Prop :=
  ∃ A c F', r = .returned (.agg #[.int .i64 x.kd, .int .i64 x.c, .int .i64 x.q, .string x.data, .slice A x.mem.length c, .int .i64 x.dst]) ∧ w'.ownsRow w.heap.size 3 1 (.slice A x.mem.length c) x.mem.length (nums .i64 x.mem) ∧ RdAt w' base F' b s ∧ (∀ k, F' k → F k ∨ w.heap.size ≤ k) ∧ Keep (fun k => k = b) w w' ∧ ∀ k, (Value.slice A x.mem.length c).ownBlock = some k → ¬ F' k
abbrev zeroEnt : Array Value := #[.int .i64 0, .int .i64 0, .int .i64 0, .string ByteArray.empty, .slice none 0 0, .int .i64 0]
set_option maxRecDepth 100000 in
set_option maxHeartbeats 4000000 in
theorem anEntry_aux (w : World) (base b : Nat) (F : Nat → Prop) (s s1 s2 s3 s4 s5 s6 : St) (kd c q dst : Int) (data : ByteArray) (mem : List Int) (h : RdAt w base F b s) (e1 : sortS s 0 4 = s1) (e2 : numS s1 = s2) (e3 : numS s2 = s3) (e4 : strS s3 = s4) (e5 : numbersS s4 9 = s5) (e6 : sortS s5 0 2 = s6)
    (v0 : oneV s = kd) (v1 : numV s1 = c) (v2 : numV s2 = q) (v3 : strOfNums (strV s3) = data) (v4 : numbersV s4 9 = mem) (v5 : oneV s5 = dst) :
    Calls Tryd.prog 42 #[.pointer (some ⟨b, 0, none⟩)] w (RdEnt w base F b s6 ⟨kd, c, q, data, mem, dst⟩) := by
  unfold RdEnt
  dsimp only
  have E1 := Lib.hid e1
  have E2 := Lib.hid e2
  have E3 := Lib.hid e3
  have E4 := Lib.hid e4
  have E5 := Lib.hid e5
  have E6 := Lib.hid e6
  have V0 := Lib.hid v0
  have V1 := Lib.hid v1
  have V2 := Lib.hid v2
  have V3 := Lib.hid v3
  have V4 := Lib.hid v4
  have V5 := Lib.hid v5
  have HH := Lib.hid h
  obtain ⟨gr, hgr⟩ : ∃ gr, gr = w.heap.size := ⟨_, rfl⟩
  have HGR := Lib.hid hgr
  have HNF := Lib.hid (show ¬ F gr from fun hf => by have := (h.2.1 gr hf).2; omega)
  clear e1 e2 e3 e4 e5 e6 v0 v1 v2 v3 v4 v5 h hgr
  go_enter Tryd.func42, Tryd.ntmps42
  go_wp2_with (first
    | (go_at_call 37; refine (sort_any 0 2 _ base b F5 s5 B5.out.rd).mono ?_
       rintro r w6 ⟨rfl, F6, r6, f6, k6⟩
       rw [V5.out]
       rw [E6.out] at r6
       have b6 := B5.out.after r6 f6 k6
       have HO6 := Lib.hid (k6.own HO5.out (fun k hk e => HN5.out k hk (by have e' : k = b := e; rw [e']; exact B5.out.rd.1)))
       have HN6 := Lib.hid (not_later f6 HN5.out (own_lt HO5.out))
       have HK6 := Lib.hid k6
       have q0 := blk_cell b6.be 0
       have q1 := blk_cell b6.be 1
       have q2 := blk_cell b6.be 2
       have q3 := blk_cell b6.be 3
       have q4 := blk_cell b6.be 4
       have q5 := blk_cell b6.be 5
       have fq := blk_frozen b6.be 5
       have B6 := Lib.hid (b6.store 5 (.int .i64 dst) rfl)
       have hbr := (b6.store 5 (.int .i64 dst) rfl).br
       have r0 := blk_cell hbr 0
       have r1 := blk_cell hbr 1
       have r2 := blk_cell hbr 2
       have r3 := blk_cell hbr 3
       have r4 := blk_cell hbr 4
       have r5 := blk_cell hbr 5
       have f0 := fun j => blk_frozen hbr j
       clear r6 f6 k6 b6 hbr)
    | (go_at_call 40; refine (numbers_any 9 _ base b F4 s4 B4.out.rd).mono ?_
       rintro r w5 ⟨v, F5, rfl, o5, r5, f5, k5, n5⟩
       rw [V4.out] at o5
       rw [E5.out] at r5
       obtain ⟨A5, c5, rfl⟩ := own_slice o5
       have b5 := B4.out.after r5 f5 k5
       have q0 := blk_cell b5.be 4
       have fq := blk_frozen b5.be 4
       have B5 := Lib.hid (b5.store 4 (.slice A5 mem.length c5) rfl)
       have hke : Keep (fun k => k = ge) w5 (w5.setCell ⟨ge, 4, none⟩ (.slice A5 mem.length c5)) := (Keep.refl _ _).setCell _ _ (.inl rfl)
       have HL5 := Lib.hid (Nat.le_trans b5.keep.size (Nat.le_refl w5.heap.size))
       have hB4 : w.heap.size ≤ _ := B4.out.keep.size
       have HO5 := Lib.hid (hke.own (own_less o5 hB4) (fun k hk e => by have e' : k = ge := e; have := own_base o5 k hk; have := blk_lt B4.out.be; omega))
       have HN5 := Lib.hid n5
       have HA := Lib.hid (show ∀ k, (Value.slice A5 mem.length c5).ownBlock = some k → ¬ k = ge ∧ ¬ k = gr from fun k hk => by
         have h1 := own_base o5 k hk
         have h2 := blk_lt B4.out.be
         have h3 := blk_lt B4.out.br
         omega)
       clear o5 r5 f5 k5 n5 b5 hke hB4)
    | (go_at_call 62; refine (str_any _ base b F3 s3 B3.out.rd).mono ?_
       rintro r w4 ⟨rfl, F4, r4, f4, k4⟩
       rw [V3.out]
       rw [E4.out] at r4
       have b4 := B3.out.after r4 f4 k4
       have q0 := blk_cell b4.be 3
       have fq := blk_frozen b4.be 3
       have B4 := Lib.hid (b4.store 3 (.string data) rfl)
       clear r4 f4 k4 b4)
    | (go_at_call 36; refine (number_any _ base b F2 s2 B2.out.rd).mono ?_
       rintro r w3 ⟨rfl, F3, r3, f3, k3⟩
       rw [V2.out]
       rw [E3.out] at r3
       have b3 := B2.out.after r3 f3 k3
       have q0 := blk_cell b3.be 2
       have fq := blk_frozen b3.be 2
       have B3 := Lib.hid (b3.store 2 (.int .i64 q) rfl)
       clear r3 f3 k3 b3)
    | (go_at_call 36
       obtain ⟨ge, hge⟩ : ∃ ge, ge = w1.heap.size := ⟨_, rfl⟩
       have b1 := BoxS.begin (w := w) (F0 := F) (ce := .cells #[.int .i64 kd, .int .i64 0, .int .i64 0, .string ByteArray.empty, .slice none 0 0, .int .i64 0] 27 (0, 0)) H1.out HF1.out HK1.out HZ1.out HR1.out hge
       rw [← hge]
       refine (number_any _ base b F1 s1 b1.rd).mono ?_
       rintro r w2 ⟨rfl, F2, r2, f2, k2⟩
       rw [V1.out]
       rw [E2.out] at r2
       have b2 := b1.after r2 f2 k2
       have q0 := blk_cell b2.be 1
       have fq := blk_frozen b2.be 1
       have B2 := Lib.hid (b2.store 1 (.int .i64 c) rfl)
       clear r2 f2 k2 b2 b1 hge)
    | (go_at_call 37
       have hB : Below w.heap.size w (w.alloc (.cells zeroEnt 27 (0, 0))) := (Below.refl _ w).alloc (Nat.le_refl _) _
       rw [← HGR.out]
       refine (sort_any 0 4 _ base b F s (HH.out.below hB)).mono ?_
       rintro r w1 ⟨rfl, F1, r1, f1, k1⟩
       rw [V0.out]
       rw [E1.out] at r1
       have H1 := Lib.hid r1
       have HF1 := Lib.hid (show ∀ k, F1 k → F k ∨ w.heap.size ≤ k from fun k hk => (f1 k hk).elim .inl (fun e => .inr (Nat.le_trans hB.size e)))
       have HK1 := Lib.hid ((Keep.of_below hB (fun k => k = b)).trans k1 (fun _ h => .inl h))
       have HZ1 := Lib.hid (show w1.heap[gr]? = some (.cells zeroEnt 27 (0, 0)) from k1.blk (by rw [HGR.out]; exact heap_alloc_new w _) (fun e => HNF.out (by have e' : gr = b := e; rw [e']; exact HH.out.1)))
       have HR1 := Lib.hid (show ¬ F1 gr ∧ w.heap.size ≤ gr from ⟨fun hf => by
         have hsz : (w.alloc (.cells zeroEnt 27 (0, 0))).heap.size = w.heap.size + 1 := by simp
         rcases f1 gr hf with e | e
         · exact HNF.out e
         · rw [hsz] at e
           have := HGR.out
           omega, by rw [HGR.out]; exact Nat.le_refl _⟩)
       clear r1 f1 k1 hB))
  clear q0 q1 q2 q3 q4 q5 fq r0 r1 r2 r3 r4 r5 f0
  have hf : (((((((w6.setCell ⟨ge, 5, none⟩ (.int .i64 dst)).setCell ⟨gr, 0, none⟩ (.int .i64 kd)).setCell ⟨gr, 1, none⟩ (.int .i64 c)).setCell ⟨gr, 2, none⟩ (.int .i64 q)).setCell ⟨gr, 3, none⟩ (.string data)).setCell ⟨gr, 4, none⟩ (.slice A5 mem.length c5)).setCell ⟨gr, 5, none⟩ (.int .i64 dst)) = (w6.setCell ⟨ge, 5, none⟩ (.int .i64 dst)).setCells gr 0 [.int .i64 kd, .int .i64 c, .int .i64 q, .string data, .slice A5 mem.length c5, .int .i64 dst] := rfl
  rw [hf]
  clear hf
  obtain ⟨b61, b62, b63, b64, b65, b66, b67, b68⟩ := B6.out
  have hkr := Keep.setCells (F := fun k => k = gr) gr [.int .i64 kd, .int .i64 c, .int .i64 q, .string data, .slice A5 mem.length c5, .int .i64 dst] 0 _ (Keep.refl (fun k => k = gr) (w6.setCell ⟨ge, 5, none⟩ (.int .i64 dst))) (.inl rfl)
  have hkw := Keep.setCells (F := fun k => k = b) gr [.int .i64 kd, .int .i64 c, .int .i64 q, .string data, .slice A5 mem.length c5, .int .i64 dst] 0 _ b63 (.inr b67.2)
  obtain ⟨cur, hc1, hc2, hc3⟩ := setCells_blk [.int .i64 kd, .int .i64 c, .int .i64 q, .string data, .slice A5 mem.length c5, .int .i64 dst] 0 (w6.setCell ⟨ge, 5, none⟩ (.int .i64 dst)) zeroEnt b65 (Nat.le_refl 6)
  have hcur : cur = #[.int .i64 kd, .int .i64 c, .int .i64 q, .string data, .slice A5 mem.length c5, .int .i64 dst] := by
    apply Array.toList_inj.1
    rw [hc3]
    rfl
  subst hcur
  have hO := HO6.out
  have hO7 := (((Keep.refl (fun k => k = ge) w6).setCell ⟨ge, 5, none⟩ (.int .i64 dst) (.inl rfl)).own hO (fun k hk e => by have e' : k = ge := e; have := HA.out k hk; exact this.1 e'))
  have hO8 := hkr.own hO7 (fun k hk e => by have e' : k = gr := e; have := HA.out k hk; exact this.2 e')
  generalize (w6.setCell ⟨ge, 5, none⟩ (.int .i64 dst)).setCells gr 0 [.int .i64 kd, .int .i64 c, .int .i64 q, .string data, .slice A5 mem.length c5, .int .i64 dst] = W7 at *
  have r0 := blk_cell hc1 0
  have r1 := blk_cell hc1 1
  have r2 := blk_cell hc1 2
  have r3 := blk_cell hc1 3
  have r4 := blk_cell hc1 4
  have r5 := blk_cell hc1 5
  simp only [List.getElem?_toArray, List.getElem?_cons_zero, List.getElem?_cons_succ] at r0 r1 r2 r3 r4 r5
  refine bodyPost_ret (v := .agg #[.int .i64 kd, .int .i64 c, .int .i64 q, .string data, .slice A5 mem.length c5, .int .i64 dst]) (by simp [results, Tryd.results42, go_sem, r0, r1, r2, r3, r4, r5]) rfl ⟨A5, c5, F6, rfl, hO8, b61.keep hkr (fun j hj e => b67.1 (e ▸ hj)), b62, hkw, HN6.out⟩
theorem anEntry_any (w : World) (base b : Nat) (F : Nat → Prop) (s : St) (h : RdAt w base F b s) :
    Calls Tryd.prog 42 #[.pointer (some ⟨b, 0, none⟩)] w (RdEnt w base F b (entS s) (entV s)) :=
  anEntry_aux w base b F s _ _ _ _ _ _ _ _ _ _ _ _ h rfl rfl rfl rfl rfl rfl rfl rfl rfl rfl rfl rfl
end Go.Proofs.YtkdlghbfplhkpaaDoor
