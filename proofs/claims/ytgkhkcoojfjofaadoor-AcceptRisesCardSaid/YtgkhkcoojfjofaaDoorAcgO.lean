/- Acceptors with any votes: New, Accept. -/
import Derived.Test.YtgkhkcoojfjofaaDoorAccV
set_option linter.unusedVariables false
set_option linter.unusedSimpArgs false
namespace Go.Proofs.YtgkhkcoojfjofaaDoor
open Go.RowKit Go.Shelf Go.Proofs.YtgkhkcoojfjofaaDoorW.PrintWords Go.Proofs.Mine

def AcG (w : World) (base : Nat) (F : Nat → Prop) (b : Nat) (p : Int) (f : Int → Option Vh) : Prop :=
  F b ∧ (∀ k, F k → base ≤ k ∧ k < w.heap.size) ∧ ∃ m, w.heap[b]? = some (.cells #[.int .i64 p, .map (some m)] 66 (0, 0)) ∧ F m ∧ m ≠ b ∧ MapI encVh w m f ∧ ∀ y x, f y = some x → x.s = y ∧ w.ownsRow base 3 1 (.slice x.A x.mem.length x.cap) x.mem.length (nums .i64 x.mem) ∧ (∀ k, (Value.slice x.A x.mem.length x.cap).ownBlock = some k → F k ∧ k ≠ m ∧ k ≠ b) ∧ x.mem.length ≤ 1000000
def AcT (base : Nat) (b : Nat) (p : Int) (f : Int → Option Vh) (w : World) (F : Nat → Prop) (w' : World) : Prop :=
  ∃ F', AcG w' base F' b p f ∧ (∀ k, F' k → F k ∨ w.heap.size ≤ k) ∧ Keep F w w'
section
variable {w w1 w' : World} {base b : Nat} {F G : Nat → Prop} {p : Int} {f : Int → Option Vh}
theorem AcG.keep (h : AcG w base F b p f) (k : Keep G w w1) (hg : ∀ j, F j → ¬ G j) : AcG w1 base F b p f := by
  obtain ⟨h1, h2, m, h3, h4, h5, h6, h8⟩ := h
  have hm := k.block m (h2 m h4).2 (hg m h4)
  exact ⟨h1, fun j hj => ⟨(h2 j hj).1, Nat.lt_of_lt_of_le (h2 j hj).2 k.size⟩, m, k.blk h3 (hg b h1), h4, h5, h6.move hm, fun y x hx => ⟨(h8 y x hx).1, k.own (h8 y x hx).2.1 (fun j hj => hg j ((h8 y x hx).2.2.1 j hj).1), (h8 y x hx).2.2⟩⟩
theorem AcG.below (h : AcG w base F b p f) (hB : Below w.heap.size w w1) : AcG w1 base F b p f := h.keep (Keep.of_below hB (fun _ => False)) (fun _ _ h => h)
theorem AcG.promise (h : AcG w base F b p f) (n : Int) : AcG (w.setCell ⟨b, 0, none⟩ (.int .i64 n)) base F b n f := by
  obtain ⟨h1, h2, m, h3, h4, h5, h6, h8⟩ := h
  have hm : (w.setCell ⟨b, 0, none⟩ (.int .i64 n)).heap[m]? = w.heap[m]? := Below.heap_setCell w ⟨b, 0, none⟩ _ m h5
  have hk : Keep (fun k => k = b) w (w.setCell ⟨b, 0, none⟩ (.int .i64 n)) := (Keep.refl _ w).setCell _ _ (.inl rfl)
  exact ⟨h1, fun j hj => ⟨(h2 j hj).1, Nat.lt_of_lt_of_le (h2 j hj).2 hk.size⟩, m, blk_set h3 0 _, h4, h5, h6.move hm, fun y x hx => ⟨(h8 y x hx).1, hk.own (h8 y x hx).2.1 (fun j hj e => ((h8 y x hx).2.2.1 j hj).2.2 e), (h8 y x hx).2.2⟩⟩
theorem AcT.to (h : AcT base b p f w F w') (hB : Below w'.heap.size w' w1) : AcT base b p f w F w1 := by
  obtain ⟨F', h1, h2, h3⟩ := h
  exact ⟨F', h1.below hB, h2, h3.trans (Keep.of_below hB (fun _ => False)) (fun _ h => h.elim)⟩
theorem AcG.cell (h : AcG w base F b p f) : w.cell? ⟨b, 0, none⟩ = some (.int .i64 p) := by
  obtain ⟨_, _, m, h3, _⟩ := h
  exact blk_cell h3 0
theorem AcG.of_at (h : AccAt w base F b p none) : AcG w base F b p (fun _ => none) := by
  obtain ⟨h1, h2, m, h3, h4, h5, h6, _, _⟩ := h
  exact ⟨h1, h2, m, h3, h4, h5, h6, fun y x hx => by cases hx⟩
end
/-- A vote set in the map. -/
theorem AcG.update {W w : World} {base b : Nat} {F G : Nat → Prop} {p : Int} {o : Int → Option Vh} (h : AcG W base F b p o) (x : Vh) {bw : Nat} (hx : W.ownsRow bw 3 1 (.slice x.A x.mem.length x.cap) x.mem.length (nums .i64 x.mem)) (hn : x.mem.length ≤ 1000000) (hbw : w.heap.size ≤ bw) (hb : base ≤ w.heap.size) (hF : ∀ k, F k → G k ∨ w.heap.size ≤ k) (hK : Keep G w W) (hFb : ∀ k, F k → k < bw) {m : Nat} (hm : W.cell? ⟨b, 1, none⟩ = some (.map (some m))) :
    ∃ W1, (Instr.mapUpdate 64 (.map (some m)) (.int .i64 x.s) (encVh x)).run Tryd.prog W = .ok () W1 ∧ AcT base b p (updI o x.s x) w G W1 ∧ (∀ a u, W.cell? a = some u → W1.cell? a = some u) := by
  obtain ⟨h1, h2, m', h3, h4, h5, h6, h8⟩ := h
  obtain rfl : m = m' := by
    have e := blk_cell h3 1
    rw [hm] at e
    simpa using e
  obtain ⟨W1, hr, hM, hk, hs⟩ := h6.update (P := Tryd.prog) Tryd.underlying64 Tryd.underlying3 x.s x
  have hown : ∀ k, (Value.slice x.A x.mem.length x.cap).ownBlock = some k → k ≠ m := fun k hk' e => by
    have := own_base hx k hk'
    have := hFb m h4
    omega
  refine ⟨W1, hr, ⟨fun k => F k ∨ (Value.slice x.A x.mem.length x.cap).ownBlock = some k, ⟨.inl h1, fun k hk' => ?_, m, hk.blk h3 (fun e => h5 e.symm), .inl h4, h5, hM, fun z y hy => ?_⟩, fun k hk' => ?_, hK.trans (hk.mono (G := F) (fun k e _ => e ▸ h4)) hF⟩, fun a u hu => hk.cell hu (fun e => ?_)⟩
  · rcases hk' with hk' | hk'
    · exact ⟨(h2 k hk').1, by rw [hs]; exact (h2 k hk').2⟩
    · exact ⟨Nat.le_trans hb (Nat.le_trans hbw (own_base hx k hk')), by rw [hs]; exact own_lt hx k hk'⟩
  · have hy' : (if z = x.s then some x else o z) = some y := hy
    by_cases e : z = x.s
    · rw [if_pos e] at hy'
      injection hy' with hy'
      subst hy'
      refine ⟨e.symm, own_less (hk.own hx (fun k hk' e => hown k hk' e)) (Nat.le_trans hb hbw), fun k hk' => ⟨.inr hk', hown k hk', fun e => ?_⟩, hn⟩
      have := own_base hx k hk'
      have := hFb b h1
      omega
    · rw [if_neg e] at hy'
      obtain ⟨g1, g2, g3, g4⟩ := h8 z y hy'
      exact ⟨g1, hk.own g2 (fun k hk' e => (g3 k hk').2.1 e), fun k hk' => ⟨.inl (g3 k hk').1, (g3 k hk').2⟩, g4⟩
  · rcases hk' with hk' | hk'
    · exact hF k hk'
    · exact .inr (Nat.le_trans hbw (own_base hx k hk'))
  · obtain ⟨es, c, hes, _⟩ := h6
    have h9 := vcell_map (a := a) (w := W) (by rw [e]; exact hes)
    rw [hu] at h9
    cases h9
set_option maxRecDepth 100000 in
set_option maxHeartbeats 2000000 in
theorem accept_g (x : Vh) (b : Nat) (p : Int) (o : Int → Option Vh) (base : Nat) (F : Nat → Prop) (w : World) (h : AcG w base F b p o) (hb : base ≤ w.heap.size) (hs1 : 1 ≤ x.s) (hs2 : x.s ≤ 64) (hp1 : 1 ≤ x.b) (hp2 : p ≤ x.b) (hr : ReadsInt w .i64 x.A x.mem.length x.mem) (hn : x.mem.length ≤ 1000000) (hoff : 0 < x.mem.length → ∀ a, x.A = some a → ¬ F a.block) :
    Calls Tryd.prog 12 #[.pointer (some ⟨b, 0, none⟩), .int .i64 x.b, .int .i64 x.s, .agg #[.int .i64 x.kd, .int .i64 x.c, .int .i64 x.q, .string x.data, .slice x.A x.mem.length x.cap, .int .i64 x.dst]] w fun r w' => r = .returned (.int .i64 0) ∧ ∃ A1 c1, AcT base b x.b (updI o x.s { x with A := A1, cap := c1 }) w F w' := by
  have hs3 : ¬ x.s < 1 := by omega
  have hs4 : ¬ 64 < x.s := by omega
  have hbl := (h.2.1 b h.1).2
  obtain ⟨m, hm⟩ : ∃ m, w.cell? ⟨b, 1, none⟩ = some (.map (some m)) := by
    obtain ⟨_, _, m, h3, _⟩ := h
    exact ⟨m, blk_cell h3 1⟩
  obtain ⟨g7, hg7⟩ : ∃ g7, g7 = w.heap.size := ⟨_, rfl⟩
  obtain ⟨W1, hW1⟩ : ∃ z, w.alloc (.cells #[.int .i64 x.kd, .int .i64 x.c, .int .i64 x.q, .string x.data, .slice x.A x.mem.length x.cap, .int .i64 x.dst] 29) = z := ⟨_, rfl⟩
  have hB1 : Below w.heap.size w W1 := by rw [← hW1]; exact (Below.refl _ w).alloc (Nat.le_refl _) _
  have hb7 : W1.heap[g7]? = some (.cells #[.int .i64 x.kd, .int .i64 x.c, .int .i64 x.q, .string x.data, .slice x.A x.mem.length x.cap, .int .i64 x.dst] 29 (0, 0)) := by rw [← hW1, hg7]; exact heap_alloc_new w _
  obtain ⟨W2, hW2⟩ : ∃ z, W1.setCell ⟨b, 0, none⟩ (.int .i64 x.b) = z := ⟨_, rfl⟩
  have hA1 := h.below hB1
  have hK12 : Keep (fun k => k = b) W1 W2 := by rw [← hW2]; exact (Keep.refl _ W1).setCell _ _ (.inl rfl)
  have HA2 := Lib.hid (show AcG W2 base F b x.b o from by rw [← hW2]; exact hA1.promise x.b)
  have h7b : g7 ≠ b := by omega
  have hb72 := hK12.blk hb7 h7b
  have q0 : W2.cell? ⟨g7, 0, none⟩ = some (.int .i64 x.kd) := blk_cell hb72 0
  have q1 : W2.cell? ⟨g7, 1, none⟩ = some (.int .i64 x.c) := blk_cell hb72 1
  have q2 : W2.cell? ⟨g7, 2, none⟩ = some (.int .i64 x.q) := blk_cell hb72 2
  have q3 : W2.cell? ⟨g7, 3, none⟩ = some (.string x.data) := blk_cell hb72 3
  have q4 : W2.cell? ⟨g7, 4, none⟩ = some (.slice x.A x.mem.length x.cap) := blk_cell hb72 4
  have q5 : W2.cell? ⟨g7, 5, none⟩ = some (.int .i64 x.dst) := blk_cell hb72 5
  have qm : W2.cell? ⟨b, 1, none⟩ = some (.map (some m)) := by
    obtain ⟨_, _, m', h3, _⟩ := hA1
    have e := blk_cell h3 1
    rw [pw_cell_below hB1 hm] at e
    have h4 := blk_set h3 0 (.int .i64 x.b)
    rw [hW2] at h4
    have e2 := blk_cell h4 1
    rw [e2]
    simpa using e.symm
  have HK2 := Lib.hid (show Keep F w W2 from (Keep.of_below hB1 F).trans (hK12.mono (G := F) (fun k e _ => e ▸ h.1)) (fun k hk => .inl hk))
  have HR2 := Lib.hid (show ReadsInt W2 .i64 x.A x.mem.length x.mem from vreads_keep (hr.below hB1) hK12 (fun hp a ha e => hoff hp a ha (e ▸ h.1)))
  have HPR : RowKit.Hid (Calls Tryd.prog 24 #[.pointer (some ⟨b, 0, none⟩), .int .i64 x.b] W1 fun r w' => r = .returned .nilIface ∧ w' = W2) := by
    obtain ⟨_, _, m', h3, _⟩ := hA1
    rw [← hW2]
    exact promise_ok b 0 x.b p _ W1 h3 hp1 hp2
  have HSZ := Lib.hid (show w.heap.size ≤ W2.drew.heap.size from by have h1 := hB1.size; have h2 := hK12.size; exact Nat.le_trans h1 h2)
  have HN := Lib.hid hn
  have HBW := Lib.hid hb
  have HLT := Lib.hid (fun k (hk : F k) => (h.2.1 k hk).2)
  have HG7 := Lib.hid hg7
  have HB1 := Lib.hid hB1
  have HWW := Lib.hid hW2
  rw [← hg7] at hbl
  clear h hr hn hm hA1 hK12 hb7 hb72 h7b hB1 hg7 hW2
  go_enter Tryd.func12, Tryd.ntmps12
  go_wp2_with (go_at_call 24; refine HPR.out.mono ?_; rintro r W2' ⟨rfl, hw⟩; have hw' := hw.symm; subst hw')
  rw [← HG7.out]
  clear hW1
  refine wp_region_noPanic ?_
  refine wp_region_held_drew (S := (fun w' => w'.cell? ⟨b, 1, none⟩ = some (.map (some m)) ∧ w'.cell? ⟨g7, 0, none⟩ = some (.int .i64 x.kd) ∧ w'.cell? ⟨g7, 1, none⟩ = some (.int .i64 x.c) ∧ w'.cell? ⟨g7, 2, none⟩ = some (.int .i64 x.q) ∧ w'.cell? ⟨g7, 3, none⟩ = some (.string x.data) ∧ w'.cell? ⟨g7, 4, none⟩ = some (.slice x.A x.mem.length x.cap) ∧ w'.cell? ⟨g7, 5, none⟩ = some (.int .i64 x.dst))) (by kernel_rfl) ?acs0 (fun hHeld0 => ?acr0)
  case acs0 => (try dsimp only) <;> exact ⟨qm, q0, q1, q2, q3, q4, q5⟩
  refine wpAnyH_take (i := 0) (v := ?vac1) (by simp only [List.getElem?_toArray, List.getElem?_cons_zero, List.getElem?_cons_succ]; rfl) (by kernel_rfl) (by kernel_rfl) (by kernel_rfl) (fun _ _ _ h => h) (Or.inl ⟨by rfl, ?hac1⟩) hHeld0 ?qac1
  case hac1 => (intro w hSw; (try dsimp only at hSw); go_simp <;> with_reducible rfl)
  try simp only [Act.put, List.setIfInBounds_toArray, List.set_cons_zero, List.set_cons_succ]
  refine wpAnyH_take (i := 1) (v := ?vac2) (by simp only [List.getElem?_toArray, List.getElem?_cons_zero, List.getElem?_cons_succ]; rfl) (by kernel_rfl) (by kernel_rfl) (by kernel_rfl) (fun _ _ _ h => h) (Or.inl ⟨by rfl, ?hac2⟩) hHeld0 ?qac2
  case hac2 => (intro w hSw; (try dsimp only at hSw); go_simp <;> with_reducible rfl)
  try simp only [Act.put, List.setIfInBounds_toArray, List.set_cons_zero, List.set_cons_succ]
  refine wpAnyH_take (i := 2) (v := ?vac3) (by simp only [List.getElem?_toArray, List.getElem?_cons_zero, List.getElem?_cons_succ]; rfl) (by kernel_rfl) (by kernel_rfl) (by kernel_rfl) (fun _ _ _ h => h) (Or.inl ⟨by rfl, ?hac3⟩) hHeld0 ?qac3
  case hac3 => (intro w hSw; (try dsimp only at hSw); go_simp <;> with_reducible rfl)
  try simp only [Act.put, List.setIfInBounds_toArray, List.set_cons_zero, List.set_cons_succ]
  refine wpAnyH_take (i := 3) (v := ?vac4) (by simp only [List.getElem?_toArray, List.getElem?_cons_zero, List.getElem?_cons_succ]; rfl) (by kernel_rfl) (by kernel_rfl) (by kernel_rfl) (fun _ _ _ h => h) (Or.inl ⟨by rfl, ?hac4⟩) hHeld0 ?qac4
  case hac4 => (intro w hSw; (try dsimp only at hSw); go_simp <;> with_reducible rfl)
  try simp only [Act.put, List.setIfInBounds_toArray, List.set_cons_zero, List.set_cons_succ]
  refine wpAnyH_take (i := 4) (v := ?vac5) (by simp only [List.getElem?_toArray, List.getElem?_cons_zero, List.getElem?_cons_succ]; rfl) (by kernel_rfl) (by kernel_rfl) (by kernel_rfl) (fun _ _ _ h => h) (Or.inl ⟨by rfl, ?hac5⟩) hHeld0 ?qac5
  case hac5 => (intro w hSw; (try dsimp only at hSw); go_simp <;> with_reducible rfl)
  try simp only [Act.put, List.setIfInBounds_toArray, List.set_cons_zero, List.set_cons_succ]
  refine wpAnyH_take (i := 5) (v := ?vac6) (by simp only [List.getElem?_toArray, List.getElem?_cons_zero, List.getElem?_cons_succ]; rfl) (by kernel_rfl) (by kernel_rfl) (by kernel_rfl) (fun _ _ _ h => h) (Or.inl ⟨by rfl, ?hac6⟩) hHeld0 ?qac6
  case hac6 => (intro w hSw; (try dsimp only at hSw); go_simp <;> with_reducible rfl)
  try simp only [Act.put, List.setIfInBounds_toArray, List.set_cons_zero, List.set_cons_succ]
  refine wpAnyH_take (i := 6) (v := ?vac7) (by simp only [List.getElem?_toArray, List.getElem?_cons_zero, List.getElem?_cons_succ]; rfl) (by kernel_rfl) (by kernel_rfl) (by kernel_rfl) (fun _ _ _ h => h) (Or.inl ⟨by rfl, ?hac7⟩) hHeld0 ?qac7
  case hac7 => (intro w hSw; (try dsimp only at hSw); go_simp <;> with_reducible rfl)
  try simp only [Act.put, List.setIfInBounds_toArray, List.set_cons_zero, List.set_cons_succ]
  refine wpAnyH_take (i := 7) (v := ?vac8) (by simp only [List.getElem?_toArray, List.getElem?_cons_zero, List.getElem?_cons_succ]; rfl) (by kernel_rfl) (by kernel_rfl) (by kernel_rfl) (fun _ _ _ h => h) (Or.inl ⟨by rfl, ?hac8⟩) hHeld0 ?qac8
  case hac8 => (intro w hSw; (try dsimp only at hSw); go_simp <;> with_reducible rfl)
  try simp only [Act.put, List.setIfInBounds_toArray, List.set_cons_zero, List.set_cons_succ]
  refine wpAnyH_take (i := 8) (v := ?vac9) (by simp only [List.getElem?_toArray, List.getElem?_cons_zero, List.getElem?_cons_succ]; rfl) (by kernel_rfl) (by kernel_rfl) (by kernel_rfl) (fun _ _ _ h => h) (Or.inl ⟨by rfl, ?hac9⟩) hHeld0 ?qac9
  case hac9 => (intro w hSw; (try dsimp only at hSw); go_simp <;> with_reducible rfl)
  try simp only [Act.put, List.setIfInBounds_toArray, List.set_cons_zero, List.set_cons_succ]
  refine wpAnyH_ready (rs := [9]) (by kernel_rfl) (by simp) ?_
  refine AllReadyH.cons (by simp only [List.getElem?_toArray, List.getElem?_cons_zero, List.getElem?_cons_succ]; rfl) (fun K hK => ?_) AllReadyH.nil
  go_simp
  go_at_call 26
  refine (twin_any x _ (HR2.out.below ((Below.refl _ W2).drew)) HN.out).mono ?_
  rintro r W3 ⟨A1, c1, rfl, hO, hB3⟩
  have HO := Lib.hid hO
  have HB3 := Lib.hid (((Below.refl _ W2).drew).trans hB3)
  clear hO hB3
  refine hK.out _ _ ?sac10 (fun hHeld1 => ?qac10)
  case sac10 => (try dsimp only) <;> exact ⟨pw_cell_below HB3.out qm, pw_cell_below HB3.out q0, pw_cell_below HB3.out q1, pw_cell_below HB3.out q2, pw_cell_below HB3.out q3, pw_cell_below HB3.out q4, pw_cell_below HB3.out q5⟩
  clear hK K
  try simp only [Act.put, List.setIfInBounds_toArray, List.set_cons_zero, List.set_cons_succ]
  refine wpAnyH_ready (rs := [10]) (by kernel_rfl) (by simp) ?_
  refine AllReadyH.cons (by simp only [List.getElem?_toArray, List.getElem?_cons_zero, List.getElem?_cons_succ]; rfl) (fun K hK => ?_) AllReadyH.nil
  obtain ⟨x', hx'⟩ : ∃ x' : Vh, x' = { x with A := A1, cap := c1 } := ⟨_, rfl⟩
  obtain ⟨W4, hrun, hTo, hcl⟩ := (HA2.out.below HB3.out).update (w := w) (G := F) x' (by rw [hx']; exact HO.out) (by rw [hx']; exact HN.out) HSZ.out HBW.out (fun k hk => .inl hk) (HK2.out.trans (Keep.of_below HB3.out (fun _ => False)) (fun _ h => h.elim)) (fun k hk => Nat.lt_of_lt_of_le (HLT.out k hk) HSZ.out) hHeld1.1
  have hrun' : (Instr.mapUpdate 64 (.map (some m)) (.int .i64 x.s) (.agg #[.int .i64 x.s, .int .i64 x.b, .int .i64 x.kd, .int .i64 x.c, .int .i64 x.q, .string x.data, .slice A1 x.mem.length c1, .int .i64 x.dst])).run Tryd.prog W3 = .ok () W4 := by rw [hx'] at hrun; exact hrun
  have HTO := Lib.hid hTo
  clear hrun hTo
  go_simp
  refine hK.out _ _ ?sac11 (fun hHeld2 => ?qac11)
  case sac11 => (try dsimp only) <;> exact ⟨hcl _ _ hHeld1.1, hcl _ _ hHeld1.2.1, hcl _ _ hHeld1.2.2.1, hcl _ _ hHeld1.2.2.2.1, hcl _ _ hHeld1.2.2.2.2.1, hcl _ _ hHeld1.2.2.2.2.2.1, hcl _ _ hHeld1.2.2.2.2.2.2⟩
  clear hK K
  try simp only [Act.put, List.setIfInBounds_toArray, List.set_cons_zero, List.set_cons_succ]
  refine wpAnyH_done (by kernel_rfl) ?_ _
  refine NoPanic.normal ?_
  go_wp2_with fail
  go_ret
  exact ⟨rfl, A1, c1, by have h := HTO.out; rw [hx'] at h; exact h⟩
set_option maxRecDepth 100000 in
set_option maxHeartbeats 2000000 in
theorem accept_slot {a0 a1 a2 a5 : Int} {a3 : ByteArray} (b : Nat) (n sl : Int) (v : Value) (w : World) (h : sl < 1 ∨ 64 < sl) : Calls Tryd.prog 12 #[.pointer (some ⟨b, 0, none⟩), .int .i64 n, .int .i64 sl, .agg #[.int .i64 a0, .int .i64 a1, .int .i64 a2, .string a3, v, .int .i64 a5]] w fun r w' => r = .returned (.int .i64 1) ∧ Below w.heap.size w w' := by
  by_cases h1 : sl < 1
  · go_enter Tryd.func12, Tryd.ntmps12
    go_wp2
    go_ret
    exact ⟨rfl, (Below.refl _ w).alloc (Nat.le_refl _) _⟩
  · have h2 : 64 < sl := by omega
    clear h
    go_enter Tryd.func12, Tryd.ntmps12
    go_wp2
    go_ret
    exact ⟨rfl, (Below.refl _ w).alloc (Nat.le_refl _) _⟩
set_option maxRecDepth 100000 in
set_option maxHeartbeats 2000000 in
theorem promise_arg (b : Nat) (n : Int) (w : World) (h1 : n < 1) :
    Calls Tryd.prog 24 #[.pointer (some ⟨b, 0, none⟩), .int .i64 n] w fun r w' => ∃ b2, r = .returned (.iface 84 (.pointer (some ⟨b2, 0, none⟩))) ∧ w'.cell? ⟨b2, 1, none⟩ = some (.iface 33 (.int .i64 1)) ∧ Below w.heap.size w w' := by
  go_enter Tryd.func24, Tryd.ntmps24
  go_wp2_with (go_at_call 32; refine (new_any _ _ _ (by decide)).mono ?_; rintro r w1 ⟨b2, rfl, hA, hB⟩; have HA := Lib.hid (show w1.cell? ⟨b2, 1, none⟩ = some (.iface 33 (.int .i64 1)) from AtIs.err hA); have HB := Lib.hid hB; clear hA hB)
  go_ret
  exact ⟨b2, rfl, HA.out, HB.out⟩
set_option maxRecDepth 100000 in
set_option maxHeartbeats 2000000 in
theorem told_arg (b : Nat) (w : World) (hg : Laid w) (hb : w.cell? ⟨b, 1, none⟩ = some (.iface 33 (.int .i64 1))) :
    Calls Tryd.prog 25 #[.iface 84 (.pointer (some ⟨b, 0, none⟩))] w fun r w' => r = .returned (.int .i64 1) ∧ Below w.heap.size w w' := by
  go_enter Tryd.func25, Tryd.ntmps25
  go_wp2_with (first
    | (go_at_call 34; refine (kind_at_num b 1 w hg hb (by decide)).mono ?_; rintro r w1 ⟨rfl, hB1⟩; have HB1 := Lib.hid hB1; clear hB1)
    | (go_at_call 33; refine (is_at_num b 1 19 w hb).mono ?_; rintro r w1 ⟨rfl, rfl⟩; rw [show ((1 : Int) == 19) = false from rfl]))
  go_ret
  exact ⟨rfl, HB1.out⟩
set_option maxRecDepth 100000 in
set_option maxHeartbeats 2000000 in
theorem accept_arg (b : Nat) (n sl : Int) (a0 a1 a2 a5 : Int) (a3 : ByteArray) (a4 : Value) (w : World) (hg : Laid w) (h1 : n < 1) (hs1 : 1 ≤ sl) (hs2 : sl ≤ 64) : Calls Tryd.prog 12 #[.pointer (some ⟨b, 0, none⟩), .int .i64 n, .int .i64 sl, .agg #[.int .i64 a0, .int .i64 a1, .int .i64 a2, .string a3, a4, .int .i64 a5]] w fun r w' => r = .returned (.int .i64 1) ∧ Below w.heap.size w w' := by
  have hs3 : ¬ sl < 1 := by omega
  have hs4 : ¬ 64 < sl := by omega
  have HG := Lib.hid hg
  clear hg
  go_enter Tryd.func12, Tryd.ntmps12
  go_wp2_with (first
    | (go_at_call 25; refine (told_arg b1 w2 HG2.out HC.out).mono ?_; rintro r w3 ⟨rfl, hB3⟩; have HB3 := Lib.hid (HB2.out.trans (hB3.mono HB2.out.size)); clear hB3)
    | (go_at_call 24
       generalize hW : w.alloc _ = W
       have hB : Below w.heap.size w W := by rw [← hW]; exact (Below.refl _ w).alloc (Nat.le_refl _) _
       refine (promise_arg b n W h1).mono ?_
       rintro r w2 ⟨b1, rfl, hc, hB2⟩
       have HC := Lib.hid hc
       have HG2 := Lib.hid ((HG.out.below hB).below hB2)
       have HB2 := Lib.hid (hB.trans (hB2.mono hB.size))
       clear hc hB2 hB hW))
  go_ret
  exact ⟨rfl, HB3.out⟩
theorem prepare_arg (b : Nat) (n fr : Int) (w : World) (hg : Laid w) (h1 : n < 1) : Calls Tryd.prog 13 #[.pointer (some ⟨b, 0, none⟩), .int .i64 n, .int .i64 fr] w fun r w' => r = .returned (.tuple #[.slice none 0 0, .int .i64 1]) ∧ Below w.heap.size w w' := by
  have HG := Lib.hid hg
  clear hg
  go_enter Tryd.func13, Tryd.ntmps13
  go_wp2_with (first
    | (go_at_call 25; refine (told_arg b1 w2 HG2.out HC.out).mono ?_; rintro r w3 ⟨rfl, hB3⟩; have HB3 := Lib.hid (HB2.out.trans (hB3.mono HB2.out.size)); clear hB3)
    | (go_at_call 24
       generalize hW : w.alloc _ = W
       have hB : Below w.heap.size w W := by rw [← hW]; exact (Below.refl _ w).alloc (Nat.le_refl _) _
       refine (promise_arg b n W h1).mono ?_
       rintro r w2 ⟨b1, rfl, hc, hB2⟩
       have HC := Lib.hid hc
       have HG2 := Lib.hid ((HG.out.below hB).below hB2)
       have HB2 := Lib.hid (hB.trans (hB2.mono hB.size))
       clear hc hB2 hB hW))
  go_ret2
  exact ⟨rfl, HB3.out⟩
theorem prepare_old {w : World} (b : Nat) (p n fr : Int) (hc : w.cell? ⟨b, 0, none⟩ = some (.int .i64 p)) (h1 : 1 ≤ n) (h2 : n < p) : Calls Tryd.prog 13 #[.pointer (some ⟨b, 0, none⟩), .int .i64 n, .int .i64 fr] w fun r w' => r = .returned (.tuple #[.slice none 0 0, .int .i64 19]) ∧ Below w.heap.size w w' := by
  have HQ := Lib.hid hc
  clear hc
  go_enter Tryd.func13, Tryd.ntmps13
  go_wp2_with (first
    | (go_at_call 25; refine (told_stale b1 w2 HC.out).mono ?_; rintro r w3 ⟨rfl, rfl⟩)
    | (go_at_call 24
       generalize hW : w.alloc _ = W
       have hB : Below w.heap.size w W := by rw [← hW]; exact (Below.refl _ w).alloc (Nat.le_refl _) _
       refine (promise_stale b n p W (pw_cell_below hB HQ.out) h1 h2).mono ?_
       rintro r w2 ⟨b1, rfl, hc, hB2⟩
       have HC := Lib.hid hc
       have HB2 := Lib.hid (hB.trans (hB2.mono hB.size))
       clear hc hB2 hB hW))
  go_ret2
  exact ⟨rfl, HB2.out⟩
end Go.Proofs.YtgkhkcoojfjofaaDoor
