/- The row that wire reads from: what it is in memory; its functions walked. -/
import Derived.Test.YtkdlghbfplhkpaaDoorRdP
set_option linter.unusedVariables false
set_option linter.unusedSimpArgs false
namespace Go.Proofs.YtkdlghbfplhkpaaDoor
open Go.RowKit Go.Proofs.YtkdlghbfplhkpaaDoorW.PrintWords Go.Proofs.Mine

/-- A reading row at block b. -/
def RdAt (w : World) (base : Nat) (F : Nat → Prop) (b : Nat) (s : St) : Prop :=
  F b ∧ (∀ k, F k → base ≤ k ∧ k < w.heap.size) ∧ Byt s.1 ∧ ∃ A c ev, w.heap[b]? = some (.cells #[.slice A s.1.length c, ev] 70 (0, 0)) ∧ s.1.length ≤ c ∧ ReadsInt w .u8 A s.1.length s.1 ∧ (∀ a, A = some a → F a.block ∧ a.block ≠ b) ∧ ((s.2 = 0 ∧ ev = .nilIface) ∨ (s.2 ≠ 0 ∧ ∃ b2, F b2 ∧ b2 ≠ b ∧ ev = .iface 108 (.pointer (some ⟨b2, 0, none⟩)) ∧ w.cell? ⟨b2, 1, none⟩ = some (.iface 33 (.int .i64 s.2))))
def Rd' (w : World) (base : Nat) (F : Nat → Prop) (b : Nat) (s : St) (w' : World) : Prop :=
  ∃ F', RdAt w' base F' b s ∧ (∀ k, F' k → F k ∨ w.heap.size ≤ k) ∧ Keep (fun k => k = b) w w'
theorem reads_away {w w1 : World} {A : Option Addr} {n : Nat} {l : List Int} {ik : IntKind} {G : Nat → Prop} (h : ReadsInt w ik A n l) (k : Keep G w w1) (hA : ∀ a, A = some a → ¬ G a.block) : ReadsInt w1 ik A n l := by
  refine ⟨h.1, h.2.1, fun hp => ?_⟩
  obtain ⟨ad, ha, hc⟩ := h.2.2 hp
  exact ⟨ad, ha, fun i hi => k.cell (hc i hi) (by rw [add_block]; exact hA ad ha)⟩
theorem RdAt.keep {w w1 : World} {base b : Nat} {F G : Nat → Prop} {s : St} (h : RdAt w base F b s) (k : Keep G w w1) (hg : ∀ j, F j → ¬ G j) : RdAt w1 base F b s := by
  obtain ⟨h1, h2, hb, A, c, ev, h3, h4, h5, h6, h7⟩ := h
  refine ⟨h1, fun j hj => ⟨(h2 j hj).1, Nat.lt_of_lt_of_le (h2 j hj).2 k.size⟩, hb, A, c, ev, k.blk h3 (hg b h1), h4, reads_away h5 k (fun a ha => hg _ (h6 a ha).1), h6, ?_⟩
  rcases h7 with h7 | ⟨h7, b2, g1, g2, g3, g4⟩
  · exact .inl h7
  · exact .inr ⟨h7, b2, g1, g2, g3, k.cell g4 (hg b2 g1)⟩
theorem RdAt.below {w w1 : World} {base b : Nat} {F : Nat → Prop} {s : St} (h : RdAt w base F b s) (hB : Below w.heap.size w w1) : RdAt w1 base F b s := h.keep (Keep.of_below hB (fun _ => False)) (fun _ _ h => h)
theorem Rd'.refl {w : World} {base b : Nat} {F : Nat → Prop} {s : St} (h : RdAt w base F b s) : Rd' w base F b s w := ⟨F, h, fun _ h => .inl h, Keep.refl _ _⟩
theorem Rd'.after {w W w2 : World} {base b : Nat} {F F1 : Nat → Prop} {s : St} (hF1 : ∀ k, F1 k → F k ∨ w.heap.size ≤ k) (hK : Keep (fun k => k = b) w W) (h : Rd' W base F1 b s w2) : Rd' w base F b s w2 := by
  obtain ⟨F', h1, h2, h3⟩ := h
  refine ⟨F', h1, fun k hk => ?_, hK.trans h3 (fun _ h => .inl h)⟩
  rcases h2 k hk with h | h
  · exact hF1 k h
  · exact .inr (Nat.le_trans hK.size h)
theorem Rd'.then_below {w w1 w2 : World} {base b : Nat} {F : Nat → Prop} {s : St} (h : Rd' w base F b s w1) (hB : Below w1.heap.size w1 w2) : Rd' w base F b s w2 := by
  obtain ⟨F', h1, h2, h3⟩ := h
  exact ⟨F', h1.below hB, h2, h3.trans (Keep.of_below hB (fun _ => False)) (fun _ h => h.elim)⟩
theorem rd_failed {w w1 : World} {base b b2 : Nat} {F : Nat → Prop} {s : St} {e : Int} (h : RdAt w base F b s) (h0 : s.2 = 0) (hB : Below w.heap.size w w1) (he : e ≠ 0) (hc : w1.cell? ⟨b2, 1, none⟩ = some (.iface 33 (.int .i64 e))) (hb2 : w.heap.size ≤ b2) :
    Rd' w base F b (badS s e) (w1.setCell ⟨b, 1, none⟩ (.iface 108 (.pointer (some ⟨b2, 0, none⟩)))) := by
  have h' := h.below hB
  have h2w := h.2.1
  obtain ⟨h1, h2, hb, A, c, ev, h3, h4, h5, h6, h7⟩ := h'
  have hne : b2 ≠ b := by have := (h2w b h1).2; omega
  have hK : Keep (fun k => k = b) w1 (w1.setCell ⟨b, 1, none⟩ (.iface 108 (.pointer (some ⟨b2, 0, none⟩)))) := (Keep.refl _ _).setCell _ _ (.inl rfl)
  have hlt : b2 < w1.heap.size := by have := World.block_lt_of_cell? w1 ⟨b2, 1, none⟩ hc; exact this
  have hs : (badS s e).2 = e := by unfold badS orE; dsimp only; rw [if_pos h0]
  have hb0 := (h2w b h1).1
  have hb1 := (h2w b h1).2
  refine ⟨fun k => F k ∨ k = b2, ⟨.inl h1, fun k hk => ?_, hb, A, c, .iface 108 (.pointer (some ⟨b2, 0, none⟩)), blk_set h3 1 _, h4, reads_away h5 hK (fun a ha => (h6 a ha).2), fun a ha => ⟨.inl (h6 a ha).1, (h6 a ha).2⟩, .inr ⟨by rw [hs]; exact he, b2, .inr rfl, hne, rfl, by rw [hs]; exact hK.cell hc hne⟩⟩, fun k hk => ?_, (Keep.of_below hB _).trans hK (fun k e => .inl e)⟩
  · rcases hk with hk | rfl
    · exact ⟨(h2 k hk).1, by have := (h2 k hk).2; have := hK.size; omega⟩
    · exact ⟨by omega, by have := hK.size; omega⟩
  · rcases hk with hk | rfl
    · exact .inl hk
    · exact .inr hb2
set_option maxHeartbeats 1000000 in
theorem rfail_any (m : ByteArray) (e : Int) (w : World) (base b : Nat) (F : Nat → Prop) (s : St) (h : RdAt w base F b s) (he : e ≠ 0) :
    Calls Tryd.prog 39 #[.pointer (some ⟨b, 0, none⟩), .string m, .int .i64 e] w fun r w' => r = .returned (.tuple #[]) ∧ Rd' w base F b (badS s e) w' := by
  have HH := Lib.hid h
  obtain ⟨h1, h2, hb, A, c, ev, h3, h4, h5, h6, h7⟩ := h
  have hc : w.cell? ⟨b, 1, none⟩ = some ev := blk_cell h3 1
  have hf : w.frozen? ⟨b, 1, none⟩ = false := blk_frozen h3 1
  have H3 := Lib.hid h3
  clear h1 h2 h3 h4 h5 h6 hb
  rcases h7 with ⟨h0, rfl⟩ | ⟨h0, b2, _, _, rfl, _⟩
  · have H0 := Lib.hid h0
    clear h0
    go_enter Tryd.func39, Tryd.ntmps39
    go_wp2_with (go_at_call 61; refine (new_at m e w he).mono ?_; rintro r w1 ⟨b2, rfl, hcell, hb2, hB⟩; have HC := Lib.hid (rd_failed HH.out H0.out hB he hcell hb2); have hc1 := pw_cell_below hB hc; have hf1 : w1.frozen? ⟨b, 1, none⟩ = false := blk_frozen (blk_below H3.out hB) 1; clear hcell hB)
    go_end0
    exact ⟨rfl, HC.out⟩
  · have hs : badS s e = s := by unfold badS orE; rw [if_neg h0]
    rw [hs]
    clear h0 hs
    go_enter Tryd.func39, Tryd.ntmps39
    go_wp2
    go_end0
    exact ⟨rfl, Rd'.refl HH.out⟩
theorem cut_to (A : Option Addr) (L c k : Nat) (h : k ≤ c) (W : World) : (Instr.slice 24 (.slice A L c) none (some (.int .i64 (k : Int))) none).run Tryd.prog W = .ok (.slice A k c) W := by
  have h1 : ¬ ((c : Int) < (k : Int)) := by omega
  simp [Instr.slice, run_underlying Tryd.underlying24, Instr.sliceBounds, Instr.sliceBound, asIntOf, h1, h]
  intro _
  cases A <;> simp [Addr.add]
theorem cut_fr (A : Option Addr) (L c k : Nat) (h : k ≤ L) : ∀ W : World, (Instr.slice 24 (.slice A L c) (some (.int .i64 (k : Int))) none none).run Tryd.prog W = .ok (.slice (if c = k then A else A.map (·.add k)) (L - k) (c - k)) W := by
  intro W
  obtain ⟨i0, hi, hzz⟩ := Option.map_eq_some_iff.1 info5
  simp only [Prod.mk.injEq] at hzz
  have := cut_from (P := Tryd.prog) 24 5 .i64 Tryd.underlying24 hi 1 hzz.2.1 A L c (k : Int) (by omega) (by omega) W
  simpa using this
theorem take_reads {W : World} {A : Option Addr} {l : List Int} (h : ReadsInt W .u8 A l.length l) (k : Nat) (hk : k ≤ l.length) : ReadsInt W .u8 A k (l.take k) := by
  have hl : (l.take k).length = k := by rw [List.length_take]; omega
  refine ⟨hl, by have := h.2.1; omega, fun hp => ?_⟩
  obtain ⟨ad, ha, hc⟩ := h.2.2 (by omega)
  refine ⟨ad, ha, fun i hi => ?_⟩
  rw [hc i (by omega)]
  simp [List.getD_eq_getElem?_getD, List.getElem?_take, hi]
theorem addadd (a : Addr) (i j : Nat) : a.add (i + j) = (a.add i).add j := by
  unfold Addr.add
  by_cases h1 : i = 0 <;> by_cases h2 : j = 0 <;> simp [h1, h2, Nat.add_assoc]
theorem drop_reads {W : World} {A : Option Addr} {l : List Int} {c : Nat} (h : ReadsInt W .u8 A l.length l) (k : Nat) (hk : k ≤ l.length) (hc : l.length ≤ c) : ReadsInt W .u8 (if c = k then A else A.map (·.add k)) (l.drop k).length (l.drop k) := by
  refine ⟨rfl, by rw [List.length_drop]; have := h.2.1; omega, fun hp => ?_⟩
  rw [List.length_drop] at hp
  obtain ⟨ad, rfl, hc2⟩ := h.2.2 (by omega)
  rw [if_neg (by omega)]
  refine ⟨ad.add k, rfl, fun i hi => ?_⟩
  rw [List.length_drop] at hi
  rw [← addadd, hc2 (k + i) (by omega)]
  simp [List.getD_eq_getElem?_getD]
theorem by_reads {W : World} {g n : Nat} (h : W.heap[g]? = some (.cells (by_C n) 5 (0, 0))) (hn : n ≤ 1000) : ReadsInt W .u8 (some ⟨g, 0, none⟩) n (List.replicate n 0) :=
  own_reads' (base := 0) (c := n) (e := 5) ⟨by simp [nums], .inr ⟨g, n, _, rfl, Nat.zero_le _, h, Nat.le_refl _, by simp only [maxLen]; omega, by rw [by_C, size_madeCells, Nat.mul_one], by rw [by_C, made_list, List.take_of_length_le (by simp [nums])]⟩⟩
theorem rd_cut {w : World} {base b : Nat} {F : Nat → Prop} {s : St} {A : Option Addr} {c n : Nat} {ev : Value} (h1 : F b) (h2 : ∀ k, F k → base ≤ k ∧ k < w.heap.size) (hb : Byt s.1) (h3 : w.heap[b]? = some (.cells #[.slice A s.1.length c, ev] 70 (0, 0))) (h4 : s.1.length ≤ c) (h5 : ReadsInt w .u8 A s.1.length s.1) (h6 : ∀ a, A = some a → F a.block ∧ a.block ≠ b) (h0 : s.2 = 0) (he : ev = .nilIface) (hn : n ≤ s.1.length) (w1 : World) (hw : w1 = w.setCell ⟨b, 0, none⟩ (.slice (if c = n then A else A.map (·.add n)) (s.1.length - n) (c - n))) :
    ReadsInt w1 .u8 A n (takeV s n) ∧ Rd' w base F b (takeS s n) w1 := by
  subst hw
  have hK : Keep (fun k => k = b) w (w.setCell ⟨b, 0, none⟩ (.slice (if c = n then A else A.map (·.add n)) (s.1.length - n) (c - n))) := (Keep.refl _ _).setCell _ _ (.inl rfl)
  have hr := reads_away h5 hK (fun a ha => (h6 a ha).2)
  rw [takeV_ok ⟨h0, hn⟩, takeS_ok ⟨h0, hn⟩]
  refine ⟨take_reads hr n hn, F, ⟨h1, fun k hk => ⟨(h2 k hk).1, Nat.lt_of_lt_of_le (h2 k hk).2 hK.size⟩, hb.drop n, if c = n then A else A.map (·.add n), c - n, ev, ?_, ?_, drop_reads hr n hn h4, ?_, .inl ⟨rfl, he⟩⟩, fun _ h => .inl h, hK⟩
  · have := blk_set h3 0 (.slice (if c = n then A else A.map (·.add n)) (s.1.length - n) (c - n))
    rw [List.length_drop]
    exact this
  · dsimp only; rw [List.length_drop]; omega
  · intro a ha
    split at ha
    · exact h6 a ha
    · cases A with
      | none => cases ha
      | some a0 =>
        injection ha with ha
        subst ha
        rw [add_block]
        exact h6 a0 rfl
set_option maxRecDepth 100000 in
set_option maxHeartbeats 2000000 in
theorem take_any (n : Nat) (w : World) (base b : Nat) (F : Nat → Prop) (s : St) (hn : n ≤ 255) (h : RdAt w base F b s) :
    Calls Tryd.prog 60 #[.pointer (some ⟨b, 0, none⟩), .int .i64 (n : Int)] w fun r w' => ∃ A c, r = .returned (.slice A n c) ∧ ReadsInt w' .u8 A n (takeV s n) ∧ Rd' w base F b (takeS s n) w' := by
  have HH := Lib.hid h
  obtain ⟨h1, h2, hb, A, c, ev, h3, h4, h5, h6, h7⟩ := h
  have c0 : w.cell? ⟨b, 0, none⟩ = some (.slice A s.1.length c) := blk_cell h3 0
  have c1 : w.cell? ⟨b, 1, none⟩ = some ev := blk_cell h3 1
  have f0 : w.frozen? ⟨b, 0, none⟩ = false := blk_frozen h3 0
  have mkN := mk_by (n : Int) n rfl (by omega)
  have hsl := h5.2.1
  by_cases hok : s.2 = 0 ∧ n ≤ s.1.length
  · rcases h7 with ⟨_, rfl⟩ | ⟨h0, _⟩
    · obtain ⟨A2, hA2⟩ : ∃ z, z = if c = n then A else A.map (·.add n) := ⟨_, rfl⟩
      obtain ⟨L2, hL2⟩ : ∃ z, z = s.1.length - n := ⟨_, rfl⟩
      obtain ⟨c2, hc2⟩ : ∃ z, z = c - n := ⟨_, rfl⟩
      have hct := cut_to A s.1.length c n (by omega)
      have hcf := cut_fr A s.1.length c n hok.2
      rw [← hA2, ← hL2, ← hc2] at hcf
      have HC := Lib.hid (fun w1 hw => rd_cut (n := n) h1 h2 hb h3 h4 h5 h6 hok.1 rfl hok.2 w1 hw)
      rw [← hA2, ← hL2, ← hc2] at HC
      have hlen : (n : Int) ≤ (s.1.length : Int) := by omega
      have hlenn : ¬ (s.1.length < n) := by omega
      clear h1 h2 hb h3 h4 h5 h6 hA2 hL2 hc2 HH hok
      generalize s.1.length = L at *
      go_enter Tryd.func60, Tryd.ntmps60
      go_wp2
      go_ret
      exact ⟨_, _, rfl, HC.out _ rfl⟩
    · exact absurd hok.1 h0
  · rw [takeV_no hok, takeS_no hok]
    have HF := Lib.hid (fun m => rfail_any m 8 w base b F s HH.out (by decide))
    have hb0 := h2 b h1
    clear h1 h2 hb h3 h4 h5 h6 f0
    have hlb : ¬ s.2 = 0 ∨ s.1.length < n := by
      by_cases e : s.2 = 0
      · exact .inr (by have : ¬ n ≤ s.1.length := fun h => hok ⟨e, h⟩; omega)
      · exact .inl e
    clear hok
    rcases h7 with ⟨h0, rfl⟩ | ⟨h0, b2, _, _, rfl, _⟩
    · have hlt : s.1.length < n := hlb.resolve_left (fun h => h h0)
      have hlt2 : (s.1.length : Int) < (n : Int) := by omega
      clear hlb
      generalize s.1.length = L at *
      go_enter Tryd.func60, Tryd.ntmps60
      go_wp2_with (go_at_call 39; refine (HF.out _).mono ?_; rintro r w1 ⟨rfl, hR⟩; have HR := Lib.hid hR; clear hR)
      go_ret
      exact ⟨_, _, rfl, by_reads (heap_alloc_new _ _) (by omega), HR.out.then_below ((Below.refl _ _).alloc (Nat.le_refl _) _)⟩
    · clear hlb
      generalize s.1.length = L at *
      go_enter Tryd.func60, Tryd.ntmps60
      go_wp2_with (go_at_call 39; refine (HF.out _).mono ?_; rintro r w1 ⟨rfl, hR⟩; have HR := Lib.hid hR; clear hR)
      go_ret
      exact ⟨_, _, rfl, by_reads (heap_alloc_new _ _) (by omega), HR.out.then_below ((Below.refl _ _).alloc (Nat.le_refl _) _)⟩
set_option maxRecDepth 100000 in
set_option maxHeartbeats 2000000 in
theorem one_any (w : World) (base b : Nat) (F : Nat → Prop) (s : St) (h : RdAt w base F b s) :
    Calls Tryd.prog 38 #[.pointer (some ⟨b, 0, none⟩)] w fun r w' => r = .returned (.int .i64 (oneV s)) ∧ Rd' w base F b (oneS s) w' := by
  have hv := oneV_byte h.2.2.1
  obtain ⟨y, hy⟩ : ∃ y, y = oneV s := ⟨_, rfl⟩
  have hy0 : 0 ≤ y := by omega
  have hy1 : y < 256 := by omega
  have HY := Lib.hid hy
  have HH := Lib.hid h
  clear hv h
  rw [← hy]
  clear hy
  go_enter Tryd.func38, Tryd.ntmps38
  go_wp2_with (go_at_call 60
               refine (take_any 1 w base b F s (by decide) HH.out).mono ?_
               rintro r w1 ⟨A, c, rfl, hr, hR⟩
               obtain ⟨ad, rfl, hc⟩ := hr.2.2 (by decide)
               have hc1 : w1.cell? ad = some (.int .u8 y) := by
                 have := hc 0 (by decide)
                 rw [HY.out]
                 simpa [Addr.add, oneV] using this
               have HR := Lib.hid hR
               clear hr hR hc)
  go_ret
  exact ⟨rfl, HR.out⟩
theorem val_step {l : List Int} (h : Byt l) (h8 : l.length = 8) {k : Nat} (hk : k < 8) : bits .or .u64 (val (l.take k) * 256) (l.getD k 0) = val (l.take (k + 1)) ∧ 0 ≤ val (l.take k) ∧ val (l.take k) < 72057594037927936 := by
  have hx : l[k]? = some (l.getD k 0) := by simp [List.getD_eq_getElem?_getD, List.getElem?_eq_getElem (show k < l.length by omega)]
  have hb := h (l.getD k 0) (List.mem_of_getElem? hx)
  have hs := val_small (h.take k) (by rw [List.length_take]; omega)
  refine ⟨?_, hs⟩
  rw [or_byte _ _ hs.1 hs.2 hb.1 hb.2, ← val_snoc, take_get hx]
set_option maxRecDepth 100000 in
set_option maxHeartbeats 2000000 in
theorem number_any (w : World) (base b : Nat) (F : Nat → Prop) (s : St) (h : RdAt w base F b s) :
    Calls Tryd.prog 36 #[.pointer (some ⟨b, 0, none⟩)] w fun r w' => r = .returned (.int .i64 (numV s)) ∧ Rd' w base F b (numS s) w' := by
  have HB := Lib.hid (bytes_takeV h.2.2.1 8)
  have HH := Lib.hid h
  obtain ⟨l, hl⟩ : ∃ l, l = takeV s 8 := ⟨_, rfl⟩
  have h8 : l.length = 8 := by rw [hl]; exact takeV_length s 8
  have hv : numV s = IntKind.i64.wrap (val l) := by rw [hl]; rfl
  rw [hv]
  rw [← hl] at HB
  have HL := Lib.hid hl
  clear h hl hv
  go_enter Tryd.func36, Tryd.ntmps36
  go_wp2_with (go_at_call 60
               refine (take_any 8 w base b F s (by decide) HH.out).mono ?_
               rintro r w1 ⟨A, c, rfl, hr, hR⟩
               rw [← HL.out] at hr
               obtain ⟨ad, rfl, hc⟩ := hr.2.2 (by decide)
               have HC := Lib.hid hc
               have HR := Lib.hid hR
               clear hr hR hc)
  go_loopw [3, 5, 9] (fun nv _ iv wr => ∃ k : Nat, k ≤ 8 ∧ iv = .int .i64 (k : Int) ∧ nv = .int .u64 (val (l.take k)) ∧ w1 = wr) (fun _ _ iv _ => 8 - (intOf iv).toNat)
  case atStart => exact ⟨0, by decide, rfl, rfl, rfl⟩
  case round =>
    obtain ⟨k, hk, rfl, rfl, rfl⟩ := hrel
    by_cases hlt : k < 8
    · have hcx : w1.cell? (ad.add k) = some (.int .u8 (l.getD k 0)) := HC.out k hlt
      obtain ⟨e1, e2, e3⟩ := val_step HB.out h8 hlt
      have hbx : 0 ≤ l.getD k 0 ∧ l.getD k 0 < 256 := HB.out _ (List.mem_of_getElem? (i := k) (by simp [List.getD_eq_getElem?_getD, List.getElem?_eq_getElem (show k < l.length by omega)]))
      have hx0 := hbx.1
      have hx1 := hbx.2
      generalize hn1 : val (l.take (k + 1)) = n1 at *
      generalize hn0 : val (l.take k) = n0 at *
      generalize l.getD k 0 = x at *
      have HN1 := Lib.hid hn1
      clear hn1 hn0
      have hlt2 : (k : Int) < 8 := by omega
      have hk0 : (0 : Int) ≤ (k : Int) := by omega
      have hsh : Op.shift .shl .u64 n0 .u64 8 = pure (.int .u64 (n0 * 256)) := by
        have h := shift_shl_any .u64 .u64 n0 8 (by decide)
        rw [h]
        have : IntKind.u64.wrap (n0 * 2 ^ min (8 : Int).toNat IntKind.u64.bits) = n0 * 256 := by
          rw [show min (8 : Int).toNat IntKind.u64.bits = 8 from rfl, IntKind.wrap_u64]; omega
        rw [this]
      clear hbx
      go_wp2
      exact ⟨⟨k + 1, by omega, by simp, by rw [HN1.out], by first | rfl | trivial⟩, by simp [intOf]; omega⟩
    · obtain rfl : k = 8 := by omega
      rw [show l.take 8 = l from List.take_of_length_le (by omega)]
      generalize hn0 : val l = n0 at *
      have HN0 := Lib.hid hn0
      clear hn0
      go_wp2
      go_ret
      exact ⟨by rw [HN0.out, IntWalk.i64_left]; rfl, HR.out⟩
set_option maxRecDepth 100000 in
set_option maxHeartbeats 2000000 in
theorem count_any (most : Int) (w : World) (base b : Nat) (F : Nat → Prop) (s : St) (h : RdAt w base F b s) :
    Calls Tryd.prog 41 #[.pointer (some ⟨b, 0, none⟩), .int .i64 most] w fun r w' => r = .returned (.int .i64 (countV s most)) ∧ Rd' w base F b (countS s most) w' := by
  have HH := Lib.hid h
  obtain ⟨y, hy⟩ : ∃ y, y = oneV s := ⟨_, rfl⟩
  have HY := Lib.hid hy
  unfold countV countS
  rw [← hy]
  clear hy h
  by_cases hm : most < y
  · rw [if_pos hm, if_pos hm]
    go_enter Tryd.func41, Tryd.ntmps41
    go_wp2_with (first
      | (go_at_call 38; refine (one_any w base b F s HH.out).mono ?_; rintro r w1 ⟨rfl, F1, h1, hF1, hK1⟩; rw [← HY.out]; have H1 := Lib.hid h1; clear h1)
      | (go_at_call 39; refine (rfail_any _ 4 w1 base b F1 _ H1.out (by decide)).mono ?_; rintro r w2 ⟨rfl, h2⟩; have HR := Lib.hid (Rd'.after hF1 hK1 h2); clear h2 hF1 hK1))
    go_ret
    exact ⟨rfl, HR.out⟩
  · rw [if_neg hm, if_neg hm]
    go_enter Tryd.func41, Tryd.ntmps41
    go_wp2_with (go_at_call 38; refine (one_any w base b F s HH.out).mono ?_; rintro r w1 ⟨rfl, hR⟩; rw [← HY.out]; have HR := Lib.hid hR; clear hR)
    go_ret
    exact ⟨rfl, HR.out⟩
set_option maxRecDepth 100000 in
set_option maxHeartbeats 2000000 in
theorem sort_any (f t : Int) (w : World) (base b : Nat) (F : Nat → Prop) (s : St) (h : RdAt w base F b s) :
    Calls Tryd.prog 37 #[.pointer (some ⟨b, 0, none⟩), .int .i64 f, .int .i64 t] w fun r w' => r = .returned (.int .i64 (oneV s)) ∧ Rd' w base F b (sortS s f t) w' := by
  have HH := Lib.hid h
  obtain ⟨y, hy⟩ : ∃ y, y = oneV s := ⟨_, rfl⟩
  have HY := Lib.hid hy
  unfold sortS
  rw [← hy]
  clear hy h
  by_cases hm : y < f ∨ t < y
  · rw [if_pos hm]
    by_cases hm1 : y < f
    · clear hm
      go_enter Tryd.func37, Tryd.ntmps37
      go_wp2_with (first
        | (go_at_call 38; refine (one_any w base b F s HH.out).mono ?_; rintro r w1 ⟨rfl, F1, h1, hF1, hK1⟩; rw [← HY.out]; have H1 := Lib.hid h1; clear h1)
        | (go_at_call 39; refine (rfail_any _ 3 w1 base b F1 _ H1.out (by decide)).mono ?_; rintro r w2 ⟨rfl, h2⟩; have HR := Lib.hid (Rd'.after hF1 hK1 h2); clear h2 hF1 hK1))
      go_ret
      exact ⟨rfl, HR.out⟩
    · have hm2 : t < y := hm.resolve_left hm1
      clear hm
      go_enter Tryd.func37, Tryd.ntmps37
      go_wp2_with (first
        | (go_at_call 38; refine (one_any w base b F s HH.out).mono ?_; rintro r w1 ⟨rfl, F1, h1, hF1, hK1⟩; rw [← HY.out]; have H1 := Lib.hid h1; clear h1)
        | (go_at_call 39; refine (rfail_any _ 3 w1 base b F1 _ H1.out (by decide)).mono ?_; rintro r w2 ⟨rfl, h2⟩; have HR := Lib.hid (Rd'.after hF1 hK1 h2); clear h2 hF1 hK1))
      go_ret
      exact ⟨rfl, HR.out⟩
  · rw [if_neg hm]
    have hm1 : ¬ y < f := fun h => hm (.inl h)
    have hm2 : ¬ t < y := fun h => hm (.inr h)
    clear hm
    go_enter Tryd.func37, Tryd.ntmps37
    go_wp2_with (go_at_call 38; refine (one_any w base b F s HH.out).mono ?_; rintro r w1 ⟨rfl, hR⟩; rw [← HY.out]; have HR := Lib.hid hR; clear hR)
    go_ret
    exact ⟨rfl, HR.out⟩
end Go.Proofs.YtkdlghbfplhkpaaDoor
