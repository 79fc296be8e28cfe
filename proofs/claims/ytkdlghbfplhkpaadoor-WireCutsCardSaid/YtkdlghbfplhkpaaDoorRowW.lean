/- The row that wire writes into: what it is in memory; fail, kind, byte. -/
import Derived.Test.YtkdlghbfplhkpaaDoorProg
import Derived.Test.YtkdlghbfplhkpaaDoorFaultW
import Derived.Test.YtkdlghbfplhkpaaDoorRowF
import Derived.WalkSpells
import Derived.WalkLawsBesides
import Derived.Lib.Hide
import Derived.Deep.QuietTactic
import Derived.Deep.DeepCutAuto
import Derived.BigQuiet
set_option linter.unusedVariables false
set_option linter.unusedSimpArgs false
namespace Go.Proofs.YtkdlghbfplhkpaaDoor
open Go.RowKit Go.Proofs.YtkdlghbfplhkpaaDoorW.PrintWords Go.Proofs.Mine

/-- The error that a row keeps, by its number; 0: none. -/
def ErrIs (w : World) (F : Nat → Prop) (ev : Value) (er : Int) : Prop :=
  (er = 0 ∧ ev = .nilIface) ∨ (er ≠ 0 ∧ ∃ b2, ev = .iface 108 (.pointer (some ⟨b2, 0, none⟩)) ∧ w.cell? ⟨b2, 1, none⟩ = some (.iface 33 (.int .i64 er)) ∧ ¬ F b2)
/-- A row at block b. -/
def RowAt (w : World) (base : Nat) (F : Nat → Prop) (b : Nat) (bs : List Int) (er : Int) : Prop :=
  F b ∧ (∀ k, F k → base ≤ k ∧ k < w.heap.size) ∧ ∃ v ev, w.heap[b]? = some (.cells #[v, ev] 70 (0, 0)) ∧ w.ownsRow base 5 1 v bs.length (nums .u8 bs) ∧ (∀ k, v.ownBlock = some k → F k ∧ k ≠ b) ∧ ErrIs w F ev er
def Row' (w : World) (base : Nat) (F : Nat → Prop) (b : Nat) (bs : List Int) (er : Int) (w' : World) : Prop :=
  ∃ F', RowAt w' base F' b bs er ∧ (∀ k, F' k → F k ∨ w.heap.size ≤ k) ∧ Keep F w w'
theorem ErrIs.keep {w w1 : World} {F : Nat → Prop} {ev : Value} {er : Int} (h : ErrIs w F ev er) (k : Keep F w w1) {F1 : Nat → Prop} (hF : ∀ j, F1 j → F j ∨ w.heap.size ≤ j) : ErrIs w1 F1 ev er := by
  rcases h with h | ⟨h0, b2, h1, h2, h3⟩
  · exact .inl h
  · refine .inr ⟨h0, b2, h1, k.cell h2 h3, fun hf => ?_⟩
    rcases hF b2 hf with h | h
    · exact h3 h
    · have := World.block_lt_of_cell? w ⟨b2, 1, none⟩ h2
      simp at this; omega
theorem RowAt.below {w w1 : World} {base b : Nat} {F : Nat → Prop} {bs : List Int} {er : Int} (h : RowAt w base F b bs er) (hB : Below w.heap.size w w1) : RowAt w1 base F b bs er := by
  obtain ⟨h1, h2, v, ev, h3, h4, h5, h6⟩ := h
  exact ⟨h1, fun k hk => ⟨(h2 k hk).1, Nat.lt_of_lt_of_le (h2 k hk).2 hB.size⟩, v, ev, blk_below h3 hB, (Keep.of_below hB (fun _ => False)).own h4 (fun _ _ h => h.elim), h5, h6.keep (Keep.of_below hB F) (fun _ h => .inl h)⟩
theorem Row'.after {w W w2 : World} {base b : Nat} {F F1 : Nat → Prop} {bs : List Int} {er : Int} (hF1 : ∀ k, F1 k → F k ∨ w.heap.size ≤ k) (hK : Keep F w W) (h : Row' W base F1 b bs er w2) : Row' w base F b bs er w2 := by
  obtain ⟨F', h1, h2, h3⟩ := h
  refine ⟨F', h1, fun k hk => ?_, hK.trans h3 hF1⟩
  rcases h2 k hk with h | h
  · exact hF1 k h
  · exact .inr (Nat.le_trans hK.size h)
theorem Row'.refl {w : World} {base b : Nat} {F : Nat → Prop} {bs : List Int} {er : Int} (h : RowAt w base F b bs er) : Row' w base F b bs er w := ⟨F, h, fun _ h => .inl h, Keep.refl _ _⟩
theorem row_failed {w w1 : World} {base b b2 : Nat} {F : Nat → Prop} {bs : List Int} {e : Int} (h : RowAt w base F b bs 0) (hB : Below w.heap.size w w1) (he : e ≠ 0) (hc : w1.cell? ⟨b2, 1, none⟩ = some (.iface 33 (.int .i64 e))) (hb2 : w.heap.size ≤ b2) :
    Row' w base F b bs e (w1.setCell ⟨b, 1, none⟩ (.iface 108 (.pointer (some ⟨b2, 0, none⟩)))) := by
  have h' := h.below hB
  have h2w := h.2.1
  obtain ⟨h1, h2, v, ev, h3, h4, h5, h6⟩ := h'
  have hne : b2 ≠ b := by have := (h2w b h1).2; omega
  have hK : Keep (fun k => k = b) w1 (w1.setCell ⟨b, 1, none⟩ (.iface 108 (.pointer (some ⟨b2, 0, none⟩)))) := (Keep.refl _ _).setCell _ _ (.inl rfl)
  refine ⟨F, ⟨h1, fun k hk => ⟨(h2 k hk).1, by have := (h2 k hk).2; have := hK.size; omega⟩, v, .iface 108 (.pointer (some ⟨b2, 0, none⟩)), blk_set h3 1 _, hK.own h4 (fun k hk e => (h5 k hk).2 e), h5, .inr ⟨he, b2, rfl, hK.cell hc (fun e => hne e), fun hf => ?_⟩⟩, fun _ h => .inl h, (Keep.of_below hB F).trans hK (fun k e => .inl (by subst e; exact h1))⟩
  have := (h2w b2 hf).2
  omega
theorem row_grown {w w1 : World} {base b : Nat} {F : Nat → Prop} {ys : List Int} {er : Int} {v ev v1 : Value} (h1 : F b) (h2 : ∀ k, F k → base ≤ k ∧ k < w.heap.size) (h3 : w.heap[b]? = some (.cells #[v, ev] 70 (0, 0)))
    (h5 : ∀ k, v.ownBlock = some k → F k ∧ k ≠ b) (h6 : ErrIs w F ev er) (hown : w1.ownsRow base 5 1 v1 ys.length (nums .u8 ys)) (hg : w.grownBy w1 v.ownBlock) (hat : v1.ownBlock = v.ownBlock ∨ ∃ b, v1.ownBlock = some b ∧ w.heap.size ≤ b) :
    Row' w base F b ys er (w1.setCell ⟨b, 0, none⟩ v1) := by
  have hKg : Keep F w w1 := Keep.of_grown hg (fun k hk => (h5 k hk).1)
  have hne : some b ≠ v.ownBlock := fun e => (h5 b e.symm).2 rfl
  have hb1 : w1.heap[b]? = some (.cells #[v, ev] 70 (0, 0)) := blk_grown h3 hg hne
  have hK : Keep (fun k => k = b) w1 (w1.setCell ⟨b, 0, none⟩ v1) := (Keep.refl _ _).setCell _ _ (.inl rfl)
  have hblt := (h2 b h1).2
  have hv1 : ∀ k, v1.ownBlock = some k → (F k ∨ w.heap.size ≤ k) ∧ k ≠ b ∧ k < w1.heap.size ∧ base ≤ k := by
    intro k hk
    have hlt := hown.lt k hk
    rcases hat with e | ⟨b', e, hb'⟩
    · rw [e] at hk
      exact ⟨.inl (h5 k hk).1, (h5 k hk).2, hlt.2, hlt.1⟩
    · rw [e] at hk
      injection hk with hk
      subst hk
      exact ⟨.inr hb', by omega, hlt.2, hlt.1⟩
  have hF' : ∀ j, (F j ∨ v1.ownBlock = some j) → F j ∨ w.heap.size ≤ j := fun j hj => hj.elim .inl fun h => (hv1 j h).1
  have hK2 : Keep F w (w1.setCell ⟨b, 0, none⟩ v1) := hKg.trans hK (fun k e => .inl (by subst e; exact h1))
  refine ⟨fun k => F k ∨ v1.ownBlock = some k, ⟨.inl h1, fun k hk => ?_, v1, ev, blk_set hb1 0 _, hK.own hown (fun k hk e => (hv1 k hk).2.1 e), fun k hk => ⟨.inr hk, (hv1 k hk).2.1⟩, h6.keep hK2 hF'⟩, hF', hK2⟩
  rcases hk with hk | hk
  · exact ⟨(h2 k hk).1, Nat.lt_of_lt_of_le (h2 k hk).2 hK2.size⟩
  · exact ⟨(hv1 k hk).2.2.2, Nat.lt_of_lt_of_le (hv1 k hk).2.2.1 hK.size⟩
set_option maxHeartbeats 1000000 in
theorem new_at (s : ByteArray) (n : Int) (w : World) (hn : n ≠ 0) : Calls Tryd.prog 61 #[.string s, .int .i64 n] w fun e w' => ∃ b2, e = .returned (.iface 108 (.pointer (some ⟨b2, 0, none⟩))) ∧ w'.cell? ⟨b2, 1, none⟩ = some (.iface 33 (.int .i64 n)) ∧ w.heap.size ≤ b2 ∧ Below w.heap.size w w' := by
  have h0 : (n == 0) = false := by simp [hn]
  have HA := Lib.hid (at_new w s (.num n) hn)
  go_enter Tryd.func61, Tryd.ntmps61
  go_wp2
  go_ret
  exact ⟨_, rfl, HA.out.err, by omega, below2 w _ _⟩
set_option maxHeartbeats 1000000 in
theorem fail_any (s : ByteArray) (e : Int) (w : World) (base b : Nat) (F : Nat → Prop) (bs : List Int) (er : Int) (h : RowAt w base F b bs er) (he : e ≠ 0) :
    Calls Tryd.prog 39 #[.pointer (some ⟨b, 0, none⟩), .string s, .int .i64 e] w fun r w' => r = .returned (.tuple #[]) ∧ Row' w base F b bs (if er = 0 then e else er) w' := by
  have HH := Lib.hid h
  obtain ⟨h1, h2, v, ev, h3, h4, h5, h6⟩ := h
  have hc : w.cell? ⟨b, 1, none⟩ = some ev := blk_cell h3 1
  have hf : w.frozen? ⟨b, 1, none⟩ = false := blk_frozen h3 1
  have H3 := Lib.hid h3
  clear h1 h2 h3 h4 h5
  rcases h6 with ⟨rfl, rfl⟩ | ⟨h0, b2, rfl, _, _⟩
  · go_enter Tryd.func39, Tryd.ntmps39
    go_wp2_with (go_at_call 61; refine (new_at s e w he).mono ?_; rintro r w1 ⟨b2, rfl, hcell, hb2, hB⟩; have HC := Lib.hid (row_failed HH.out hB he hcell hb2); have hc1 := pw_cell_below hB hc; have hf1 : w1.frozen? ⟨b, 1, none⟩ = false := blk_frozen (blk_below H3.out hB) 1; clear hcell hB)
    go_end0
    exact ⟨rfl, HC.out⟩
  · rw [if_neg h0]
    go_enter Tryd.func39, Tryd.ntmps39
    go_wp2
    go_end0
    exact ⟨rfl, Row'.refl HH.out⟩
set_option maxHeartbeats 1000000 in
theorem kind_row (w : World) (base b : Nat) (F : Nat → Prop) (bs : List Int) (er : Int) (hg0 : Laid w) (h : RowAt w base F b bs er) :
    Calls Tryd.prog 59 #[.pointer (some ⟨b, 0, none⟩)] w fun r w' => r = .returned (.int .i64 er) ∧ Below w.heap.size w w' := by
  have hg := Lib.hid hg0
  clear hg0
  obtain ⟨h1, h2, v, ev, h3, h4, h5, h6⟩ := h
  have hc : w.cell? ⟨b, 1, none⟩ = some ev := blk_cell h3 1
  have hbl := (h2 b h1).2
  clear h1 h2 h3 h4 h5
  rcases h6 with ⟨rfl, rfl⟩ | ⟨h0, b2, rfl, hb, _⟩
  · go_enter Tryd.func59, Tryd.ntmps59
    go_wp2_with (go_at_call 64; refine (as_nil _ _).mono ?_; rintro e w1 ⟨rfl, rfl⟩)
    go_ret
    exact ⟨rfl, (Below.refl _ _).alloc (Nat.le_refl _) _⟩
  · go_enter Tryd.func59, Tryd.ntmps59
    go_wp2_with (go_at_call 64
                 refine (as_no_at_num b2 er w.heap.size (.int .i64 0) (w.alloc (.cells #[.int .i64 0] 33)) (hg.out.alloc _) (by simp) (by simp) (pw_cell_below ((Below.refl _ _).alloc (Nat.le_refl _) (.cells #[.int .i64 0] 33)) hb)).mono ?_
                 rintro e w1 ⟨rfl, hK, ht, hf⟩
                 have hK0 : Keep (fun _ => False) w w1 := ⟨hK.os, hK.tape, hK.output, by have := hK.size; simp at this; omega, fun k hk _ => (hK.block k (by simp; omega) (by show k ≠ w.heap.size; omega)).trans (Below.heap_alloc w _ k hk)⟩
                 have HB1 := Lib.hid (hK0.to_below (Nat.le_refl _) (fun _ h => h.elim))
                 clear hK hK0)
    go_ret
    exact ⟨rfl, HB1.out⟩
theorem info5 : (Tryd.prog.info? 5).map (fun i => (i.zero, i.size, i.bytes)) = some (some (.int .u8 0), 1, 1) := by kernel_rfl
set_option maxHeartbeats 1000000 in
theorem byte_any (n : Int) (w : World) (base b : Nat) (F : Nat → Prop) (bs : List Int) (er : Int) (h : RowAt w base F b bs er) (hl : bs.length ≤ 1000000) :
    Calls Tryd.prog 31 #[.pointer (some ⟨b, 0, none⟩), .int .i64 n] w fun r w' => r = .returned (.tuple #[]) ∧ Row' w base F b (bs ++ [n % 256]) er w' := by
  obtain ⟨h1, h2, v, ev, h3, h4, h5, h6⟩ := h
  obtain ⟨A, c, rfl⟩ := own_slice h4
  have hc : w.cell? ⟨b, 0, none⟩ = some (.slice A bs.length c) := blk_cell h3 0
  have hbase := (h2 b h1).1
  have hbl := (h2 b h1).2
  have H1 := Lib.hid h1
  have H2 := Lib.hid h2
  have H3 := Lib.hid h3
  have H4 := Lib.hid h4
  have H5 := Lib.hid h5
  have H6 := Lib.hid h6
  clear h1 h2 h3 h4 h5 h6
  go_enter Tryd.func31, Tryd.ntmps31
  have NE := Lib.hid (show some b ≠ (Value.slice A bs.length c).ownBlock from fun e => (H5.out b e.symm).2 rfl)
  have hbs : (bs.length + 1) * 1 ≤ 140737488355328 := by omega
  have hbw : base ≤ w.heap.size := by omega
  go_wp2_with (at_builtin; go_loud (refine print_append_num (w0 := w) (W := w) base rfl _ _ 24 5 .u8 1 rfl Tryd.underlying24 info5 (by decide) (.slice A bs.length c) bs (n % 256) ?a1 ?a2 ?a3 ?a4 hbw hbs ?a7)
               case a1 => rfl
               case a2 => rfl
               case a3 => exact H4.out
               case a4 => exact Below.refl _ _
               intro v1 w1 hown hB hg hat
               go_loud (have HR := Lib.hid (row_grown H1.out H2.out H3.out H5.out H6.out hown hg hat))
               go_loud (have hc1 : w1.cell? ⟨b, 0, none⟩ = some (.slice A bs.length c) := blk_cell (blk_grown H3.out hg NE.out) 0)
               go_loud (have hf1 : w1.frozen? ⟨b, 0, none⟩ = false := blk_frozen (blk_grown H3.out hg NE.out) 0)
               go_loud (obtain ⟨A1, c1, rfl⟩ := own_slice hown)
               clear hown hB hg hat)
  go_end0
  exact ⟨rfl, by simpa using HR.out⟩
end Go.Proofs.YtkdlghbfplhkpaaDoor
