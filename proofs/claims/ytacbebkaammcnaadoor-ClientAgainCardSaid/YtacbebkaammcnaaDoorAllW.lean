/- The walk of All. -/
import Derived.Test.YtacbebkaammcnaaDoorLawC
set_option linter.unusedVariables false
set_option linter.unusedSimpArgs false
namespace Go.Proofs.YtacbebkaammcnaaDoor
open Go.RowKit Go.Proofs.YtacbebkaammcnaaDoorW.PrintWords Go.Proofs.Mine

/-- An element's six cells, as a walk spells their places. -/
def EntAt (W : World) (a : Addr) (x : Ent) : Prop :=
  ∃ A c, W.cell? a = some (.int .i64 x.kd) ∧ W.cell? ⟨a.block, a.off + 1, none⟩ = some (.int .i64 x.c) ∧ W.cell? ⟨a.block, a.off + 2, none⟩ = some (.int .i64 x.q) ∧ W.cell? ⟨a.block, a.off + 3, none⟩ = some (.string x.data) ∧ W.cell? ⟨a.block, a.off + 4, none⟩ = some (.slice A x.mem.length c) ∧ W.cell? ⟨a.block, a.off + 5, none⟩ = some (.int .i64 x.dst) ∧ x.mem.length ≤ c ∧ ReadsInt W .i64 A x.mem.length x.mem
theorem entAt_of {W : World} {A : Option Addr} {n : Nat} {l : List Ent} (h : entK.C W A n l) {i : Nat} {x : Ent} (hx : l[i]? = some x) : ∃ ad, A = some ad ∧ EntAt W (ad.add (i * 6)) x := by
  obtain ⟨hl, _⟩ := List.getElem?_eq_some_iff.1 hx
  obtain ⟨ad, hA, hc⟩ := h.2.2 (by have := h.1; omega)
  obtain ⟨cs, h2, h1, h3⟩ := hc i x hx
  obtain ⟨A', c, rfl, hlc, hr⟩ := h1
  have h4 : ∀ j u, (x.cells (.slice A' x.mem.length c))[j]? = some u → W.cell? ((ad.add (i * 6)).add j) = some u := fun j u hu => by
    rw [add_add]
    exact h3 j u hu
  refine ⟨ad, hA, A', c, by simpa [Addr.add] using h4 0 _ rfl, ?_, ?_, ?_, ?_, ?_, hlc, hr⟩
  · simpa [Addr.add] using h4 1 _ rfl
  · simpa [Addr.add] using h4 2 _ rfl
  · simpa [Addr.add] using h4 3 _ rfl
  · simpa [Addr.add] using h4 4 _ rfl
  · simpa [Addr.add] using h4 5 _ rfl
theorem EntAt.below {w w1 : World} {a : Addr} {x : Ent} (h : EntAt w a x) (hb : Below w.heap.size w w1) : EntAt w1 a x := by
  obtain ⟨A, c, h0, h1, h2, h3, h4, h5, h6, h7⟩ := h
  exact ⟨A, c, pw_cell_below hb h0, pw_cell_below hb h1, pw_cell_below hb h2, pw_cell_below hb h3, pw_cell_below hb h4, pw_cell_below hb h5, h6, h7.below hb⟩
theorem take_get {α : Type} {l : List α} {k : Nat} {x : α} (h : l[k]? = some x) : l.take (k + 1) = l.take k ++ [x] := by
  obtain ⟨hl, hx⟩ := List.getElem?_eq_some_iff.1 h
  rw [List.take_succ_eq_append_getElem hl, hx]
set_option maxRecDepth 100000 in
set_option maxHeartbeats 2000000 in
theorem all_any (w : World) (base : Nat) (F : Nat → Prop) (b : Nat) (s : TSt) (h : TableAt w base F b s) (hl : s.l.length ≤ 1000000) (hm : ∀ x ∈ s.l, x.mem.length ≤ 1000000) :
    Calls Tryd.prog 14 #[.pointer (some ⟨b, 0, none⟩)] w fun e w' => ∃ v, e = .returned v ∧ entK.R 31 w' w.heap.size (fun k => w.heap.size ≤ k) v s.l ∧ Below w.heap.size w w' := by
  obtain ⟨_, _, vl, B1, B2, hb, hR, _⟩ := h
  obtain ⟨A, c, rfl⟩ := Kd.R_slice hR
  have hc := blk_cell hb 0
  have HC := Lib.hid (Kd.R_reads' hR).2.2
  have HM := Lib.hid hm
  clear hb hR hm
  go_enter Tryd.func14, Tryd.ntmps14
  go_wp2
  go_loopw [3, 11] (fun v i wr => ∃ k : Nat, k ≤ s.l.length ∧ i = .int .i64 k ∧ entK.R 31 wr w.heap.size (fun k => w.heap.size ≤ k) v (s.l.take k) ∧ Below w.heap.size w wr) (fun _ i _ => s.l.length - (intOf i).toNat)
  case atStart => exact ⟨0, by omega, rfl, Kd.R_nil _ _ _ _ _, Below.refl _ _⟩
  case round =>
    obtain ⟨k, hk, rfl, hR, hB⟩ := hrel
    have HR := Lib.hid hR
    have HB := Lib.hid hB
    have hlen : (s.l.take k).length = k := by rw [List.length_take]; omega
    have hv : ∃ Av cv, u3 = .slice Av k cv := by
      obtain ⟨Av, cv, h⟩ := Kd.R_slice hR
      exact ⟨Av, cv, by rw [h, hlen]⟩
    obtain ⟨Av, cv, rfl⟩ := hv
    have HLEN := Lib.hid hlen
    clear hR hB hlen
    by_cases hlt : k < s.l.length
    · obtain ⟨x, hx⟩ : ∃ x, s.l[k]? = some x := ⟨_, List.getElem?_eq_getElem hlt⟩
      obtain ⟨ad, rfl, hE⟩ := entAt_of HC.out hx
      have HTK := Lib.hid (take_get hx)
      have hmx := HM.out x (List.mem_of_getElem? hx)
      obtain ⟨Ax, cx, q0, q1, q2, q3, q4, q5, q6, q7⟩ := hE.below HB.out
      have HQ := Lib.hid q7
      clear hE hx q6 q7
      generalize hea : ad.add (k * 6) = ea at *
      go_wp2_with fail
      generalize hW : wr.alloc _ = W
      have hB1 : Below wr.heap.size wr W := by rw [← hW]; exact (Below.refl _ _).alloc (Nat.le_refl _) _
      have HRX := Lib.hid (HQ.out.below hB1)
      have HRW := Lib.hid (Kd.R_below HR.out hB1)
      have HBW : RowKit.Hid (Below w.heap.size w W) := below_then HB.out HB.out.size hB1
      clear hB1 hW q0 q1 q2 q3 q4 q5 hea
      refine (twin_lit x.kd x.c x.q x.data x.mem x.dst Ax cx W HRX.out hmx).mono ?_
      rintro e w5 ⟨v, rfl, hv, hB5⟩
      have HV := Lib.hid hv
      obtain ⟨A1, c1, rfl⟩ := own_slice hv
      have HB5 : RowKit.Hid (Below w.heap.size w w5) := below_then HBW.out HBW.out.size hB5
      have HR5 := Lib.hid (Kd.R_below HRW.out hB5)
      have hsz : w.heap.size ≤ W.heap.size := HBW.out.size
      have hxl : (s.l.take k).length ≤ 1000000 := by rw [HLEN.out]; omega
      have hown : ∀ j, W.heap.size ≤ j → w.heap.size ≤ j ∧ some j ≠ (Value.slice Av k cv).ownBlock := fun j hj => ⟨by omega, fun he => by have := Kd.R_lt HRW.out j he.symm; omega⟩
      have HOWN := Lib.hid hown
      clear hv hB5 hown
      go_wp2_with (at_builtin; refine Kd.R_append entK (w0 := w) (W := w5) w.heap.size rfl _ _ 40 31 _ 72 (by rfl) Tryd.underlying40 Tryd.info31 (by rfl) (by decide) (by decide) (.slice Av k cv) (s.l.take k) x (x.cells (.slice A1 x.mem.length c1)) (fun k => w.heap.size ≤ k) (fun k => W.heap.size ≤ k) (by rfl) (by rfl) ⟨_, rfl, own_less HV.out hsz, fun j hj => own_base HV.out j hj⟩ HOWN.out (fun j hj => Nat.le_trans HB5.out.size hj) HR5.out HB5.out HB5.out.size (by omega) ?_; intro v1 w8 hR1 hB1 hg1 hat1; rw [← HTK.out] at hR1; have HRy := Lib.hid hR1; have HBy := Lib.hid hB1; clear hR1 hB1 hg1 hat1)
      refine ⟨⟨k + 1, by omega, by simp, HRy.out, HBy.out⟩, by simp [intOf]; omega⟩
    · obtain rfl : k = s.l.length := by omega
      have HF : RowKit.Hid (entK.R 31 wr w.heap.size (fun k => w.heap.size ≤ k) (.slice Av s.l.length cv) s.l) := by have := HR.out; rwa [List.take_length] at this
      go_wp2
      go_ret
      exact ⟨_, rfl, HF.out, HB.out⟩
end Go.Proofs.YtacbebkaammcnaaDoor
