/- The walks of Drop, Double. -/
import Derived.Test.YtepmnkelfaiapaaDelvW
set_option linter.unusedVariables false
set_option linter.unusedSimpArgs false
namespace Go.Proofs.Ytepmnkelfaiapaa
open Go.RowKit Go.Proofs.YtepmnkelfaiapaaW.PrintWords Go.Proofs.Mine

def drops (s : NSt) (k : Int) : NSt := if (got s k).isSome then { dels s k with lost := s.lost + 1 } else s
def codeOf (s : NSt) (k : Int) : Int := if (got s k).isSome then 0 else 2
theorem got_none_dels {s : NSt} {k : Int} (h : got s k = none) : dels s k = s := by
  unfold got at h
  unfold dels
  rw [List.eraseIdx_of_length_le (List.getElem?_eq_none_iff.1 h)]
set_option maxHeartbeats 1000000 in
theorem drop_any (w : World) (base : Nat) (F : Nat → Prop) (b : Nat) (s : NSt) (k : Int) (h : NetAt w base F b s) (hl2 : s.l.length < 1000000) (h0 : 0 ≤ s.lost) (h1 : s.lost < 100000000) :
    Calls Try.prog 14 #[.pointer (some ⟨b, 0, none⟩), .int .i64 k] w fun e w' => e = .returned (.int .i64 (codeOf s k)) ∧ Net' w base F b (drops s k) w' := by
  have hd := deliver_any w base F b s k h hl2
  go_enter Try.func14, Try.ntmps14
  cases hg : got s k with
  | none =>
    have hv : gotV s k = .tuple #[.agg #[.int .i64 0, .int .i64 0, .int .i64 0, .int .i64 0, .int .i64 0, .int .i64 0, .int .i64 0, .int .i64 0, .bool false, .slice none 0 0, .slice none 0 0, .slice none 0 0, .slice none 0 0], .int .i64 2] := by unfold gotV; rw [hg]; rfl
    rw [hv, got_none_dels hg] at hd
    have hcd : codeOf s k = 2 := by unfold codeOf; rw [hg]; rfl
    have hdr : drops s k = s := by unfold drops; rw [hg]; rfl
    rw [hcd, hdr]
    go_wp2_with (go_at_call 12; refine hd.mono ?_; rintro e w' ⟨rfl, hN⟩; have HN := Lib.hid hN; clear hN)
    go_ret
    refine ⟨rfl, ?_⟩
    obtain ⟨F', a1, a2, a3⟩ := HN.out
    have hk : Keep (fun _ => False) w' (w'.alloc (.cells #[.int .i64 0, .int .i64 0, .int .i64 0, .int .i64 0, .int .i64 0, .int .i64 0, .int .i64 0, .int .i64 0, .bool false, .slice none 0 0, .slice none 0 0, .slice none 0 0, .slice none 0 0] 32)) := (Keep.refl _ _).alloc _
    exact ⟨F', a1.keep hk (fun _ _ h => h), a2, a3.alloc _⟩
  | some m =>
    have hv : gotV s k = .tuple #[.agg #[.int .i64 m.f, .int .i64 m.t, .int .i64 0, .int .i64 m.k, .int .i64 0, .int .i64 m.i, .int .i64 0, .int .i64 0, .bool false, .slice none 0 0, .slice none 0 0, .slice none 0 0, .slice none 0 0], .int .i64 0] := by unfold gotV; rw [hg]; rfl
    rw [hv] at hd
    have hcd : codeOf s k = 0 := by unfold codeOf; rw [hg]; rfl
    have hdr : drops s k = { dels s k with lost := s.lost + 1 } := by unfold drops; rw [hg]; rfl
    rw [hcd, hdr]
    have hlo : (dels s k).lost = s.lost := rfl
    generalize dels s k = d at *
    go_wp2_with (go_at_call 12; refine hd.mono ?_; rintro e w' ⟨rfl, hN⟩
                 obtain ⟨F', a1, a2, a3⟩ := hN
                 obtain ⟨n1, n2, vl, vs, n3, n4, n5, n6⟩ := id a1
                 have hc : ∀ o, (w'.alloc o).cell? ⟨b, 2, none⟩ = some (.int .i64 d.lost) := fun o => blk_cell (blk_alloc n3 o) 2
                 have hf : ∀ o, (w'.alloc o).frozen? ⟨b, 2, none⟩ = false := fun o => blk_frozen (blk_alloc n3 o) 2
                 rw [hlo] at hc
                 have A1 := Lib.hid a1; have A2 := Lib.hid a2; have A3 := Lib.hid a3
                 clear n1 n2 n3 n4 n5 n6 a1 a2 a3)
    go_ret
    refine ⟨rfl, ?_⟩
    have hk : ∀ o, Keep (fun _ => False) w' (w'.alloc o) := fun o => (Keep.refl _ _).alloc o
    exact Net'.after A2.out (A3.out.alloc _) (net_lost (A1.out.keep (hk _) (fun _ _ h => h)))
theorem below_then {w w1 w2 : World} (h : Below w.heap.size w w1) (k : Below w1.heap.size w1 w2) : Below w.heap.size w w2 :=
  ⟨k.os.trans h.os, k.tape.trans h.tape, k.output.trans h.output, Nat.le_trans h.size k.size, fun b hb => (k.block b (Nat.lt_of_lt_of_le hb h.size)).trans (h.block b hb)⟩
def dbls (s : NSt) (k : Int) : NSt := match got s k with | none => s | some m => { s with l := s.l ++ [m] }
set_option maxRecDepth 100000 in
set_option maxHeartbeats 2000000 in
theorem double_any (w : World) (base : Nat) (F : Nat → Prop) (b : Nat) (s : NSt) (k : Int) (h : NetAt w base F b s) (hl2 : s.l.length < 100000) :
    Calls Try.prog 15 #[.pointer (some ⟨b, 0, none⟩), .int .i64 k] w fun e w' => e = .returned (.int .i64 (codeOf s k)) ∧ Net' w base F b (dbls s k) w' := by
  by_cases hl : s.l.length = 0
  · have hnil : s.l = [] := List.eq_nil_of_length_eq_zero hl
    have hg : got s k = none := by unfold got; simp [hnil]
    have hdb : dbls s k = s := by unfold dbls; rw [hg]
    have hcd : codeOf s k = 2 := by unfold codeOf; rw [hg]; rfl
    rw [hdb, hcd]
    have HF : RowKit.Hid (Net' w base F b s w) := ⟨F, h, fun _ h => .inl h, Keep.refl _ _⟩
    obtain ⟨h1, h2, vl, vs, hb, hR, hS, hm⟩ := h
    obtain ⟨A, c, rfl⟩ := Kd.R_slice hR
    rw [hl] at hb
    have hc : w.cell? ⟨b, 0, none⟩ = some (.slice A 0 c) := blk_cell hb 0
    clear hb hR hS h1 h2 hm
    go_enter Try.func15, Try.ntmps15
    go_wp2
    go_ret
    exact ⟨rfl, HF.out⟩
  · obtain ⟨i, hi⟩ : ∃ i : Nat, k % (s.l.length : Int) = (i : Int) := ⟨(k % (s.l.length : Int)).toNat, by have := Int.emod_nonneg k (show (s.l.length : Int) ≠ 0 by omega); omega⟩
    have hil : i < s.l.length := by have := Int.emod_lt_of_pos k (show (0 : Int) < s.l.length by omega); omega
    have hgi : gotI s k = i := by unfold gotI; rw [hi]; simp
    obtain ⟨m, hm⟩ : ∃ m, s.l[i]? = some m := ⟨_, List.getElem?_eq_getElem hil⟩
    have hg : got s k = some m := by unfold got; rw [hgi, hm]
    have hdb : dbls s k = { s with l := s.l ++ [m] } := by unfold dbls; rw [hg]
    have hcd : codeOf s k = 0 := by unfold codeOf; rw [hg]; rfl
    rw [hdb, hcd]
    have H := Lib.hid h
    obtain ⟨n1, n2, vl, vs, n3, n4, n5, n6⟩ := h
    have hne : some b ≠ vl.ownBlock := Kd.R_ne n4 n3 (by decide)
    have N4 := Lib.hid n4
    rcases fixR_iff.1 n4 with ⟨_, hx⟩ | ⟨g, cap, cur, rfl, hgF, hbase, hh, r1, r2, r3, r4⟩
    · rw [hx] at hl; simp at hl
    have HR : RowKit.Hid (RowM w g cap s.l) := ⟨cur, hh, r1, r2, r3, r4⟩
    have N3 := Lib.hid n3
    have N5 := Lib.hid n5
    have NE := Lib.hid hne
    have hbw : base ≤ w.heap.size := Nat.le_trans (n2 b n1).1 (Nat.le_of_lt (n2 b n1).2)
    clear n3 n4 n5 hne hh r2 r3 r4
    generalize hLL : s.l.length = L at *
    have hL : (L == 0) = false := by simpa using hl
    have hc0 : w.cell? ⟨b, 0, none⟩ = some (.slice (some ⟨g, 0, none⟩) L cap) := blk_cell N3.out 0
    have hc : w.drew.cell? ⟨b, 0, none⟩ = some (.slice (some ⟨g, 0, none⟩) L cap) := blk_cell N3.out 0
    go_enter Try.func15, Try.ntmps15
    go_wp2_with fail
    go_region_law (first
      | (refine Kd.R_append_step msgK (w0 := w') base (by rfl) _ _ 27 32 _ 168 (by rfl) Try.underlying27 Try.info32 (by rfl) (by decide) (by decide) (.slice (some ⟨g, 0, none⟩) L cap) s.l m m.cells (fun k => F k ∨ w.heap.size ≤ k) (fun _ => False) (by rfl) (by rfl) (by rfl) (fun _ h => h.elim) (fun k hk => .inr (Nat.le_trans HB'.out.size hk)) (Kd.R_mono (Kd.R_below N4.out HB'.out) (fun k hk => .inl hk)) (Below.refl _ _) (Nat.le_trans hbw HB'.out.size) (by omega) ?_
         intro v1 w1 hR1 hB1 hg1 hat1
         obtain ⟨A1, c1, rfl⟩ := Kd.R_slice hR1
         have hcc : w1.cell? ⟨b, 0, none⟩ = some (.slice (some ⟨g, 0, none⟩) L cap) := grown_cell hg1 (hcell') NE.out
         have hff : w1.frozen? ⟨b, 0, none⟩ = false := blk_frozen (blk_grown (blk_below N3.out HB'.out) hg1 NE.out) 0)
      | (go_simp; go_at_call 21; refine (at_any _ base F b s k H.out.drew (by omega) (by omega)).mono ?_; rintro e w2 ⟨rfl, nq, hw2⟩
         have hc2 : w2.cell? ⟨b, 0, none⟩ = some (.slice (some ⟨g, 0, none⟩) L cap) := by rw [hw2]; exact hc
         have hR2 : RowM w2 g cap s.l := by rw [hw2]; exact HR.out
         have HB2 : RowKit.Hid (Below w.heap.size w w2) := by rw [hw2]; exact ⟨rfl, rfl, rfl, Nat.le_refl _, fun _ _ => rfl⟩
         obtain ⟨q0, q1, q2, q3, q4, q5, q6, q7, q8, q9, q10, q11, q12⟩ := hR2.get hm
         rw [hLL, hi]; clear hw2 hR2)
      | (go_simp; go_at_call 20; refine (twin_lit m _).mono ?_; rintro e w' ⟨rfl, hB⟩
         have HB' : RowKit.Hid (Below w.heap.size w w') := below_then HB2.out hB
         have hcell' := pw_cell_below HB'.out hc0
         have hcella : ∀ X, (w'.alloc X).cell? ⟨b, 0, none⟩ = some (.slice (some ⟨g, 0, none⟩) L cap) := fun X => blk_cell (blk_alloc (blk_below N3.out HB'.out) X) 0))
    all_goals
      clear q0 q1 q2 q3 q4 q5 q6 q7 q8 q9 q10 q11 q12
      have HFIN := Lib.hid (net_appended n1 n2 N3.out N5.out n6 N4.out HB'.out hR1 hg1)
      clear hR1 hg1 hB1 hat1 hcc hff hcell' hcella hB HB'
      go_wp2
      go_ret
      refine ⟨rfl, ?_⟩
      have := HFIN.out
      rw [List.length_append, List.length_singleton, hLL] at this
      exact this
end Go.Proofs.Ytepmnkelfaiapaa
