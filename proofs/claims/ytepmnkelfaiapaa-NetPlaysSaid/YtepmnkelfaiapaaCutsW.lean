/- The walks of the laws' cut, and of NetCuts. -/
import Derived.Test.YtepmnkelfaiapaaCutW
import Derived.Test.YtepmnkelfaiapaaLawN
import Derived.OpenShut
set_option linter.unusedVariables false
set_option linter.unusedSimpArgs false
namespace Go.Proofs.Ytepmnkelfaiapaa
open Go.RowKit Go.Proofs.YtepmnkelfaiapaaW.PrintWords Go.Proofs.Mine

theorem sideOf_snoc_at (l : List Int) (x y : Int) : sideOf (l ++ [x]) y = (sideOf l y || x == y) := by
  rw [Bool.eq_iff_iff]
  simp only [sideOf, List.mem_append, List.mem_singleton, decide_eq_true_eq, Bool.or_eq_true, beq_iff_eq]
  exact or_congr_right ⟨Eq.symm, Eq.symm⟩
def cutLaw (side : List Int) (on : Bool) (f t : Int) : Bool := on && (sideOf side f != sideOf side t)
set_option maxHeartbeats 1000000 in
theorem cutLaw_any (A : Option Addr) (cap : Nat) (side : List Int) (on : Bool) (f t : Int) (w : World) (hr : ReadsInt w .i64 A side.length side) :
    Calls Try.prog 17 #[.slice A side.length cap, .bool on, .int .i64 f, .int .i64 t] w fun e w' => e = .returned (.bool (cutLaw side on f t)) ∧ Below w.heap.size w w' := by
  have HR := Lib.hid hr
  have hmx := hr.2.1
  clear hr
  go_enter Try.func17, Try.ntmps17
  go_wp2
  go_loopw [9, 10, 11] (fun av bv iv wr => ∃ k : Nat, k ≤ side.length ∧ av = .bool (sideOf (side.take k) f) ∧ bv = .bool (sideOf (side.take k) t) ∧ iv = .int .i64 k ∧ Below w.heap.size w wr) (fun _ _ iv _ => side.length - (intOf iv).toNat)
  case atStart => exact ⟨0, by omega, rfl, rfl, rfl, Below.refl _ _⟩
  case round =>
    obtain ⟨k, hk, rfl, rfl, rfl, hB⟩ := hrel
    by_cases hlt : k < side.length
    · obtain ⟨ad, rfl, hcell⟩ := HR.out.at_ k (by omega) (by omega)
      have hcell1 := pw_cell_below hB hcell
      rw [Int.toNat_natCast] at hcell1
      have hx : rd side k = side[k] := by simp [rd, hlt]
      have htake : side.take (k + 1) = side.take k ++ [rd side k] := by rw [List.take_succ_eq_append_getElem hlt, hx]
      generalize rd side k = x at *
      have h1 := sideOf_snoc_at (side.take k) x f
      have h2 := sideOf_snoc_at (side.take k) x t
      rw [← htake] at h1 h2
      have H1 := Lib.hid h1
      have H2 := Lib.hid h2
      have HB := Lib.hid hB
      clear hcell hx htake h1 h2 hB
      generalize ha : sideOf (side.take k) f = a at *
      generalize hb : sideOf (side.take k) t = b at *
      cases a <;> cases b <;> go_wp2
      all_goals
        refine ⟨⟨k + 1, by omega, ?_, ?_, by simp, HB.out⟩, by simp [intOf]; omega⟩
        · rw [H1.out]; simp
        · rw [H2.out]; simp
    · obtain rfl : k = side.length := by omega
      rw [List.take_length]
      have HB := Lib.hid hB
      have hcl : cutLaw side on f t = (on && (sideOf side f != sideOf side t)) := rfl
      have HCL := Lib.hid hcl
      clear hB hcl
      generalize sideOf side f = a at *
      generalize sideOf side t = b at *
      cases on <;> cases a <;> cases b <;> go_wp2 <;> go_ret <;> exact ⟨by rw [HCL.out]; rfl, HB.out⟩
theorem within_quiet (a n : Int) (w : World) (hn : 0 < n) (hn2 : n ≤ 4611686018427387904) : Calls Try.prog 8 #[.int .i64 a, .int .i64 n] w fun e w' => e = .returned (.int .i64 (a % n)) ∧ w' = w :=
  (within_any a n w hn hn2).mono fun _ _ h => ⟨h.1, h.2.symm⟩
theorem sendL_open (l ms : List Pm) (n : Int) : sendL ⟨l, none, n⟩ ms = ⟨l ++ ms, none, n⟩ := by
  induction ms generalizing l with
  | nil => simp [sendL]
  | cons m ms ih =>
    have : sendL ⟨l, none, n⟩ (m :: ms) = sendL ⟨l ++ [m], none, n⟩ ms := by
      show sendL (send1 ⟨l, none, n⟩ m) ms = _
      congr 1
    rw [this, ih, List.append_assoc, List.singleton_append]
/-- One message is sent. -/
theorem send_one {w0 w : World} {b : Nat} {F : Nat → Prop} {s : NSt} (m : Pm) (h : NetIn w0 b s w F) (h1 : s.l.length + 1 ≤ 100000) (h2 : 0 ≤ s.lost) (h3 : s.lost + 1 ≤ 1000000) :
    Calls Try.prog 10 #[.pointer (some ⟨b, 0, none⟩), .slice (some ⟨w.heap.size, 0, none⟩) 1 1] (w.alloc (.cells m.cells.toArray 32)) fun e w' => e = .returned (.tuple #[]) ∧ ∃ F', NetIn w0 b (send1 s m) w' F' := by
  have hC := lit_msgs w [m] 1 rfl (by decide) m.cells.toArray (by simp)
  refine (send_any _ w0.heap.size F b s (some ⟨w.heap.size, 0, none⟩) 1 [m] (h.alloc _).1 hC (fun ad h1 h2 => by cases h1; have := (h.1.2.1 _ h2).2; simp at this) (by simpa using h1) h2 (by simpa using h3)).mono ?_
  rintro e w' ⟨rfl, hN⟩
  obtain ⟨F', hN', _, _⟩ := (h.alloc _).step hN
  exact ⟨rfl, F', hN'⟩
theorem net_heal {W : World} {base b : Nat} {F : Nat → Prop} {s : NSt} (h : NetAt W base F b s) : Net' W base F b { s with side := none } (W.setCell ⟨b, 1, none⟩ (.map none)) := by
  obtain ⟨h1, h2, vl, vs, hb, hR, hS, hm⟩ := h
  exact ⟨F, ⟨h1, fun k hk => by have := h2 k hk; simpa [World.setCell] using this, vl, .map none, blk_set hb 1 _, Kd.R_set hR hb (by simp [msgK, Mine.Kd.fixed]) 1 _, rfl, fun k hk => by simp [Value.mapBlock] at hk⟩, fun k hk => .inl hk, (Keep.refl _ _).setCell _ _ (.inl h1)⟩
theorem heal_in {w0 w : World} {b : Nat} {F : Nat → Prop} {s : NSt} (h : NetIn w0 b s w F) :
    Calls Try.prog 18 #[.pointer (some ⟨b, 0, none⟩)] w fun e w' => e = .returned (.tuple #[]) ∧ ∃ F', NetIn w0 b ⟨s.l, none, s.lost⟩ w' F' := by
  refine (heal_any w w0.heap.size F b s h.1).mono ?_
  rintro e w' ⟨rfl, rfl⟩
  obtain ⟨F', h1, _, _⟩ := h.step (net_heal h.1)
  exact ⟨rfl, F', h1⟩
theorem cutS_law (side : List Int) (f t : Int) : cutS (some (sideOf side)) f t = cutLaw side true f t := rfl
set_option maxRecDepth 100000 in
set_option maxHeartbeats 2000000 in
theorem netCuts_any (A : Option Addr) (cap : Nat) (side : List Int) (A2 : Option Addr) (cap2 : Nat) (lp : List Int) (w : World) (hr : ReadsInt w .i64 A side.length side) (hc : side.length ≤ cap) (hy : side.length * 8 ≤ 140737488351232) (hw : ∀ x ∈ side, (Lit.int .i64 x).wf = true)
    (hr2 : ReadsInt w .i64 A2 lp.length lp) (hc2 : lp.length ≤ cap2) (hy2 : lp.length * 8 ≤ 140737488351232) (hw2 : ∀ x ∈ lp, (Lit.int .i64 x).wf = true) :
    Calls Try.prog 4 #[.slice A side.length cap, .slice A2 lp.length cap2] w fun e w' => e = .returned (.bool true) ∧ Below w.heap.size w w' := by
  have HR := Lib.hid hr
  have HR2 := Lib.hid hr2
  have HW2 := Lib.hid hw2
  have hlt : ∀ ad, A = some ad → 0 < side.length → ad.block < w.heap.size := by
    intro ad h h0
    obtain ⟨ad', h1, h2⟩ := hr.2.2 h0
    rw [h] at h1; injection h1 with h1; subst h1
    have := World.block_lt_of_cell? w _ (h2 0 h0)
    rwa [add_block] at this
  clear hr hr2 hw hw2
  by_cases hbig : side.length > 20
  · go_enter Try.func4, Try.ntmps4
    go_wp2_with (go_at_call 7; refine (known_any _).mono ?_; rintro e w1 ⟨rfl, hB⟩; have HB1 := Lib.hid hB; clear hB)
    go_ret
    exact ⟨rfl, HB1.out⟩
  · have hsl : side.length ≤ 20 := by omega
    go_enter Try.func4, Try.ntmps4
    go_wp2_with (first
      | (go_at_call 7; refine (known_any _).mono ?_; rintro e w1 ⟨rfl, hB⟩; have HB1 := Lib.hid hB; clear hB)
      | (go_at_call 9; refine (new_any _).mono ?_; rintro e w3 ⟨rfl, hw3⟩
         have N3 := Lib.hid (NetIn.new HB1.out); rw [← hw3] at N3; have hz3 := HB1.out.size; have hz4 : w1.heap.size < w3.heap.size := (by rw [hw3]; simp); clear hw3))
    generalize hb : w1.heap.size = b at *
    have hcut := netCut_any w3 w.heap.size _ b net0 A cap side N3.out.1 ((HR.out.below N3.out.2)) (fun ad h h0 hk => by have := hlt ad h h0; subst hk; omega) (by decide) (by decide) (by decide)
    have HCUT := Lib.hid hcut
    clear hcut
    go_wp2_with (go_at_call 16; refine HCUT.out.mono ?_; rintro e w4 ⟨rfl, hN4⟩; obtain ⟨F4, hN4, _, _⟩ := N3.out.step hN4; have N4 := Lib.hid hN4; clear hN4)
    go_loopw [6, 7, 8] (fun lv mv iv wr => ∃ (k : Nat) (s : NSt) (F : Nat → Prop), k ≤ lp.length ∧ k ≤ 60 ∧ iv = .int .i64 k ∧ mv = .int .i64 k ∧ lv = .int .i64 s.lost ∧ s.side = some (sideOf side) ∧ 0 ≤ s.lost ∧ (s.l.length : Int) + s.lost = k ∧ NetIn w b s wr F) (fun _ _ iv _ => 60 - (intOf iv).toNat)
    case atStart => exact ⟨0, cutL net0 side, F4, by omega, by omega, rfl, rfl, rfl, rfl, by simp [cutL, net0], by simp [cutL, net0], N4.out⟩
    case round =>
      obtain ⟨k, s, F, hk, hk60, rfl, rfl, rfl, hsd, hl0, hlk, hN⟩ := hrel
      have HN := Lib.hid hN
      clear hN
      by_cases hin : k < lp.length ∧ k < 60
      · obtain ⟨hin1, hin2⟩ := hin
        obtain ⟨ad, rfl, hcell⟩ := HR2.out.at_ k (by omega) (by omega)
        have hxw := HW2.out (rd lp k) (by simp [rd, hin1])
        have hbx := bounds_i64 hxw
        have hcell0 := pw_cell_below HN.out.2 hcell
        rw [Int.toNat_natCast] at hcell0
        generalize rd lp k = x at *
        have hcell1 : ∀ nq, (wr.drewN nq).cell? (ad.add k) = some (.int .i64 x) := fun _ => hcell0
        clear hcell hxw
        go_wp2_with fail
        go_quiet (exact Calls.quiet_of_same (within_quiet _ 6 _ (by decide) (by decide)))
        go_wp2_with fail
        generalize hfe : x % 6 = f at *
        generalize hte : x.tdiv 6 % 6 = t at *
        have hs1 := send_one (w := wr.drewN nq) ⟨f, t, 1, 0⟩ (HN.out.drewN nq) (by omega) hl0 (by omega)
        have hcs : cutS s.side f t = cutLaw side true f t := by rw [hsd]; rfl
        refine hs1.mono ?_
        rintro e w5 ⟨rfl, F5, hN5⟩
        have hcl := Lib.hid (cutLaw_any A cap side true f t w5 (HR.out.below hN5.2))
        have hs1l : (send1 s ⟨f, t, 1, 0⟩).lost = (if cutLaw side true f t = true then s.lost + 1 else s.lost) ∧ ((send1 s ⟨f, t, 1, 0⟩).l.length : Int) = (if cutLaw side true f t = true then (s.l.length : Int) else (s.l.length : Int) + 1) := by
          unfold send1
          rw [hcs]
          split <;> simp
        have hsd1 : (send1 s ⟨f, t, 1, 0⟩).side = some (sideOf side) := by rw [send1_side, hsd]
        have HN5 := Lib.hid hN5
        clear hs1 hN5 hcs hfe hte hcell0 hcell1
        generalize send1 s ⟨f, t, 1, 0⟩ = s1 at *
        cases hcc : cutLaw side true f t
        all_goals
          rw [hcc] at hs1l
          obtain ⟨h1l, h2l⟩ := hs1l
          simp only [Bool.false_eq_true, if_false, if_true] at h1l h2l
          have h3l : (s1.l.length : Int) = (k : Int) + 1 - s1.lost := by omega
          go_wp2_with (first
            | (go_at_call 17; refine hcl.out.mono ?_; rintro e w6 ⟨rfl, hB6⟩; rw [hcc]; have HN6 := Lib.hid (HN5.out.other (Keep.of_below hB6 _)); clear hB6)
            | (go_at_call 13; refine (lost_any _ w.heap.size F5 b _ HN6.out.1).mono ?_; rintro e w7 ⟨rfl, rfl⟩)
            | (go_at_call 11; refine (len_any _ w.heap.size F5 b _ HN6.out.1).mono ?_; rintro e w7 ⟨rfl, rfl⟩))
          exact ⟨⟨k + 1, s1, F5, by omega, by omega, by simp, by simp, by rw [h1l], hsd1, by omega, by omega, HN6.out⟩, by simp [intOf]; omega⟩
      · have hh := Lib.hid (heal_in HN.out)
        have hlk2 : (s.l.length : Int) = (k : Int) - s.lost := by omega
        have hsum : ((s.l.length : Int) + 2) = (k : Int) - s.lost + 2 := by omega
        by_cases he : k < lp.length
        all_goals
          go_wp2_with (first
            | (go_at_call 18; refine hh.out.mono ?_; rintro e w5 ⟨rfl, F5, hN5⟩
               have hC := lit_msgs w5 [⟨0, 1, 1, 0⟩, ⟨1, 0, 1, 0⟩] 2 rfl (by decide) _ rfl
               have hs2 := Lib.hid (send_any _ w.heap.size F5 b ⟨s.l, none, s.lost⟩ (some ⟨w5.heap.size, 0, none⟩) 2 [⟨0, 1, 1, 0⟩, ⟨1, 0, 1, 0⟩] (hN5.alloc _).1 hC (fun ad h1 h2 => by cases h1; have := (hN5.1.2.1 _ h2).2; simp at this) (by show s.l.length + 2 ≤ 100000; omega) hl0 (by show s.lost + 2 ≤ 1000000; omega))
               have HN5 := Lib.hid hN5
               clear hN5 hC)
            | (go_at_call 10; refine hs2.out.mono ?_; rintro e w6 ⟨rfl, hN6⟩; rw [sendL_open] at hN6; obtain ⟨F6, hN6, _, _⟩ := (HN5.out.alloc _).step hN6; have HN6 := Lib.hid hN6; clear hN6)
            | (go_at_call 13; refine (lost_any _ w.heap.size F6 b _ HN6.out.1).mono ?_; rintro e w7 ⟨rfl, rfl⟩)
            | (go_at_call 11; refine (len_any _ w.heap.size F6 b _ HN6.out.1).mono ?_; rintro e w7 ⟨rfl, rfl⟩; simp only [List.length_append, List.length_cons, List.length_nil]))
          go_ret
          exact ⟨rfl, HN6.out.2⟩
end Go.Proofs.Ytepmnkelfaiapaa
