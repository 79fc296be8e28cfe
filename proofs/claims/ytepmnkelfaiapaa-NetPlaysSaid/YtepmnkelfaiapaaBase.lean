/- What a net is in memory; the small calls. -/
import Derived.Test.YtepmnkelfaiapaaProg
import Derived.Test.YtepmnkelfaiapaaRowF
import Derived.WalkSpells
import Derived.WalkLawsBesides
import Derived.Lib.Hide
import Derived.Deep.QuietTactic
import Derived.BigQuiet
set_option linter.unusedVariables false
set_option linter.unusedSimpArgs false
namespace Go.Proofs.Ytepmnkelfaiapaa
open Go.RowKit Go.Proofs.YtepmnkelfaiapaaW.PrintWords Go.Proofs.Mine

/-- A message without lists: whom it is from, to whom, its kind, its index. -/
structure Pm where
  f : Int
  t : Int
  k : Int
  i : Int
def Pm.cells (m : Pm) : List Value := [.int .i64 m.f, .int .i64 m.t, .int .i64 0, .int .i64 m.k, .int .i64 0, .int .i64 m.i, .int .i64 0, .int .i64 0, .bool false, .slice none 0 0, .slice none 0 0, .slice none 0 0, .slice none 0 0]
def msgK : Kd Pm := Kd.fixed Pm.cells 13 (fun _ => rfl) (fun m u hu => by simp only [Pm.cells, List.mem_cons, List.not_mem_nil, or_false] at hu; rcases hu with rfl | rfl | rfl | rfl | rfl | rfl | rfl | rfl | rfl | rfl | rfl | rfl | rfl <;> rfl)

/-- A net: the messages under way; who stands on the one side of a cut, if there is one; how many were lost. -/
structure NSt where
  l : List Pm
  side : Option (Int → Bool)
  lost : Int
def hasS (s : Option (Int → Bool)) (x : Int) : Bool := match s with | none => false | some g => g x
def cutS (s : Option (Int → Bool)) (f t : Int) : Bool := hasS s f != hasS s t
def SideAt (w : World) (v : Value) : Option (Int → Bool) → Prop
  | none => v = .map none
  | some g => ∃ B, v = .map (some B) ∧ MapI Value.bool w B (fun x => if g x then some true else none)
def Value.mapBlock : Value → Option Nat | .map r => r | _ => none

/-- The net at block b; its blocks are of F. -/
def NetAt (w : World) (base : Nat) (F : Nat → Prop) (b : Nat) (s : NSt) : Prop :=
  F b ∧ (∀ k, F k → base ≤ k ∧ k < w.heap.size) ∧ ∃ vl vs, w.heap[b]? = some (.cells #[vl, vs, .int .i64 s.lost] 52 (0, 0)) ∧ msgK.R 32 w base F vl s.l ∧ SideAt w vs s.side ∧ ∀ k, Value.mapBlock vs = some k → F k

theorem Try.zero4 (w : World) : (zeroValue 4).run Try.prog w = .ok (.bool false) w := by kernel_rfl
theorem side_look {w : World} {v : Value} {s : Option (Int → Bool)} (h : SideAt w v s) (x : Int) :
    (Instr.lookup 50 v (.int .i64 x) false).run Try.prog w = .ok (.bool (hasS s x)) w := by
  cases s with
  | none =>
    rw [show v = .map none from h, lookup_nil Try.underlying50 Try.underlying3 (Try.zero4 w)]; rfl
  | some g =>
    obtain ⟨B, rfl, hm⟩ := h
    rw [hm.lookup Try.underlying50 Try.underlying3 (Try.zero4 w)]
    cases hg : g x <;> simp [hg, hasS]

set_option maxHeartbeats 400000 in
theorem len_any (w : World) (base : Nat) (F : Nat → Prop) (b : Nat) (s : NSt) (h : NetAt w base F b s) :
    Calls Try.prog 11 #[.pointer (some ⟨b, 0, none⟩)] w fun e w' => e = .returned (.int .i64 s.l.length) ∧ w = w' := by
  obtain ⟨_, _, vl, vs, hb, hR, _⟩ := h
  obtain ⟨A, c, rfl⟩ := Kd.R_slice hR
  have hc := blk_cell hb 0
  have HB := Lib.hid hb
  clear hb hR
  go_enter Try.func11, Try.ntmps11
  go_wp2
  go_ret
  exact ⟨rfl, rfl⟩
set_option maxHeartbeats 400000 in
theorem lost_any (w : World) (base : Nat) (F : Nat → Prop) (b : Nat) (s : NSt) (h : NetAt w base F b s) :
    Calls Try.prog 13 #[.pointer (some ⟨b, 0, none⟩)] w fun e w' => e = .returned (.int .i64 s.lost) ∧ w = w' := by
  obtain ⟨_, _, vl, vs, hb, hR, _⟩ := h
  have hc := blk_cell hb 2
  have HB := Lib.hid hb
  clear hb hR
  go_enter Try.func13, Try.ntmps13
  go_wp2
  go_ret
  exact ⟨rfl, rfl⟩
set_option maxHeartbeats 400000 in
theorem new_any (w : World) :
    Calls Try.prog 9 #[] w fun e w' => e = .returned (.pointer (some ⟨w.heap.size, 0, none⟩)) ∧ w' = w.alloc (.cells #[.slice none 0 0, .map none, .int .i64 0] 52) := by
  go_enter Try.func9, Try.ntmps9
  go_wp2
  go_ret
  exact ⟨rfl, rfl⟩
set_option maxHeartbeats 400000 in
theorem heal_any (w : World) (base : Nat) (F : Nat → Prop) (b : Nat) (s : NSt) (h : NetAt w base F b s) :
    Calls Try.prog 18 #[.pointer (some ⟨b, 0, none⟩)] w fun e w' => e = .returned (.tuple #[]) ∧ w' = w.setCell ⟨b, 1, none⟩ (.map none) := by
  obtain ⟨_, _, vl, vs, hb, hR, _⟩ := h
  have hc := blk_cell hb 1
  have hf := blk_frozen hb 1
  have HB := Lib.hid hb
  clear hb hR
  go_enter Try.func18, Try.ntmps18
  go_wp2
  go_end0
  exact ⟨rfl, rfl⟩
theorem at_num (k n : Int) (hn : 0 < n) (h2 : n < 1000000) : (wrap64 (k.tmod n + n)).tmod n = k % n := by
  have h1 := Int.tmod_add_mul_tdiv k n
  have h3 := Int.emod_nonneg k (show n ≠ 0 by omega)
  have h4 := Int.emod_lt_of_pos k hn
  have h5 := Int.tmod_eq_emod (a := k) (b := n)
  have h6 : wrap64 (k.tmod n + n) = k.tmod n + n := by
    unfold wrap64
    split at h5 <;> omega
  rw [h6]
  split at h5
  · rw [show k.tmod n + n = k % n + n from by omega, Int.tmod_eq_emod_of_nonneg (by omega), Int.add_emod_right, Int.emod_emod]
  · rw [show k.tmod n + n = k % n from by omega, Int.tmod_eq_emod_of_nonneg h3, Int.emod_emod]
set_option maxHeartbeats 400000 in
theorem at_any (w : World) (base : Nat) (F : Nat → Prop) (b : Nat) (s : NSt) (k : Int) (h : NetAt w base F b s) (hl : 0 < s.l.length) (hl2 : s.l.length < 1000000) :
    Calls Try.prog 21 #[.pointer (some ⟨b, 0, none⟩), .int .i64 k] w fun e w' => e = .returned (.int .i64 (k % s.l.length)) ∧ ∃ n, w' = w.drewN n := by
  obtain ⟨_, _, vl, vs, hb, hR, _⟩ := h
  obtain ⟨A, c, rfl⟩ := Kd.R_slice hR
  have hc := blk_cell hb 0
  have HB := Lib.hid hb
  have HN := Lib.hid (at_num k s.l.length (by omega) (by omega))
  clear hb hR
  go_enter Try.func21, Try.ntmps21
  go_wp2
  go_quiet (fail)
  go_wp2
  go_ret
  exact ⟨by rw [← HN.out]; rfl, _, rfl⟩

/-! ### cut -/
def mval (m : Pm) : Value := .agg #[.int .i64 m.f, .int .i64 m.t, .int .i64 0, .int .i64 m.k, .int .i64 0, .int .i64 m.i, .int .i64 0, .int .i64 0, .bool false, .slice none 0 0, .slice none 0 0, .slice none 0 0, .slice none 0 0]
set_option maxHeartbeats 400000 in
theorem cut_any (w : World) (base : Nat) (F : Nat → Prop) (b : Nat) (s : NSt) (m : Pm) (h : NetAt w base F b s) :
    Calls Try.prog 19 #[.pointer (some ⟨b, 0, none⟩), mval m] w fun e w' => e = .returned (.bool (cutS s.side m.f m.t)) ∧ Below w.heap.size w w' := by
  obtain ⟨_, _, vl, vs, hb, hR, hS, _⟩ := h
  have HH := Lib.hid hb
  have HS := Lib.hid hS
  clear hb hR hS
  unfold cutS mval
  go_enter Try.func19, Try.ntmps19
  go_wp2
  generalize hW : w.alloc _ = W
  have hb1 : W.heap[b]? = some (.cells #[vl, vs, .int .i64 s.lost] 52 (0, 0)) := by rw [← hW]; exact blk_alloc HH.out _
  have hc := blk_cell hb1 1
  have hn : W.heap[w.heap.size]? = some (.cells m.cells.toArray 32 (0, 0)) := by rw [← hW]; exact heap_alloc_new w _
  have hc0 : W.cell? ⟨w.heap.size, 0, none⟩ = some (.int .i64 m.f) := blk_cell hn 0
  have hc1 : W.cell? ⟨w.heap.size, 1, none⟩ = some (.int .i64 m.t) := blk_cell hn 1
  have hS1 : SideAt W vs s.side := by
    have hS := HS.out
    cases hs : s.side with
    | none => rw [hs] at hS; exact hS
    | some g =>
      rw [hs] at hS
      obtain ⟨B, he, hm⟩ := hS
      exact ⟨B, he, hm.move (by rw [← hW]; exact Below.heap_alloc w _ B hm.lt)⟩
  have hlk : ∀ nq x, (Instr.lookup 50 vs (.int .i64 x) false).run Try.prog (W.drewN nq) = .ok (.bool (hasS s.side x)) (W.drewN nq) := fun nq x => side_look (w := W.drewN nq) hS1 x
  have HB : RowKit.Hid (Below w.heap.size w W) := by rw [← hW]; exact (Below.refl _ _).alloc (Nat.le_refl _) _
  clear hb1 hn hS1 hW
  go_quiet (fail)
  go_wp2
  go_ret
  exact ⟨rfl, pw_below_drewN HB.out _⟩
end Go.Proofs.Ytepmnkelfaiapaa
