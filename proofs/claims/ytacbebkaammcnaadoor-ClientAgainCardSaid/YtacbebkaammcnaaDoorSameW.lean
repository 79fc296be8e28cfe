/- The reference's comparisons, of rows that read alike; few. -/
import Derived.Test.YtacbebkaammcnaaDoorAllW
import Derived.Deep.DeepCutAuto
set_option linter.unusedVariables false
set_option linter.unusedSimpArgs false
namespace Go.Proofs.YtacbebkaammcnaaDoor
open Go.RowKit Go.Proofs.YtacbebkaammcnaaDoorW.PrintWords Go.Proofs.Mine

set_option maxRecDepth 100000 in
set_option maxHeartbeats 1000000 in
theorem sameInts_any (A1 A2 : Option Addr) (c1 c2 : Nat) (xs : List Int) (w : World) (h1 : ReadsInt w .i64 A1 xs.length xs) (h2 : ReadsInt w .i64 A2 xs.length xs) :
    Calls Tryd.prog 26 #[.slice A1 xs.length c1, .slice A2 xs.length c2] w fun e w' => e = .returned (.bool true) ∧ Below w.heap.size w w' := by
  have H1 := Lib.hid h1
  have H2 := Lib.hid h2
  have hmx := h1.2.1
  clear h1 h2
  go_enter Tryd.func26, Tryd.ntmps26
  go_wp2
  go_loopw [5] (fun iv wr => ∃ k : Nat, k ≤ xs.length ∧ iv = .int .i64 k ∧ Below w.heap.size w wr) (fun iv _ => xs.length - (intOf iv).toNat)
  case atStart => exact ⟨0, by omega, rfl, Below.refl _ _⟩
  case round =>
    obtain ⟨k, hk, rfl, hB⟩ := hrel
    have HB := Lib.hid hB
    clear hB
    by_cases hlt : k < xs.length
    · obtain ⟨a1, rfl, q1⟩ := H1.out.at_ k (by omega) (by omega)
      obtain ⟨a2, rfl, q2⟩ := H2.out.at_ k (by omega) (by omega)
      have q1 := pw_cell_below HB.out q1
      have q2 := pw_cell_below HB.out q2
      rw [Int.toNat_natCast] at q1 q2
      generalize rd xs k = x at *
      have p1 : ∀ nq, (wr.drewN nq).cell? (a1.add k) = some (.int .i64 x) := fun _ => q1
      have p2 : ∀ nq, (wr.drewN nq).cell? (a2.add k) = some (.int .i64 x) := fun _ => q2
      have hlt' : (k : Int) < (xs.length : Int) := by omega
      have hk0 : (0 : Int) ≤ (k : Int) := by omega
      clear q1 q2
      go_wp2_with fail
      go_quiet (fail)
      go_wp2_with fail
      exact ⟨⟨k + 1, by omega, by simp, pw_below_drewN HB.out _⟩, by simp [intOf]; omega⟩
    · go_wp2
      go_ret
      exact ⟨rfl, HB.out⟩
set_option maxRecDepth 100000 in
set_option maxHeartbeats 2000000 in
theorem sameEntry_lit (kd c q : Int) (data : ByteArray) (xs : List Int) (dst : Int) (A1 A2 : Option Addr) (c1 c2 : Nat) (w : World) (h1 : ReadsInt w .i64 A1 xs.length xs) (h2 : ReadsInt w .i64 A2 xs.length xs) :
    Calls Tryd.prog 20 #[.agg #[.int .i64 kd, .int .i64 c, .int .i64 q, .string data, .slice A1 xs.length c1, .int .i64 dst], .agg #[.int .i64 kd, .int .i64 c, .int .i64 q, .string data, .slice A2 xs.length c2, .int .i64 dst]] w fun e w' => e = .returned (.bool true) ∧ Below w.heap.size w w' := by
  have H1 := Lib.hid h1
  have H2 := Lib.hid h2
  clear h1 h2
  go_enter Tryd.func20, Tryd.ntmps20
  go_wp2_with (go_at_call 26
               generalize hW : World.alloc _ _ = W
               have hB : Below w.heap.size w W := (by rw [← hW]; exact ((Below.refl _ _).alloc (Nat.le_refl _) _).alloc (by simp) _)
               refine (sameInts_any A1 A2 c1 c2 xs W (H1.out.below hB) (H2.out.below hB)).mono ?_
               rintro e w5 ⟨rfl, hB5⟩
               have HB5 : RowKit.Hid (Below w.heap.size w w5) := below_then hB hB.size hB5
               clear hB hB5 hW)
  go_ret
  exact ⟨rfl, HB5.out⟩
set_option maxRecDepth 100000 in
set_option maxHeartbeats 1000000 in
theorem few_lit (kd c q : Int) (data : ByteArray) (n : Nat) (dst : Int) (A1 : Option Addr) (c1 : Nat) (w : World) :
    Calls Tryd.prog 13 #[.agg #[.int .i64 kd, .int .i64 c, .int .i64 q, .string data, .slice A1 n c1, .int .i64 dst]] w fun e w' => e = .returned (.bool (decide ((data.size : Int) < 300) && decide ((n : Int) < 50))) ∧ Below w.heap.size w w' := by
  cases h1 : decide ((data.size : Int) < 300) <;> cases h2 : decide ((n : Int) < 50)
  all_goals
    go_enter Tryd.func13, Tryd.ntmps13
    go_wp2
    go_ret
    exact ⟨rfl, (Below.refl _ _).alloc (Nat.le_refl _) _⟩
set_option maxRecDepth 100000 in
set_option maxHeartbeats 2000000 in
theorem sameEntries_any (A1 A2 : Option Addr) (c1 c2 : Nat) (l : List Ent) (w : World) (h1 : entK.C w A1 l.length l) (h2 : entK.C w A2 l.length l) (hl : l.length ≤ 1000000) :
    Calls Tryd.prog 15 #[.slice A1 l.length c1, .slice A2 l.length c2] w fun e w' => e = .returned (.bool true) ∧ Below w.heap.size w w' := by
  have H1 := Lib.hid h1
  have H2 := Lib.hid h2
  clear h1 h2
  go_enter Tryd.func15, Tryd.ntmps15
  go_wp2
  go_loopw [5] (fun iv wr => ∃ k : Nat, k ≤ l.length ∧ iv = .int .i64 k ∧ Below w.heap.size w wr) (fun iv _ => l.length - (intOf iv).toNat)
  case atStart => exact ⟨0, by omega, rfl, Below.refl _ _⟩
  case round =>
    obtain ⟨k, hk, rfl, hB⟩ := hrel
    have HB := Lib.hid hB
    clear hB
    by_cases hlt : k < l.length
    · obtain ⟨x, hx⟩ : ∃ x, l[k]? = some x := ⟨_, List.getElem?_eq_getElem hlt⟩
      obtain ⟨a1, rfl, hE1⟩ := entAt_of H1.out hx
      obtain ⟨a2, rfl, hE2⟩ := entAt_of H2.out hx
      obtain ⟨X1, x1, p0, p1, p2, p3, p4, p5, p6, p7⟩ := hE1.below HB.out
      obtain ⟨X2, x2, q0, q1, q2, q3, q4, q5, q6, q7⟩ := hE2.below HB.out
      have HP := Lib.hid p7
      have HQ := Lib.hid q7
      have hlt' : (k : Int) < (l.length : Int) := by omega
      have hk0 : (0 : Int) ≤ (k : Int) := by omega
      clear hE1 hE2 hx p6 p7 q6 q7
      generalize he1 : a1.add (k * 6) = e1 at *
      generalize he2 : a2.add (k * 6) = e2 at *
      have pd0 : wr.drew.cell? e1 = _ := p0
      have pd1 : wr.drew.cell? ⟨e1.block, e1.off + 1, none⟩ = _ := p1
      have pd2 : wr.drew.cell? ⟨e1.block, e1.off + 2, none⟩ = _ := p2
      have pd3 : wr.drew.cell? ⟨e1.block, e1.off + 3, none⟩ = _ := p3
      have pd4 : wr.drew.cell? ⟨e1.block, e1.off + 4, none⟩ = _ := p4
      have pd5 : wr.drew.cell? ⟨e1.block, e1.off + 5, none⟩ = _ := p5
      have qd0 : wr.drew.cell? e2 = _ := q0
      have qd1 : wr.drew.cell? ⟨e2.block, e2.off + 1, none⟩ = _ := q1
      have qd2 : wr.drew.cell? ⟨e2.block, e2.off + 2, none⟩ = _ := q2
      have qd3 : wr.drew.cell? ⟨e2.block, e2.off + 3, none⟩ = _ := q3
      have qd4 : wr.drew.cell? ⟨e2.block, e2.off + 4, none⟩ = _ := q4
      have qd5 : wr.drew.cell? ⟨e2.block, e2.off + 5, none⟩ = _ := q5
      have HPd : RowKit.Hid (ReadsInt wr.drew .i64 X1 x.mem.length x.mem) := Lib.hid HP.out
      have HQd : RowKit.Hid (ReadsInt wr.drew .i64 X2 x.mem.length x.mem) := Lib.hid HQ.out
      clear p0 p1 p2 p3 p4 p5 q0 q1 q2 q3 q4 q5 HP HQ
      go_wp2_with fail
      go_region_law (go_simp; go_at_call 20; refine (sameEntry_lit x.kd x.c x.q x.data x.mem x.dst X1 X2 x1 x2 wr.drew HPd.out HQd.out).mono ?_; rintro e w5 ⟨rfl, hB5⟩; have HB5 : RowKit.Hid (Below wr.heap.size wr w5) := ⟨hB5.os, hB5.tape, hB5.output, hB5.size, hB5.block⟩; clear hB5)
      all_goals
        go_wp2_with fail
        exact ⟨⟨k + 1, by omega, by simp, below_then HB.out HB.out.size HB5.out⟩, by simp [intOf]; omega⟩
    · go_wp2
      go_ret
      exact ⟨rfl, HB.out⟩
end Go.Proofs.YtacbebkaammcnaaDoor
