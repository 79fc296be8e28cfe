/- The reference's tape: Append, Replace, Crash walked. -/
import Derived.Test.YtjjlojaaefipmaaDoorRefW
set_option linter.unusedVariables false
set_option linter.unusedSimpArgs false
namespace Go.Proofs.YtjjlojaaefipmaaDoor
open Go.RowKit Go.Proofs.YtjjlojaaefipmaaDoorW.PrintWords Go.Proofs.Mine

theorem lit_buf2 {w4 : World} {base : Nat} (h : base ≤ w4.heap.size) : Buf .u8 5 (w4.alloc (.cells #[] 5)) base (.slice (some ⟨w4.heap.size, 0, none⟩) 0 0) [] :=
  .inr ⟨w4.heap.size, 0, #[], rfl, h, heap_alloc_new w4 _, by simp, by simp, by simp, by simp [nums]⟩
/-- Behind one append of a fresh row. -/
theorem fresh_app {w2 W w3 : World} {v v1 : Value} {L : List Int} (hB : Below w2.heap.size w2 W) (hb : Buf .u8 5 W w2.heap.size v L) (hg : W.grownBy w3 v.ownBlock) : Below w2.heap.size w2 w3 :=
  hB.trans ((Keep.of_grown (F := fun k => v.ownBlock = some k) hg (fun k hk => hk)).to_below hB.size (fun k e => (hb.lt k e).1))
set_option maxRecDepth 100000 in
set_option maxHeartbeats 2000000 in
theorem rappend_any (B : Option Addr) (cx : Nat) (x : List Int) (w : World) (base b : Nat) (F : Nat → Prop) (s : TS) (hk : TOk s) (h : RefAt w base F b s) (hx : ReadsInt w .u8 B x.length x) (hxB : 0 < x.length → ∀ a, B = some a → ¬ F a.block) (hxl : x.length ≤ 1000000000) :
    Calls Tryd.prog 18 #[.pointer (some ⟨b, 0, none⟩), .slice B x.length cx] w fun r w' => r = .returned (.int .i64 (appendE s x)) ∧ Ref' w base F b (appendS s x) w' := by
  obtain ⟨A, c, ho⟩ := h.open_
  have q0 : w.cell? ⟨b, 0, none⟩ = some (.int .i64 s.room) := blk_cell ho.blk 0
  have q1 : w.cell? ⟨b, 1, none⟩ = some (.int .i64 (s.synced : Int)) := blk_cell ho.blk 1
  have q2 : w.cell? ⟨b, 2, none⟩ = some (.slice A s.l.length c) := blk_cell ho.blk 2
  have q3 : w.cell? ⟨b, 3, none⟩ = some (.int .i64 s.left) := blk_cell ho.blk 3
  have q4 : w.cell? ⟨b, 4, none⟩ = some (.int .i64 s.ops) := blk_cell ho.blk 4
  have q5 : w.cell? ⟨b, 5, none⟩ = some (.bool s.dead) := blk_cell ho.blk 5
  have f1 : w.frozen? ⟨b, 1, none⟩ = false := blk_frozen ho.blk 1
  have f2 : w.frozen? ⟨b, 2, none⟩ = false := blk_frozen ho.blk 2
  have f3 : w.frozen? ⟨b, 3, none⟩ = false := blk_frozen ho.blk 3
  have f4 : w.frozen? ⟨b, 4, none⟩ = false := blk_frozen ho.blk 4
  have f5 : w.frozen? ⟨b, 5, none⟩ = false := blk_frozen ho.blk 5
  have hl0 := hk.left0
  have hl1 := hk.left1
  have ho0 := hk.ops0
  have ho1 := hk.ops1
  have HO := Lib.hid ho
  have HH := Lib.hid h
  have HK := Lib.hid hk
  have HX := Lib.hid hx
  have HXB := Lib.hid hxB
  have hll : (s.l.length : Int) ≤ 1073741824 := by have := hk.len; have := hk.room2; omega
  clear h ho hk hx hxB
  have HHD := Lib.hid (show RefAt w.drew base F b s from HH.out.below ⟨rfl, rfl, rfl, Nat.le_refl _, fun _ _ => rfl⟩)
  have HXD := Lib.hid (show ReadsInt w.drew .u8 B x.length x from HX.out)
  have q2d : w.drew.cell? ⟨b, 2, none⟩ = some (.slice A s.l.length c) := q2
  have q0d : w.drew.cell? ⟨b, 0, none⟩ = some (.int .i64 s.room) := q0
  have hwr : IntKind.i64.wrap ((s.l.length : Int) + (x.length : Int)) = (s.l.length : Int) + (x.length : Int) := IntWalk.i64_in _ (by omega)
  cases hd : s.dead
  · rw [hd] at q5
    have HD := Lib.hid hd
    by_cases hfull : s.room < (s.l.length : Int) + (x.length : Int)
    · have hm : mayE s ((s.l.length : Int) + (x.length : Int)) = 14 := by unfold mayE; rw [hd, if_neg Bool.false_ne_true, if_pos hfull]
      have hE : appendE s x = 14 := (if_neg (by rw [hm]; decide)).trans hm
      have hS : appendS s x = s := if_neg (by rw [hm]; decide)
      rw [hE, hS]
      clear hd hm hE hS
      go_enter Tryd.func18, Tryd.ntmps18
      go_wp2_with fail
      refine wp_region_noPanic ?_
      refine wp_region_held_drew (S := (fun w' => w'.cell? ⟨b, 2, none⟩ = some (.slice A s.l.length c) ∧ w'.cell? ⟨b, 0, none⟩ = some (.int .i64 s.room))) (by kernel_rfl) ?qcs0 (fun hHeld0 => ?qcr0)
      case qcs0 => (try dsimp only); exact ⟨q2d, q0d⟩
      refine wpAnyH_take (i := 0) (v := ?qcv1) (by simp only [List.getElem?_toArray, List.getElem?_cons_zero, List.getElem?_cons_succ]; rfl) (by kernel_rfl) (by kernel_rfl) (by kernel_rfl) (fun _ _ _ h => h) (Or.inl ⟨by rfl, ?qch1⟩) hHeld0 ?qcq1
      case qch1 => (intro w hSw; (try dsimp only at hSw); go_simp <;> with_reducible rfl)
      try simp only [Act.put, List.setIfInBounds_toArray, List.set_cons_zero, List.set_cons_succ]
      refine wpAnyH_take (i := 1) (v := ?qcv2) (by simp only [List.getElem?_toArray, List.getElem?_cons_zero, List.getElem?_cons_succ]; rfl) (by kernel_rfl) (by kernel_rfl) (by kernel_rfl) (fun _ _ _ h => h) (Or.inl ⟨by rfl, ?qch2⟩) hHeld0 ?qcq2
      case qch2 => (intro w hSw; (try dsimp only at hSw); go_simp <;> with_reducible rfl)
      try simp only [Act.put, List.setIfInBounds_toArray, List.set_cons_zero, List.set_cons_succ]
      refine wpAnyH_take (i := 2) (v := ?qcv3) (by simp only [List.getElem?_toArray, List.getElem?_cons_zero, List.getElem?_cons_succ]; rfl) (by kernel_rfl) (by kernel_rfl) (by kernel_rfl) (fun _ _ _ h => h) (Or.inl ⟨by rfl, ?qch3⟩) hHeld0 ?qcq3
      case qch3 => (intro w hSw; (try dsimp only at hSw); go_simp <;> with_reducible rfl)
      try simp only [Act.put, List.setIfInBounds_toArray, List.set_cons_zero, List.set_cons_succ]
      refine wpAnyH_take (i := 3) (v := ?qcv4) (by simp only [List.getElem?_toArray, List.getElem?_cons_zero, List.getElem?_cons_succ]; rfl) (by kernel_rfl) (by kernel_rfl) (by kernel_rfl) (fun _ _ _ h => h) (Or.inl ⟨by rfl, ?qch4⟩) hHeld0 ?qcq4
      case qch4 => (intro w hSw; (try dsimp only at hSw); go_simp <;> with_reducible rfl)
      try simp only [Act.put, List.setIfInBounds_toArray, List.set_cons_zero, List.set_cons_succ]
      refine wpAnyH_take (i := 4) (v := ?qcv5) (by simp only [List.getElem?_toArray, List.getElem?_cons_zero, List.getElem?_cons_succ]; rfl) (by kernel_rfl) (by kernel_rfl) (by kernel_rfl) (fun _ _ _ h => h) (Or.inl ⟨by rfl, ?qch5⟩) hHeld0 ?qcq5
      case qch5 => (intro w hSw; (try dsimp only at hSw); go_simp <;> with_reducible rfl)
      try simp only [Act.put, List.setIfInBounds_toArray, List.set_cons_zero, List.set_cons_succ]
      refine wpAnyH_take (i := 5) (v := ?qcv6) (by simp only [List.getElem?_toArray, List.getElem?_cons_zero, List.getElem?_cons_succ]; rfl) (by kernel_rfl) (by kernel_rfl) (by kernel_rfl) (fun _ _ _ h => h) (Or.inl ⟨by rfl, ?qch6⟩) hHeld0 ?qcq6
      case qch6 => (intro w hSw; (try dsimp only at hSw); go_simp <;> with_reducible rfl)
      try simp only [Act.put, List.setIfInBounds_toArray, List.set_cons_zero, List.set_cons_succ]
      refine wpAnyH_take (i := 6) (v := ?qcv7) (by simp only [List.getElem?_toArray, List.getElem?_cons_zero, List.getElem?_cons_succ]; rfl) (by kernel_rfl) (by kernel_rfl) (by kernel_rfl) (fun _ _ _ h => h) (Or.inl ⟨by rfl, ?qch7⟩) hHeld0 ?qcq7
      case qch7 => (intro w hSw; (try dsimp only at hSw); go_simp <;> with_reducible rfl)
      try simp only [Act.put, List.setIfInBounds_toArray, List.set_cons_zero, List.set_cons_succ]
      refine wpAnyH_take (i := 7) (v := ?qcv8) (by simp only [List.getElem?_toArray, List.getElem?_cons_zero, List.getElem?_cons_succ]; rfl) (by kernel_rfl) (by kernel_rfl) (by kernel_rfl) (fun _ _ _ h => h) (Or.inl ⟨by rfl, ?qch8⟩) hHeld0 ?qcq8
      case qch8 => (intro w hSw; (try dsimp only at hSw); go_simp <;> with_reducible rfl)
      try simp only [Act.put, List.setIfInBounds_toArray, List.set_cons_zero, List.set_cons_succ]
      refine wpAnyH_take (i := 8) (v := ?qcv9) (by simp only [List.getElem?_toArray, List.getElem?_cons_zero, List.getElem?_cons_succ]; rfl) (by kernel_rfl) (by kernel_rfl) (by kernel_rfl) (fun _ _ _ h => h) (Or.inl ⟨by rfl, ?qch9⟩) hHeld0 ?qcq9
      case qch9 => (intro w hSw; (try dsimp only at hSw); go_simp <;> with_reducible rfl)
      try simp only [Act.put, List.setIfInBounds_toArray, List.set_cons_zero, List.set_cons_succ]
      refine wpAnyH_take (i := 9) (v := ?qcv10) (by simp only [List.getElem?_toArray, List.getElem?_cons_zero, List.getElem?_cons_succ]; rfl) (by kernel_rfl) (by kernel_rfl) (by kernel_rfl) (fun _ _ _ h => h) (Or.inl ⟨by rfl, ?qch10⟩) hHeld0 ?qcq10
      case qch10 => (intro w hSw; (try dsimp only at hSw); go_simp <;> with_reducible rfl)
      try simp only [Act.put, List.setIfInBounds_toArray, List.set_cons_zero, List.set_cons_succ]
      refine wpAnyH_take (i := 10) (v := ?qcv11) (by simp only [List.getElem?_toArray, List.getElem?_cons_zero, List.getElem?_cons_succ]; rfl) (by kernel_rfl) (by kernel_rfl) (by kernel_rfl) (fun _ _ _ h => h) (Or.inl ⟨by rfl, ?qch11⟩) hHeld0 ?qcq11
      case qch11 => (intro w hSw; (try dsimp only at hSw); go_simp <;> with_reducible rfl)
      try simp only [Act.put, List.setIfInBounds_toArray, List.set_cons_zero, List.set_cons_succ]
      refine wpAnyH_take (i := 11) (v := ?qcv12) (by simp only [List.getElem?_toArray, List.getElem?_cons_zero, List.getElem?_cons_succ]; rfl) (by kernel_rfl) (by kernel_rfl) (by kernel_rfl) (fun _ _ _ h => h) (Or.inl ⟨by rfl, ?qch12⟩) hHeld0 ?qcq12
      case qch12 => (intro w hSw; (try dsimp only at hSw); go_simp <;> with_reducible rfl)
      try simp only [Act.put, List.setIfInBounds_toArray, List.set_cons_zero, List.set_cons_succ]
      refine wpAnyH_take (i := 12) (v := ?qcv13) (by simp only [List.getElem?_toArray, List.getElem?_cons_zero, List.getElem?_cons_succ]; rfl) (by kernel_rfl) (by kernel_rfl) (by kernel_rfl) (fun _ _ _ h => h) (Or.inl ⟨by rfl, ?qch13⟩) hHeld0 ?qcq13
      case qch13 => (intro w hSw; (try dsimp only at hSw); go_simp <;> with_reducible rfl)
      try simp only [Act.put, List.setIfInBounds_toArray, List.set_cons_zero, List.set_cons_succ]
      refine wpAnyH_done (by kernel_rfl) ?_ _
      refine NoPanic.normal ?_
      go_wp2
      go_ret
      exact ⟨rfl, Ref'.after (fun k h => .inl h) ((Keep.refl F w).drew) (Ref'.refl HHD.out)⟩
    have hfit : (s.l.length : Int) + (x.length : Int) ≤ s.room := by omega
    have hm : mayE s ((s.l.length : Int) + (x.length : Int)) = 0 := by unfold mayE; rw [hd, if_neg Bool.false_ne_true, if_neg hfull]
    have hE : appendE s x = spendE s := if_pos hm
    have hS : appendS s x = { spendS s with l := s.l ++ x } := if_pos hm
    rw [hE, hS]
    have hbl1 : (([] : List Int).length + s.l.length) * 1 ≤ 140737488355328 := by simp only [List.length_nil]; omega
    have hbl2 : (s.l.length + x.length) * 1 ≤ 140737488355328 := by omega
    clear hd hm hE hS hfull
    by_cases hs : spendE s = 0
    · have hz : (spendE s == 0) = true := by simp [hs]
      rw [hs]
      clear hs
      go_enter Tryd.func18, Tryd.ntmps18
      go_wp2_with fail
      refine wp_region_noPanic ?_
      refine wp_region_held_drew (S := (fun w' => w'.cell? ⟨b, 2, none⟩ = some (.slice A s.l.length c) ∧ w'.cell? ⟨b, 0, none⟩ = some (.int .i64 s.room))) (by kernel_rfl) ?qas0 (fun hHeld0 => ?qar0)
      case qas0 => (try dsimp only); exact ⟨q2d, q0d⟩
      refine wpAnyH_take (i := 0) (v := ?qav1) (by simp only [List.getElem?_toArray, List.getElem?_cons_zero, List.getElem?_cons_succ]; rfl) (by kernel_rfl) (by kernel_rfl) (by kernel_rfl) (fun _ _ _ h => h) (Or.inl ⟨by rfl, ?qah1⟩) hHeld0 ?qaq1
      case qah1 => (intro w hSw; (try dsimp only at hSw); go_simp <;> with_reducible rfl)
      try simp only [Act.put, List.setIfInBounds_toArray, List.set_cons_zero, List.set_cons_succ]
      refine wpAnyH_take (i := 1) (v := ?qav2) (by simp only [List.getElem?_toArray, List.getElem?_cons_zero, List.getElem?_cons_succ]; rfl) (by kernel_rfl) (by kernel_rfl) (by kernel_rfl) (fun _ _ _ h => h) (Or.inl ⟨by rfl, ?qah2⟩) hHeld0 ?qaq2
      case qah2 => (intro w hSw; (try dsimp only at hSw); go_simp <;> with_reducible rfl)
      try simp only [Act.put, List.setIfInBounds_toArray, List.set_cons_zero, List.set_cons_succ]
      refine wpAnyH_take (i := 2) (v := ?qav3) (by simp only [List.getElem?_toArray, List.getElem?_cons_zero, List.getElem?_cons_succ]; rfl) (by kernel_rfl) (by kernel_rfl) (by kernel_rfl) (fun _ _ _ h => h) (Or.inl ⟨by rfl, ?qah3⟩) hHeld0 ?qaq3
      case qah3 => (intro w hSw; (try dsimp only at hSw); go_simp <;> with_reducible rfl)
      try simp only [Act.put, List.setIfInBounds_toArray, List.set_cons_zero, List.set_cons_succ]
      refine wpAnyH_take (i := 3) (v := ?qav4) (by simp only [List.getElem?_toArray, List.getElem?_cons_zero, List.getElem?_cons_succ]; rfl) (by kernel_rfl) (by kernel_rfl) (by kernel_rfl) (fun _ _ _ h => h) (Or.inl ⟨by rfl, ?qah4⟩) hHeld0 ?qaq4
      case qah4 => (intro w hSw; (try dsimp only at hSw); go_simp <;> with_reducible rfl)
      try simp only [Act.put, List.setIfInBounds_toArray, List.set_cons_zero, List.set_cons_succ]
      refine wpAnyH_take (i := 4) (v := ?qav5) (by simp only [List.getElem?_toArray, List.getElem?_cons_zero, List.getElem?_cons_succ]; rfl) (by kernel_rfl) (by kernel_rfl) (by kernel_rfl) (fun _ _ _ h => h) (Or.inl ⟨by rfl, ?qah5⟩) hHeld0 ?qaq5
      case qah5 => (intro w hSw; (try dsimp only at hSw); go_simp <;> with_reducible rfl)
      try simp only [Act.put, List.setIfInBounds_toArray, List.set_cons_zero, List.set_cons_succ]
      refine wpAnyH_take (i := 5) (v := ?qav6) (by simp only [List.getElem?_toArray, List.getElem?_cons_zero, List.getElem?_cons_succ]; rfl) (by kernel_rfl) (by kernel_rfl) (by kernel_rfl) (fun _ _ _ h => h) (Or.inl ⟨by rfl, ?qah6⟩) hHeld0 ?qaq6
      case qah6 => (intro w hSw; (try dsimp only at hSw); go_simp <;> with_reducible rfl)
      try simp only [Act.put, List.setIfInBounds_toArray, List.set_cons_zero, List.set_cons_succ]
      refine wpAnyH_take (i := 6) (v := ?qav7) (by simp only [List.getElem?_toArray, List.getElem?_cons_zero, List.getElem?_cons_succ]; rfl) (by kernel_rfl) (by kernel_rfl) (by kernel_rfl) (fun _ _ _ h => h) (Or.inl ⟨by rfl, ?qah7⟩) hHeld0 ?qaq7
      case qah7 => (intro w hSw; (try dsimp only at hSw); go_simp <;> with_reducible rfl)
      try simp only [Act.put, List.setIfInBounds_toArray, List.set_cons_zero, List.set_cons_succ]
      refine wpAnyH_take (i := 7) (v := ?qav8) (by simp only [List.getElem?_toArray, List.getElem?_cons_zero, List.getElem?_cons_succ]; rfl) (by kernel_rfl) (by kernel_rfl) (by kernel_rfl) (fun _ _ _ h => h) (Or.inl ⟨by rfl, ?qah8⟩) hHeld0 ?qaq8
      case qah8 => (intro w hSw; (try dsimp only at hSw); go_simp <;> with_reducible rfl)
      try simp only [Act.put, List.setIfInBounds_toArray, List.set_cons_zero, List.set_cons_succ]
      refine wpAnyH_take (i := 8) (v := ?qav9) (by simp only [List.getElem?_toArray, List.getElem?_cons_zero, List.getElem?_cons_succ]; rfl) (by kernel_rfl) (by kernel_rfl) (by kernel_rfl) (fun _ _ _ h => h) (Or.inl ⟨by rfl, ?qah9⟩) hHeld0 ?qaq9
      case qah9 => (intro w hSw; (try dsimp only at hSw); go_simp <;> with_reducible rfl)
      try simp only [Act.put, List.setIfInBounds_toArray, List.set_cons_zero, List.set_cons_succ]
      refine wpAnyH_take (i := 9) (v := ?qav10) (by simp only [List.getElem?_toArray, List.getElem?_cons_zero, List.getElem?_cons_succ]; rfl) (by kernel_rfl) (by kernel_rfl) (by kernel_rfl) (fun _ _ _ h => h) (Or.inl ⟨by rfl, ?qah10⟩) hHeld0 ?qaq10
      case qah10 => (intro w hSw; (try dsimp only at hSw); go_simp <;> with_reducible rfl)
      try simp only [Act.put, List.setIfInBounds_toArray, List.set_cons_zero, List.set_cons_succ]
      refine wpAnyH_take (i := 10) (v := ?qav11) (by simp only [List.getElem?_toArray, List.getElem?_cons_zero, List.getElem?_cons_succ]; rfl) (by kernel_rfl) (by kernel_rfl) (by kernel_rfl) (fun _ _ _ h => h) (Or.inl ⟨by rfl, ?qah11⟩) hHeld0 ?qaq11
      case qah11 => (intro w hSw; (try dsimp only at hSw); go_simp <;> with_reducible rfl)
      try simp only [Act.put, List.setIfInBounds_toArray, List.set_cons_zero, List.set_cons_succ]
      refine wpAnyH_take (i := 11) (v := ?qav12) (by simp only [List.getElem?_toArray, List.getElem?_cons_zero, List.getElem?_cons_succ]; rfl) (by kernel_rfl) (by kernel_rfl) (by kernel_rfl) (fun _ _ _ h => h) (Or.inl ⟨by rfl, ?qah12⟩) hHeld0 ?qaq12
      case qah12 => (intro w hSw; (try dsimp only at hSw); go_simp <;> with_reducible rfl)
      try simp only [Act.put, List.setIfInBounds_toArray, List.set_cons_zero, List.set_cons_succ]
      refine wpAnyH_take (i := 12) (v := ?qav13) (by simp only [List.getElem?_toArray, List.getElem?_cons_zero, List.getElem?_cons_succ]; rfl) (by kernel_rfl) (by kernel_rfl) (by kernel_rfl) (fun _ _ _ h => h) (Or.inl ⟨by rfl, ?qah13⟩) hHeld0 ?qaq13
      case qah13 => (intro w hSw; (try dsimp only at hSw); go_simp <;> with_reducible rfl)
      try simp only [Act.put, List.setIfInBounds_toArray, List.set_cons_zero, List.set_cons_succ]
      refine wpAnyH_done (by kernel_rfl) ?_ _
      refine NoPanic.normal ?_
      go_wp2_with (first
        | (go_at_call 30; refine (goes_any w.drew base b F s HK.out HD.out HHD.out).mono ?_; rintro r w2 ⟨rfl, F2, hR, hF2, hK2⟩; rw [hz]
           obtain ⟨A2, c2, ho2⟩ := hR.open_
           have p2 : w2.cell? ⟨b, 2, none⟩ = some (.slice A2 s.l.length c2) := by rw [← spendS_l s]; exact blk_cell ho2.blk 2
           have p1 : w2.cell? ⟨b, 1, none⟩ = some (.int .i64 ((spendS s).synced : Int)) := blk_cell ho2.blk 1
           have g2 : w2.frozen? ⟨b, 2, none⟩ = false := blk_frozen ho2.blk 2
           have g1 : w2.frozen? ⟨b, 1, none⟩ = false := blk_frozen ho2.blk 1
           have hb2 : b < w2.heap.size := blk_lt ho2.blk
           have hal : Below w2.heap.size w2 (w2.alloc (.cells #[] 5)) := (Below.refl _ _).alloc (Nat.le_refl _) _
           have HLB := Lib.hid (show Buf .u8 5 (w2.alloc (.cells #[] 5)) w2.heap.size (.slice (some ⟨w2.heap.size, 0, none⟩) 0 0) [] from lit_buf2 (Nat.le_refl _))
           have HRX := Lib.hid (show ReadsInt (w2.alloc (.cells #[] 5)) .u8 B x.length x from (reads_keep HXD.out hK2 HXB.out).below hal)
           have hrb := buf_reads (A := A2) (c := c2) (l := s.l) (W := w2) (base := base) (by have h := ho2.buf; rw [spendS_l] at h; exact h)
           have HRB := Lib.hid (hrb.below hal)
           have hbwA : w2.heap.size ≤ (w2.alloc (.cells #[] 5)).heap.size := by simp
           have HR2 := Lib.hid ho2
           have HF2 := Lib.hid hF2
           have HK2 := Lib.hid hK2
           clear hR ho2 hF2 hK2 hal hrb)
        | (have hx3 := HV3.out
           at_builtin
           refine wpList_append_buf w3 rfl _ _ 22 5 .u8 1 w2.heap.size rfl Tryd.underlying22 info5 (by decide) (.slice A3 s.l.length c3) s.l x B x.length cx ?m1 ?m2 hx3 HR3.out hbw3 hbl2 ?m3
           case m1 => rfl
           case m2 => rfl
           intro v4 w4 hv hg hat
           have hB4 := fresh_app (v1 := v4) HB3.out hx3 hg
           have hp := ref_put (l' := s.l ++ x) HR2.out (hv.lower hbwA0) hB4 (fun k hk => (hv.lt k hk).1)
           have p4 : w4.cell? ⟨b, 2, none⟩ = some (.slice A2 s.l.length c2) := by rw [← spendS_l s]; exact blk_cell (blk_below HR2.out.blk hB4) 2
           have g4 : w4.frozen? ⟨b, 2, none⟩ = false := blk_frozen (blk_below HR2.out.blk hB4) 2
           obtain ⟨A4, c4, rfl⟩ := hv.slice
           simp only [List.length_append] at hp
           have HP := Lib.hid hp
           clear hv hg hat hB4 hp)
        | (at_builtin
           refine wpList_append_buf (w2.alloc (.cells #[] 5)) rfl _ _ 22 5 .u8 1 w2.heap.size rfl Tryd.underlying22 info5 (by decide) (.slice (some ⟨w2.heap.size, 0, none⟩) 0 0) [] s.l A2 s.l.length c2 ?m4 ?m5 HLB.out HRB.out hbwA hbl1 ?m6
           case m4 => rfl
           case m5 => rfl
           intro v3 w3 hv hg hat
           rw [List.nil_append] at hv
           have hB3 := fresh_app (v1 := v3) ((Below.refl _ _).alloc (Nat.le_refl _) _) HLB.out hg
           have hbwA0 : base ≤ w2.heap.size := by have := (HR2.out.lt b HR2.out.inF).1; omega
           have hbw3 : w2.heap.size ≤ w3.heap.size := hB3.size
           have HR3 := Lib.hid ((reads_keep HXD.out HK2.out HXB.out).below hB3)
           have HB3 := Lib.hid hB3
           obtain ⟨A3, c3, rfl⟩ := hv.slice
           have HV3 := Lib.hid hv
           clear hv hg hat hB3))
      go_ret
      exact ⟨rfl, Ref'.after (fun k h => .inl h) ((Keep.refl F w).drew) (Ref'.after HF2.out HK2.out HP.out)⟩
    · have hz : (spendE s == 0) = false := by simp [hs]
      rw [spendE_or hs]
      clear hs
      go_enter Tryd.func18, Tryd.ntmps18
      go_wp2_with fail
      refine wp_region_noPanic ?_
      refine wp_region_held_drew (S := (fun w' => w'.cell? ⟨b, 2, none⟩ = some (.slice A s.l.length c) ∧ w'.cell? ⟨b, 0, none⟩ = some (.int .i64 s.room))) (by kernel_rfl) ?qbs0 (fun hHeld0 => ?qbr0)
      case qbs0 => (try dsimp only); exact ⟨q2d, q0d⟩
      refine wpAnyH_take (i := 0) (v := ?qbv1) (by simp only [List.getElem?_toArray, List.getElem?_cons_zero, List.getElem?_cons_succ]; rfl) (by kernel_rfl) (by kernel_rfl) (by kernel_rfl) (fun _ _ _ h => h) (Or.inl ⟨by rfl, ?qbh1⟩) hHeld0 ?qbq1
      case qbh1 => (intro w hSw; (try dsimp only at hSw); go_simp <;> with_reducible rfl)
      try simp only [Act.put, List.setIfInBounds_toArray, List.set_cons_zero, List.set_cons_succ]
      refine wpAnyH_take (i := 1) (v := ?qbv2) (by simp only [List.getElem?_toArray, List.getElem?_cons_zero, List.getElem?_cons_succ]; rfl) (by kernel_rfl) (by kernel_rfl) (by kernel_rfl) (fun _ _ _ h => h) (Or.inl ⟨by rfl, ?qbh2⟩) hHeld0 ?qbq2
      case qbh2 => (intro w hSw; (try dsimp only at hSw); go_simp <;> with_reducible rfl)
      try simp only [Act.put, List.setIfInBounds_toArray, List.set_cons_zero, List.set_cons_succ]
      refine wpAnyH_take (i := 2) (v := ?qbv3) (by simp only [List.getElem?_toArray, List.getElem?_cons_zero, List.getElem?_cons_succ]; rfl) (by kernel_rfl) (by kernel_rfl) (by kernel_rfl) (fun _ _ _ h => h) (Or.inl ⟨by rfl, ?qbh3⟩) hHeld0 ?qbq3
      case qbh3 => (intro w hSw; (try dsimp only at hSw); go_simp <;> with_reducible rfl)
      try simp only [Act.put, List.setIfInBounds_toArray, List.set_cons_zero, List.set_cons_succ]
      refine wpAnyH_take (i := 3) (v := ?qbv4) (by simp only [List.getElem?_toArray, List.getElem?_cons_zero, List.getElem?_cons_succ]; rfl) (by kernel_rfl) (by kernel_rfl) (by kernel_rfl) (fun _ _ _ h => h) (Or.inl ⟨by rfl, ?qbh4⟩) hHeld0 ?qbq4
      case qbh4 => (intro w hSw; (try dsimp only at hSw); go_simp <;> with_reducible rfl)
      try simp only [Act.put, List.setIfInBounds_toArray, List.set_cons_zero, List.set_cons_succ]
      refine wpAnyH_take (i := 4) (v := ?qbv5) (by simp only [List.getElem?_toArray, List.getElem?_cons_zero, List.getElem?_cons_succ]; rfl) (by kernel_rfl) (by kernel_rfl) (by kernel_rfl) (fun _ _ _ h => h) (Or.inl ⟨by rfl, ?qbh5⟩) hHeld0 ?qbq5
      case qbh5 => (intro w hSw; (try dsimp only at hSw); go_simp <;> with_reducible rfl)
      try simp only [Act.put, List.setIfInBounds_toArray, List.set_cons_zero, List.set_cons_succ]
      refine wpAnyH_take (i := 5) (v := ?qbv6) (by simp only [List.getElem?_toArray, List.getElem?_cons_zero, List.getElem?_cons_succ]; rfl) (by kernel_rfl) (by kernel_rfl) (by kernel_rfl) (fun _ _ _ h => h) (Or.inl ⟨by rfl, ?qbh6⟩) hHeld0 ?qbq6
      case qbh6 => (intro w hSw; (try dsimp only at hSw); go_simp <;> with_reducible rfl)
      try simp only [Act.put, List.setIfInBounds_toArray, List.set_cons_zero, List.set_cons_succ]
      refine wpAnyH_take (i := 6) (v := ?qbv7) (by simp only [List.getElem?_toArray, List.getElem?_cons_zero, List.getElem?_cons_succ]; rfl) (by kernel_rfl) (by kernel_rfl) (by kernel_rfl) (fun _ _ _ h => h) (Or.inl ⟨by rfl, ?qbh7⟩) hHeld0 ?qbq7
      case qbh7 => (intro w hSw; (try dsimp only at hSw); go_simp <;> with_reducible rfl)
      try simp only [Act.put, List.setIfInBounds_toArray, List.set_cons_zero, List.set_cons_succ]
      refine wpAnyH_take (i := 7) (v := ?qbv8) (by simp only [List.getElem?_toArray, List.getElem?_cons_zero, List.getElem?_cons_succ]; rfl) (by kernel_rfl) (by kernel_rfl) (by kernel_rfl) (fun _ _ _ h => h) (Or.inl ⟨by rfl, ?qbh8⟩) hHeld0 ?qbq8
      case qbh8 => (intro w hSw; (try dsimp only at hSw); go_simp <;> with_reducible rfl)
      try simp only [Act.put, List.setIfInBounds_toArray, List.set_cons_zero, List.set_cons_succ]
      refine wpAnyH_take (i := 8) (v := ?qbv9) (by simp only [List.getElem?_toArray, List.getElem?_cons_zero, List.getElem?_cons_succ]; rfl) (by kernel_rfl) (by kernel_rfl) (by kernel_rfl) (fun _ _ _ h => h) (Or.inl ⟨by rfl, ?qbh9⟩) hHeld0 ?qbq9
      case qbh9 => (intro w hSw; (try dsimp only at hSw); go_simp <;> with_reducible rfl)
      try simp only [Act.put, List.setIfInBounds_toArray, List.set_cons_zero, List.set_cons_succ]
      refine wpAnyH_take (i := 9) (v := ?qbv10) (by simp only [List.getElem?_toArray, List.getElem?_cons_zero, List.getElem?_cons_succ]; rfl) (by kernel_rfl) (by kernel_rfl) (by kernel_rfl) (fun _ _ _ h => h) (Or.inl ⟨by rfl, ?qbh10⟩) hHeld0 ?qbq10
      case qbh10 => (intro w hSw; (try dsimp only at hSw); go_simp <;> with_reducible rfl)
      try simp only [Act.put, List.setIfInBounds_toArray, List.set_cons_zero, List.set_cons_succ]
      refine wpAnyH_take (i := 10) (v := ?qbv11) (by simp only [List.getElem?_toArray, List.getElem?_cons_zero, List.getElem?_cons_succ]; rfl) (by kernel_rfl) (by kernel_rfl) (by kernel_rfl) (fun _ _ _ h => h) (Or.inl ⟨by rfl, ?qbh11⟩) hHeld0 ?qbq11
      case qbh11 => (intro w hSw; (try dsimp only at hSw); go_simp <;> with_reducible rfl)
      try simp only [Act.put, List.setIfInBounds_toArray, List.set_cons_zero, List.set_cons_succ]
      refine wpAnyH_take (i := 11) (v := ?qbv12) (by simp only [List.getElem?_toArray, List.getElem?_cons_zero, List.getElem?_cons_succ]; rfl) (by kernel_rfl) (by kernel_rfl) (by kernel_rfl) (fun _ _ _ h => h) (Or.inl ⟨by rfl, ?qbh12⟩) hHeld0 ?qbq12
      case qbh12 => (intro w hSw; (try dsimp only at hSw); go_simp <;> with_reducible rfl)
      try simp only [Act.put, List.setIfInBounds_toArray, List.set_cons_zero, List.set_cons_succ]
      refine wpAnyH_take (i := 12) (v := ?qbv13) (by simp only [List.getElem?_toArray, List.getElem?_cons_zero, List.getElem?_cons_succ]; rfl) (by kernel_rfl) (by kernel_rfl) (by kernel_rfl) (fun _ _ _ h => h) (Or.inl ⟨by rfl, ?qbh13⟩) hHeld0 ?qbq13
      case qbh13 => (intro w hSw; (try dsimp only at hSw); go_simp <;> with_reducible rfl)
      try simp only [Act.put, List.setIfInBounds_toArray, List.set_cons_zero, List.set_cons_succ]
      refine wpAnyH_done (by kernel_rfl) ?_ _
      refine NoPanic.normal ?_
      go_wp2_with (first
        | (go_at_call 30; refine (goes_any w.drew base b F s HK.out HD.out HHD.out).mono ?_; rintro r w2 ⟨rfl, F2, hR, hF2, hK2⟩; rw [hz]
           obtain ⟨A2, c2, ho2⟩ := hR.open_
           have p2 : w2.cell? ⟨b, 2, none⟩ = some (.slice A2 s.l.length c2) := by rw [← spendS_l s]; exact blk_cell ho2.blk 2
           have p1 : w2.cell? ⟨b, 1, none⟩ = some (.int .i64 ((spendS s).synced : Int)) := blk_cell ho2.blk 1
           have g2 : w2.frozen? ⟨b, 2, none⟩ = false := blk_frozen ho2.blk 2
           have g1 : w2.frozen? ⟨b, 1, none⟩ = false := blk_frozen ho2.blk 1
           have hb2 : b < w2.heap.size := blk_lt ho2.blk
           have hal : Below w2.heap.size w2 (w2.alloc (.cells #[] 5)) := (Below.refl _ _).alloc (Nat.le_refl _) _
           have HLB := Lib.hid (show Buf .u8 5 (w2.alloc (.cells #[] 5)) w2.heap.size (.slice (some ⟨w2.heap.size, 0, none⟩) 0 0) [] from lit_buf2 (Nat.le_refl _))
           have HRX := Lib.hid (show ReadsInt (w2.alloc (.cells #[] 5)) .u8 B x.length x from (reads_keep HXD.out hK2 HXB.out).below hal)
           have hrb := buf_reads (A := A2) (c := c2) (l := s.l) (W := w2) (base := base) (by have h := ho2.buf; rw [spendS_l] at h; exact h)
           have HRB := Lib.hid (hrb.below hal)
           have hbwA : w2.heap.size ≤ (w2.alloc (.cells #[] 5)).heap.size := by simp
           have HR2 := Lib.hid ho2
           have HF2 := Lib.hid hF2
           have HK2 := Lib.hid hK2
           clear hR ho2 hF2 hK2 hal hrb)
        | (have hx3 := HV3.out
           at_builtin
           refine wpList_append_buf w3 rfl _ _ 22 5 .u8 1 w2.heap.size rfl Tryd.underlying22 info5 (by decide) (.slice A3 s.l.length c3) s.l x B x.length cx ?n1 ?n2 hx3 HR3.out hbw3 hbl2 ?n3
           case n1 => rfl
           case n2 => rfl
           intro v4 w4 hv hg hat
           have hB4 := fresh_app (v1 := v4) HB3.out hx3 hg
           have hp := ref_put (l' := s.l ++ x) HR2.out (hv.lower hbwA0) hB4 (fun k hk => (hv.lt k hk).1)
           have p4 : w4.cell? ⟨b, 2, none⟩ = some (.slice A2 s.l.length c2) := by rw [← spendS_l s]; exact blk_cell (blk_below HR2.out.blk hB4) 2
           have g4 : w4.frozen? ⟨b, 2, none⟩ = false := blk_frozen (blk_below HR2.out.blk hB4) 2
           obtain ⟨A4, c4, rfl⟩ := hv.slice
           simp only [List.length_append] at hp
           have HP := Lib.hid hp
           clear hv hg hat hB4 hp)
        | (at_builtin
           refine wpList_append_buf (w2.alloc (.cells #[] 5)) rfl _ _ 22 5 .u8 1 w2.heap.size rfl Tryd.underlying22 info5 (by decide) (.slice (some ⟨w2.heap.size, 0, none⟩) 0 0) [] s.l A2 s.l.length c2 ?n4 ?n5 HLB.out HRB.out hbwA hbl1 ?n6
           case n4 => rfl
           case n5 => rfl
           intro v3 w3 hv hg hat
           rw [List.nil_append] at hv
           have hB3 := fresh_app (v1 := v3) ((Below.refl _ _).alloc (Nat.le_refl _) _) HLB.out hg
           have hbwA0 : base ≤ w2.heap.size := by have := (HR2.out.lt b HR2.out.inF).1; omega
           have hbw3 : w2.heap.size ≤ w3.heap.size := hB3.size
           have HR3 := Lib.hid ((reads_keep HXD.out HK2.out HXB.out).below hB3)
           have HB3 := Lib.hid hB3
           obtain ⟨A3, c3, rfl⟩ := hv.slice
           have HV3 := Lib.hid hv
           clear hv hg hat hB3))
      go_ret
      exact ⟨rfl, Ref'.after (fun k h => .inl h) ((Keep.refl F w).drew) (Ref'.after HF2.out HK2.out HP.out)⟩
  · have hm : mayE s ((s.l.length : Int) + (x.length : Int)) = 13 := by unfold mayE; rw [hd, if_pos rfl]
    rw [hd] at q5
    have hE : appendE s x = 13 := (if_neg (by rw [hm]; decide)).trans hm
    have hS : appendS s x = s := if_neg (by rw [hm]; decide)
    rw [hE, hS]
    clear hd hm hE hS
    go_enter Tryd.func18, Tryd.ntmps18
    go_wp2
    go_ret
    exact ⟨rfl, Ref'.refl HH.out⟩
set_option maxRecDepth 100000 in
set_option maxHeartbeats 2000000 in
theorem rreplace_any (B : Option Addr) (cx : Nat) (x : List Int) (w : World) (base b : Nat) (F : Nat → Prop) (s : TS) (hk : TOk s) (h : RefAt w base F b s) (hx : ReadsInt w .u8 B x.length x) (hxB : 0 < x.length → ∀ a, B = some a → ¬ F a.block) (hxl : x.length ≤ 1000000000) :
    Calls Tryd.prog 20 #[.pointer (some ⟨b, 0, none⟩), .slice B x.length cx] w fun r w' => r = .returned (.int .i64 (replaceE s x)) ∧ Ref' w base F b (replaceS s x) w' := by
  obtain ⟨A, c, ho⟩ := h.open_
  have q0 : w.cell? ⟨b, 0, none⟩ = some (.int .i64 s.room) := blk_cell ho.blk 0
  have q1 : w.cell? ⟨b, 1, none⟩ = some (.int .i64 (s.synced : Int)) := blk_cell ho.blk 1
  have q2 : w.cell? ⟨b, 2, none⟩ = some (.slice A s.l.length c) := blk_cell ho.blk 2
  have q3 : w.cell? ⟨b, 3, none⟩ = some (.int .i64 s.left) := blk_cell ho.blk 3
  have q4 : w.cell? ⟨b, 4, none⟩ = some (.int .i64 s.ops) := blk_cell ho.blk 4
  have q5 : w.cell? ⟨b, 5, none⟩ = some (.bool s.dead) := blk_cell ho.blk 5
  have f1 : w.frozen? ⟨b, 1, none⟩ = false := blk_frozen ho.blk 1
  have f2 : w.frozen? ⟨b, 2, none⟩ = false := blk_frozen ho.blk 2
  have f3 : w.frozen? ⟨b, 3, none⟩ = false := blk_frozen ho.blk 3
  have f4 : w.frozen? ⟨b, 4, none⟩ = false := blk_frozen ho.blk 4
  have f5 : w.frozen? ⟨b, 5, none⟩ = false := blk_frozen ho.blk 5
  have hl0 := hk.left0
  have hl1 := hk.left1
  have ho0 := hk.ops0
  have ho1 := hk.ops1
  have HO := Lib.hid ho
  have HH := Lib.hid h
  have HK := Lib.hid hk
  have HX := Lib.hid hx
  have HXB := Lib.hid hxB
  have hll : (s.l.length : Int) ≤ 1073741824 := by have := hk.len; have := hk.room2; omega
  clear h ho hk hx hxB
  cases hd : s.dead
  · rw [hd] at q5
    have HD := Lib.hid hd
    by_cases hfull : s.room < (x.length : Int)
    · have hm : mayE s (x.length : Int) = 14 := by unfold mayE; rw [hd, if_neg Bool.false_ne_true, if_pos hfull]
      have hE : replaceE s x = 14 := (if_neg (by rw [hm]; decide)).trans hm
      have hS : replaceS s x = s := if_neg (by rw [hm]; decide)
      rw [hE, hS]
      clear hd hm hE hS
      go_enter Tryd.func20, Tryd.ntmps20
      go_wp2
      go_ret
      exact ⟨rfl, Ref'.refl HH.out⟩
    have hfit : (x.length : Int) ≤ s.room := by omega
    have hm : mayE s (x.length : Int) = 0 := by unfold mayE; rw [hd, if_neg Bool.false_ne_true, if_neg hfull]
    have hE : replaceE s x = spendE s := if_pos hm
    rw [hE]
    have hbl2 : (([] : List Int).length + x.length) * 1 ≤ 140737488355328 := by simp only [List.length_nil]; omega
    by_cases hs : spendE s = 0
    · have hz : (spendE s == 0) = true := by simp [hs]
      have hS : replaceS s x = { spendS s with l := x, synced := x.length } := by unfold replaceS; rw [if_pos hm, if_pos hs]
      rw [hS, hs]
      clear hd hm hE hS hfull hs
      go_enter Tryd.func20, Tryd.ntmps20
      go_wp2_with (first
        | (go_at_call 30; refine (goes_any w base b F s HK.out HD.out HH.out).mono ?_; rintro r w2 ⟨rfl, F2, hR, hF2, hK2⟩; rw [hz]
           obtain ⟨A2, c2, ho2⟩ := hR.open_
           have p2 : w2.cell? ⟨b, 2, none⟩ = some (.slice A2 s.l.length c2) := by rw [← spendS_l s]; exact blk_cell ho2.blk 2
           have p1 : w2.cell? ⟨b, 1, none⟩ = some (.int .i64 ((spendS s).synced : Int)) := blk_cell ho2.blk 1
           have g2 : w2.frozen? ⟨b, 2, none⟩ = false := blk_frozen ho2.blk 2
           have g1 : w2.frozen? ⟨b, 1, none⟩ = false := blk_frozen ho2.blk 1
           have hb2 : b < w2.heap.size := blk_lt ho2.blk
           have hal : Below w2.heap.size w2 (w2.alloc (.cells #[] 5)) := (Below.refl _ _).alloc (Nat.le_refl _) _
           have HLB := Lib.hid (show Buf .u8 5 (w2.alloc (.cells #[] 5)) w2.heap.size (.slice (some ⟨w2.heap.size, 0, none⟩) 0 0) [] from lit_buf2 (Nat.le_refl _))
           have HRX := Lib.hid (show ReadsInt (w2.alloc (.cells #[] 5)) .u8 B x.length x from (reads_keep HX.out hK2 HXB.out).below hal)
           have hrb := buf_reads (A := A2) (c := c2) (l := s.l) (W := w2) (base := base) (by have h := ho2.buf; rw [spendS_l] at h; exact h)
           have HRB := Lib.hid (hrb.below hal)
           have hbwA : w2.heap.size ≤ (w2.alloc (.cells #[] 5)).heap.size := by simp
           have HR2 := Lib.hid ho2
           have HF2 := Lib.hid hF2
           have HK2 := Lib.hid hK2
           clear hR ho2 hF2 hK2 hal hrb)
        | (at_builtin
           refine wpList_append_buf (w2.alloc (.cells #[] 5)) rfl _ _ 22 5 .u8 1 w2.heap.size rfl Tryd.underlying22 info5 (by decide) (.slice (some ⟨w2.heap.size, 0, none⟩) 0 0) [] x B x.length cx ?r1 ?r2 HLB.out HRX.out hbwA hbl2 ?r3
           case r1 => rfl
           case r2 => rfl
           intro v3 w3 hv hg hat
           rw [List.nil_append] at hv
           have hB3 := fresh_app (v1 := v3) ((Below.refl _ _).alloc (Nat.le_refl _) _) HLB.out hg
           have hbwA0 : base ≤ w2.heap.size := by have := (HR2.out.lt b HR2.out.inF).1; omega
           have hp := ref_put (l' := x) HR2.out (hv.lower hbwA0) hB3 (fun k hk => (hv.lt k hk).1)
           have p4 : w3.cell? ⟨b, 2, none⟩ = some (.slice A2 s.l.length c2) := by rw [← spendS_l s]; exact blk_cell (blk_below HR2.out.blk hB3) 2
           have g4 : w3.frozen? ⟨b, 2, none⟩ = false := blk_frozen (blk_below HR2.out.blk hB3) 2
           have p5 : w3.cell? ⟨b, 1, none⟩ = some (.int .i64 ((spendS s).synced : Int)) := blk_cell (blk_below HR2.out.blk hB3) 1
           have g5 : w3.frozen? ⟨b, 1, none⟩ = false := blk_frozen (blk_below HR2.out.blk hB3) 1
           obtain ⟨A4, c4, rfl⟩ := hv.slice
           have HP := Lib.hid hp
           clear hv hg hat hB3 hp))
      go_ret
      refine ⟨rfl, Ref'.after HF2.out HK2.out ?_⟩
      obtain ⟨F5, hR5, hF5, hK5⟩ := HP.out
      obtain ⟨A5, c5, ho5⟩ := hR5.open_
      exact Ref'.after hF5 hK5 (ref_sync ho5 x.length)
    · have hz : (spendE s == 0) = false := by simp [hs]
      have hS : replaceS s x = spendS s := by unfold replaceS; rw [if_pos hm, if_neg hs]
      have h13 : spendE s = 13 := spendE_or hs
      rw [hS, h13]
      clear hd hm hE hS hfull hs h13
      go_enter Tryd.func20, Tryd.ntmps20
      go_wp2_with (go_at_call 30; refine (goes_any w base b F s HK.out HD.out HH.out).mono ?_; rintro r w1 ⟨rfl, hR⟩; rw [hz]; have HR := Lib.hid hR; clear hR)
      go_ret
      exact ⟨rfl, HR.out⟩
  · have hm : mayE s (x.length : Int) = 13 := by unfold mayE; rw [hd, if_pos rfl]
    rw [hd] at q5
    have hE : replaceE s x = 13 := (if_neg (by rw [hm]; decide)).trans hm
    have hS : replaceS s x = s := if_neg (by rw [hm]; decide)
    rw [hE, hS]
    clear hd hm hE hS
    go_enter Tryd.func20, Tryd.ntmps20
    go_wp2
    go_ret
    exact ⟨rfl, Ref'.refl HH.out⟩
end Go.Proofs.YtjjlojaaefipmaaDoor
