/- The walk of Take. -/
import Derived.Test.YtgkinjfinijnnaaDoorTakeW
set_option linter.unusedVariables false
set_option linter.unusedSimpArgs false
namespace Go.Proofs.YtgkinjfinijnnaaDoor
open Go.RowKit Go.Proofs.YtgkinjfinijnnaaDoorW.PrintWords Go.Proofs.Mine

set_option maxRecDepth 100000 in
set_option maxHeartbeats 400000 in
theorem is_nil (m : Int) (w : World) : Calls Tryd.prog 17 #[.nilIface, .iface 26 (.int .i64 m)] w fun ev w' => ev = .returned (.bool false) ∧ w = w' := by
  have h1 : ∀ W, (binOp .eql 45 .nilIface (.iface 26 (.int .i64 m))).run Tryd.prog W = .ok (.bool false) W := fun _ => by kernel_rfl
  have h2 : ∀ W, (binOp .eql 45 .nilIface .nilIface).run Tryd.prog W = .ok (.bool true) W := fun _ => by kernel_rfl
  have h3 : ∀ W, (binOp .eql 45 (.iface 26 (.int .i64 m)) .nilIface).run Tryd.prog W = .ok (.bool false) W := fun _ => by kernel_rfl
  go_enter Tryd.func17, Tryd.ntmps17
  go_wp2
  go_ret
  exact ⟨rfl, rfl⟩
def refuseL (s : LSt) : LSt := { s with refused := s.refused + 1 }
def tookL (s : LSt) (id life n : Int) : LSt := { s with peers := updP s.peers id (takeP (s.peers id) life n) }
def takeL (s : LSt) (id life n : Int) : LSt := if mayE (s.peers id) life n = 0 then tookL s id life n else refuseL s
theorem mayE_cases (p : Pr) (life n : Int) : mayE p life n = 0 ∨ mayE p life n = 1 ∨ mayE p life n = 19 ∨ mayE p life n = 7 := by
  unfold mayE
  split
  · exact .inr (.inl rfl)
  · split
    · exact .inr (.inr (.inl rfl))
    · split
      · exact .inr (.inr (.inr rfl))
      · exact .inl rfl
theorem mayE_ok {p : Pr} {life n : Int} (h : mayE p life n = 0) : 1 ≤ life ∧ 1 ≤ n ∧ p.life ≤ life ∧ (life = p.life → tk p n = false ∧ p.most - 256 < n) := by
  unfold mayE at h
  split at h
  · cases h
  · split at h
    · cases h
    · split at h
      · cases h
      · rename_i h1 h2 h3
        refine ⟨by omega, by omega, by omega, fun e => ?_⟩
        cases ht : tk p n
        · exact ⟨rfl, by by_cases hx : n ≤ p.most - 256; exact absurd ⟨e, .inr hx⟩ h3; omega⟩
        · exact absurd ⟨e, .inl ht⟩ h3
theorem LinkO.refuse {w : World} {base b B : Nat} {F : Nat → Prop} {s : LSt} {f : Int → Option (Nat × Nat)} (h : LinkO w base F b s B f) : LinkO (w.setCell ⟨b, 3, none⟩ (.int .i64 (s.refused + 1))) base F b (refuseL s) B f := by
  have hk : Keep (fun k => k = b) w (w.setCell ⟨b, 3, none⟩ (.int .i64 (s.refused + 1))) := (Keep.refl _ _).setCell _ _ (.inl rfl)
  refine ⟨h.own, fun j hj => ⟨(h.all j hj).1, Nat.lt_of_lt_of_le (h.all j hj).2 hk.size⟩, blk_set h.blk 3 _, h.map.move (hk.block B h.map.lt (fun e => map_ne h.map h.blk e)), h.ownB, fun id g hf => ?_, h.none_, h.inj⟩
  obtain ⟨h1, h2, h3, h4⟩ := h.peer id g hf
  exact ⟨h1.keep hk (fun e => cells_ne h1.1 h.blk (by decide) e) (fun e => map_ne h1.2 h.blk e), h2, h3, h4⟩
set_option maxRecDepth 100000 in
set_option maxHeartbeats 4000000 in
theorem take_no (w : World) (base : Nat) (F : Nat → Prop) (b : Nat) (s : LSt) (id life n : Int) (hg : Laid w) (hb0 : 0 < base) (h : LinkAt w base F b s) (h0 : 0 ≤ (s.peers id).most) (h1 : (s.peers id).most ≤ 4611686018427387904) (hr0 : 0 ≤ s.refused) (hr1 : s.refused ≤ 1000000) (hE : mayE (s.peers id) life n ≠ 0) :
    Calls Tryd.prog 10 #[.pointer (some ⟨b, 0, none⟩), .int .i64 id, .int .i64 life, .int .i64 n] w fun e w' => e = .returned (.int .i64 (mayE (s.peers id) life n)) ∧ Link' w base F b (refuseL s) w' := by
  have H := Lib.hid h
  have HG := Lib.hid hg
  have hnF : ∀ k, F k → k ≠ 0 := fun k hk => by
    obtain ⟨B, f, hO⟩ := h
    have := (hO.all k hk).1
    omega
  have HNF := Lib.hid hnF
  have hcase := mayE_cases (s.peers id) life n
  clear h hg hnF
  obtain ⟨E, hEE⟩ : ∃ E, E = mayE (s.peers id) life n := ⟨_, rfl⟩
  rw [← hEE] at hE hcase ⊢
  have HEE := Lib.hid hEE
  have hE0 : RowKit.Hid (E ≠ 0) := hE
  clear hEE
  go_enter Tryd.func10, Tryd.ntmps10
  go_wp2_with (first
    | (go_at_call 15; refine (peer_any _ base F b s id H.out).mono ?_; rintro e w1 ⟨g, rfl, hP⟩
       obtain ⟨m, hA⟩ := hP.at_
       have HP := Lib.hid hP
       have HA := Lib.hid hA
       have HG1 : RowKit.Hid (Laid w1) := by
         obtain ⟨_, _, _, _, _, _, _, hk⟩ := hP
         exact hk.cell HG.out (fun h => HNF.out _ h rfl)
       clear hP hA)
    | (go_at_call 16; refine (may_any _ g m _ life n HA.out h0 h1).mono ?_; rintro e w2 ⟨v, rfl, hM, hB⟩
       rw [← HEE.out] at hM
       have HM := Lib.hid hM
       have HB2 := Lib.hid hB
       clear hM hB)
    | (go_at_call 14; refine (wrap_may _ v E (HG1.out.below HB2.out) HM.out).mono ?_; rintro e w3 ⟨u, rfl, hW, hB⟩
       have HB3 : RowKit.Hid (Below w1.heap.size w1 w3) := below_then HB2.out HB2.out.size hB
       have hW' : ∃ x, u = .iface 56 (.pointer (some ⟨x, 0, none⟩)) ∧ w3.cell? ⟨x, 1, none⟩ = some (.iface 26 (.int .i64 E)) := by
         rcases hW with ⟨h, _⟩ | ⟨_, x, h1, h2⟩
         · exact absurd h hE0.out
         · exact ⟨x, h1, h2⟩
       obtain ⟨x, rfl, hx⟩ := hW'
       have HX := Lib.hid hx
       obtain ⟨F1, B, f, mm, hO, hf, hF1, hK1⟩ := HP.out
       have hO3 := hO.keep (Keep.of_below HB3.out (fun _ => False)) (fun _ _ h => h)
       have hc3 := blk_cell hO3.blk 3
       have hf3 := blk_frozen hO3.blk 3
       have HR := Lib.hid hO3.refuse
       have HKK : RowKit.Hid (Keep F w (w3.setCell ⟨b, 3, none⟩ (.int .i64 (s.refused + 1)))) := (hK1.trans (Keep.of_below HB3.out (fun _ => False)) (fun _ h => h.elim)).trans ((Keep.refl (fun k => k = b) _).setCell _ _ (.inl rfl)) (fun k e => by subst e; exact hF1 _ hO.own)
       have HF1 := Lib.hid hF1
       have hxb : x ≠ b := fun e => by subst e; rw [blk_cell hO3.blk 1] at hx; simp at hx
       have HXB := Lib.hid hxb
       clear hW hB hO hf hF1 hK1 hO3 hx hxb))
  have hx4 : ((w3.setCell ⟨b, 3, none⟩ (.int .i64 (s.refused + 1))).alloc (.cells #[.int .i64 1, .int .i64 19, .int .i64 7] 26)).cell? ⟨x, 1, none⟩ = some (.iface 26 (.int .i64 E)) :=
    pw_cell_below ((Below.refl _ _).alloc (Nat.le_refl _) _) (((Keep.refl (fun k => k = b) w3).setCell ⟨b, 3, none⟩ (.int .i64 (s.refused + 1)) (.inl rfl)).cell HX.out HXB.out)
  have hbl := heap_alloc_new (w3.setCell ⟨b, 3, none⟩ (.int .i64 (s.refused + 1))) (.cells #[.int .i64 1, .int .i64 19, .int .i64 7] 26)
  rw [show (w3.setCell ⟨b, 3, none⟩ (.int .i64 (s.refused + 1))).heap.size = w3.heap.size from by simp [World.setCell]] at hbl
  have HL : RowKit.Hid (Link' w base F b (refuseL s) ((w3.setCell ⟨b, 3, none⟩ (.int .i64 (s.refused + 1))).alloc (.cells #[.int .i64 1, .int .i64 19, .int .i64 7] 26))) :=
    ⟨_, ⟨_, _, HR.out.keep ((Keep.refl (fun _ => False) _).alloc _) (fun _ _ h => h)⟩, HF1.out, HKK.out.alloc _⟩
  clear hc3 hf3
  generalize World.alloc _ _ = W4 at *
  have u0 := blk_cell hbl 0
  have u1 := blk_cell hbl 1
  have u2 := blk_cell hbl 2
  have HX4 := Lib.hid hx4
  clear hbl hx4
  rcases hcase with rfl | rfl | rfl | rfl
  · exact absurd rfl hE0.out
  · refine wp_loop_rounds 1 ?_
    rw [rounds_succ]
    go_wp2_with (go_at_call 17; refine (is_at_num x 1 _ _ HX4.out).mono ?_; rintro e w5 ⟨rfl, rfl⟩)
    go_ret
    exact ⟨rfl, HL.out⟩
  · refine wp_loop_rounds 2 ?_
    rw [rounds_succ]
    go_wp2_with (go_at_call 17; refine (is_at_num x 19 _ _ HX4.out).mono ?_; rintro e w5 ⟨rfl, rfl⟩)
    rw [rounds_succ]
    go_wp2_with (go_at_call 17; refine (is_at_num x 19 _ _ HX4.out).mono ?_; rintro e w5 ⟨rfl, rfl⟩)
    go_ret
    exact ⟨rfl, HL.out⟩
  · refine wp_loop_rounds 3 ?_
    rw [rounds_succ]
    go_wp2_with (go_at_call 17; refine (is_at_num x 7 _ _ HX4.out).mono ?_; rintro e w5 ⟨rfl, rfl⟩)
    rw [rounds_succ]
    go_wp2_with (go_at_call 17; refine (is_at_num x 7 _ _ HX4.out).mono ?_; rintro e w5 ⟨rfl, rfl⟩)
    rw [rounds_succ]
    go_wp2_with (go_at_call 17; refine (is_at_num x 7 _ _ HX4.out).mono ?_; rintro e w5 ⟨rfl, rfl⟩)
    go_ret
    exact ⟨rfl, HL.out⟩
set_option maxRecDepth 100000 in
set_option maxHeartbeats 4000000 in
theorem take_yes (w : World) (base : Nat) (F : Nat → Prop) (b : Nat) (s : LSt) (id life n : Int) (hg : Laid w) (hb0 : 0 < base) (h : LinkAt w base F b s) (h0 : 0 ≤ (s.peers id).most) (h1 : (s.peers id).most ≤ 4611686018427387904) (hn2 : n ≤ 4611686018427387904) (hkeys : ∀ x v, (s.peers id).taken x = some v → n - 256 < x) (hE : mayE (s.peers id) life n = 0) :
    Calls Tryd.prog 10 #[.pointer (some ⟨b, 0, none⟩), .int .i64 id, .int .i64 life, .int .i64 n] w fun e w' => e = .returned (.int .i64 0) ∧ Link' w base F b (tookL s id life n) w' := by
  have H := Lib.hid h
  have HG := Lib.hid hg
  have hnF : ∀ k, F k → k ≠ 0 := fun k hk => by
    obtain ⟨B, f, hO⟩ := h
    have := (hO.all k hk).1
    omega
  have HNF := Lib.hid hnF
  obtain ⟨hl1, hn1, hll, _⟩ := mayE_ok hE
  have HEE := Lib.hid hE
  have HKEY := Lib.hid hkeys
  clear h hg hnF hE hkeys
  go_enter Tryd.func10, Tryd.ntmps10
  go_wp2_with (first
    | (go_at_call 15; refine (peer_any _ base F b s id H.out).mono ?_; rintro e w1 ⟨g, rfl, hP⟩
       obtain ⟨m, hA⟩ := hP.at_
       have HP := Lib.hid hP
       have HA := Lib.hid hA
       have HG1 : RowKit.Hid (Laid w1) := by
         obtain ⟨_, _, _, _, _, _, _, hk⟩ := hP
         exact hk.cell HG.out (fun h => HNF.out _ h rfl)
       clear hP hA)
    | (go_at_call 16; refine (may_any _ g m _ life n HA.out h0 h1).mono ?_; rintro e w2 ⟨v, rfl, hM, hB⟩
       rw [HEE.out] at hM
       have HM := Lib.hid hM
       have HB2 := Lib.hid hB
       clear hM hB)
    | (go_at_call 14; refine (wrap_may _ v 0 (HG1.out.below HB2.out) HM.out).mono ?_; rintro e w3 ⟨u, rfl, hW, hB⟩
       have HB3 : RowKit.Hid (Below w1.heap.size w1 w3) := below_then HB2.out HB2.out.size hB
       have hW' : u = .nilIface := by
         rcases hW with ⟨_, h⟩ | ⟨h, _⟩
         · exact h
         · exact absurd rfl h
       subst hW'
       clear hW hB))
  have hbl := heap_alloc_new w3 (.cells #[.int .i64 1, .int .i64 19, .int .i64 7] 26)
  have hB4 : Below w3.heap.size w3 (w3.alloc (.cells #[.int .i64 1, .int .i64 19, .int .i64 7] 26)) := (Below.refl _ _).alloc (Nat.le_refl _) _
  obtain ⟨F1, B, f, mm, hO, hf, hF1, hK1⟩ := HP.out
  have HB4 : RowKit.Hid (Below w1.heap.size w1 (w3.alloc (.cells #[.int .i64 1, .int .i64 19, .int .i64 7] 26))) := below_then HB3.out HB3.out.size hB4
  clear hB4
  generalize World.alloc _ _ = W4 at *
  have u0 := blk_cell hbl 0
  have u1 := blk_cell hbl 1
  have u2 := blk_cell hbl 2
  have HK4 : RowKit.Hid (Keep F w W4) := hK1.trans (Keep.of_below HB4.out (fun _ => False)) (fun _ h => h.elim)
  have HO4 := Lib.hid (hO.keep (Keep.of_below HB4.out (fun _ => False)) (fun _ _ h => h))
  have HF1 := Lib.hid hF1
  have HLK : RowKit.Hid (LinkAt W4 base F1 b s) := ⟨B, f, HO4.out⟩
  clear hbl hO hf hF1 hK1 HO4
  refine wp_loop_rounds 4 ?_
  rw [rounds_succ]
  go_wp2_with (go_at_call 17; refine (is_nil _ _).mono ?_; rintro e w5 ⟨rfl, rfl⟩)
  rw [rounds_succ]
  go_wp2_with (go_at_call 17; refine (is_nil _ _).mono ?_; rintro e w5 ⟨rfl, rfl⟩)
  rw [rounds_succ]
  go_wp2_with (go_at_call 17; refine (is_nil _ _).mono ?_; rintro e w5 ⟨rfl, rfl⟩)
  rw [rounds_succ]
  clear u0 u1 u2
  go_wp2_with fail
  refine (peer_any _ base F1 b s id HLK.out).mono ?_
  rintro e w5 ⟨g5, rfl, F5, B5, f5, m5, hO5, hf5, hF5, hK5⟩
  have hA5 := (hO5.peer id _ hf5).1
  have HO5 := Lib.hid hO5
  have HF5 := Lib.hid hF5
  have HK5 := Lib.hid hK5
  have HFF := Lib.hid hf5
  have htk : Calls Tryd.prog 18 #[.pointer (some ⟨g5, 0, none⟩), .int .i64 life, .int .i64 n] w5 fun e w' => e = .returned (.tuple #[]) ∧ Took w5 g5 m5 (takeP (s.peers id) life n) w' := by
    by_cases hlt : (s.peers id).life < life
    · exact take_new w5 g5 m5 _ life n hA5 hlt hn1 hn2
    · exact take_same w5 g5 m5 _ life n hA5 hlt hn1 hn2 HKEY.out
  have HTK := Lib.hid htk
  clear hO5 hf5 hF5 hK5 hA5 htk
  go_wp2_with (go_at_call 18; refine HTK.out.mono ?_; rintro e w6 ⟨rfl, hT⟩; have HT := Lib.hid hT; clear hT)
  go_ret
  obtain ⟨m', t1, t2, t3⟩ := HT.out
  have hF15 : ∀ k, F5 k → F k ∨ w.heap.size ≤ k := fun k hk => by
    rcases HF5.out k hk with h | h
    · exact HF1.out k h
    · exact .inr (Nat.le_trans HK4.out.size h)
  exact ⟨rfl, Link'.of_turn HO5.out HFF.out hF15 (HK4.out.trans HK5.out (fun k h => HF1.out k h)) t1 t2 t3⟩
end Go.Proofs.YtgkinjfinijnnaaDoor
