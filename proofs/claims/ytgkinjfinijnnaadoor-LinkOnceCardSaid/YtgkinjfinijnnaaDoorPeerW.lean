/- The walks of New, peer, Refused, Life, Stamp. -/
import Derived.Test.YtgkinjfinijnnaaDoorLinkP
set_option linter.unusedVariables false
set_option linter.unusedSimpArgs false
namespace Go.Proofs.YtgkinjfinijnnaaDoor
open Go.RowKit Go.Proofs.YtgkinjfinijnnaaDoorW.PrintWords Go.Proofs.Mine

theorem Tryd.zero47 (w : World) : (zeroValue 47).run Tryd.prog w = .ok (.pointer none) w := by kernel_rfl
/-- What peer leaves: the link as it was, laid open, and whom it told. -/
def Peer' (w : World) (base : Nat) (F : Nat → Prop) (b : Nat) (s : LSt) (id : Int) (g : Nat) (w' : World) : Prop :=
  ∃ F' B f m, LinkO w' base F' b s B f ∧ f id = some (g, m) ∧ (∀ k, F' k → F k ∨ w.heap.size ≤ k) ∧ Keep F w w'
set_option maxRecDepth 100000 in
set_option maxHeartbeats 2000000 in
theorem peer_any (w : World) (base : Nat) (F : Nat → Prop) (b : Nat) (s : LSt) (id : Int) (h : LinkAt w base F b s) :
    Calls Tryd.prog 15 #[.pointer (some ⟨b, 0, none⟩), .int .i64 id] w fun e w' => ∃ g, e = .returned (.pointer (some ⟨g, 0, none⟩)) ∧ Peer' w base F b s id g w' := by
  obtain ⟨B, f, h⟩ := h
  have hc2 := blk_cell h.blk 2
  cases hf : f id with
  | some g =>
    have hlk : (Instr.lookup 41 (.map (some B)) (.int .i64 id) true).run Tryd.prog w = .ok (.tuple #[.pointer (some ⟨g.1, 0, none⟩), .bool true]) w := by
      rw [h.map.lookup_ok Tryd.underlying41 Tryd.underlying3 (Tryd.zero47 w), hf]; rfl
    have HF : RowKit.Hid (Peer' w base F b s id g.1 w) := ⟨F, B, f, g.2, h, hf, fun _ h => .inl h, Keep.refl _ _⟩
    clear h hf
    go_enter Tryd.func15, Tryd.ntmps15
    go_wp2
    go_ret
    exact ⟨_, rfl, HF.out⟩
  | none =>
    have hlk : (Instr.lookup 41 (.map (some B)) (.int .i64 id) true).run Tryd.prog w = .ok (.tuple #[.pointer none, .bool false]) w := by
      rw [h.map.lookup_ok Tryd.underlying41 Tryd.underlying3 (Tryd.zero47 w), hf]; rfl
    have hk2 : Keep (fun _ => False) w ((w.alloc (.map #[] 0)).alloc (.cells #[.int .i64 0, .int .i64 0, .map (some w.heap.size), .int .i64 0] 55)) := ((Keep.refl _ w).alloc _).alloc _
    have hb2 : ((w.alloc (.map #[] 0)).alloc (.cells #[.int .i64 0, .int .i64 0, .map (some w.heap.size), .int .i64 0] 55)).heap[w.heap.size + 1]? = some (.cells #[.int .i64 0, .int .i64 0, .map (some w.heap.size), .int .i64 0] 55 (0, 0)) := by
      have := heap_alloc_new (w.alloc (.map #[] 0)) (.cells #[.int .i64 0, .int .i64 0, .map (some w.heap.size), .int .i64 0] 55)
      simpa using this
    have hm2 : MapI Value.bool ((w.alloc (.map #[] 0)).alloc (.cells #[.int .i64 0, .int .i64 0, .map (some w.heap.size), .int .i64 0] 55)) w.heap.size (fun _ => none) := (MapI.new (α := Bool) (enc := Value.bool) w).move (Below.heap_alloc _ _ _ (by simp))
    have hmp := h.map.move (hk2.block B h.map.lt (fun h => h))
    obtain ⟨W3, hrun, hm3, hk3, hs3⟩ := hmp.update (P := Tryd.prog) Tryd.underlying41 Tryd.underlying3 id (w.heap.size + 1, w.heap.size)
    have hc3 : ((w.alloc (.map #[] 0)).alloc (.cells #[.int .i64 0, .int .i64 0, .map (some w.heap.size), .int .i64 0] 55)).cell? ⟨b, 2, none⟩ = some (.map (some B)) := blk_cell (hk2.blk h.blk (fun h => h)) 2
    have hBl := h.map.lt
    have hk : Keep (fun k => k = B) w W3 := (hk2.mono (fun _ h _ => h.elim)).trans hk3 (fun _ h => .inl h)
    have hp3 : PeerAt W3 (w.heap.size + 1, w.heap.size) pr0 := PeerAt.keep (G := fun k => k = B) ⟨hb2, hm2⟩ hk3 (by show ¬ w.heap.size + 1 = B; omega) (by show ¬ w.heap.size = B; omega)
    have hO := h.add hf hk hm3 hp3 (by show w.heap.size ≤ w.heap.size + 1; omega) (Nat.le_refl _)
    have HF : RowKit.Hid (Peer' w base F b s id (w.heap.size + 1) W3) := ⟨_, B, _, w.heap.size, hO, by simp [updI], fun k hk => by
      rcases hk with h1 | rfl | rfl
      · exact .inl h1
      · exact .inr (by show w.heap.size ≤ w.heap.size + 1; omega)
      · exact .inr (Nat.le_refl _), hk.mono (fun k e _ => by subst e; exact h.ownB)⟩
    have hrun' : (Instr.mapUpdate 41 (.map (some B)) (.int .i64 id) (.pointer (some ⟨w.heap.size + 1, 0, none⟩))).run Tryd.prog ((w.alloc (.map #[] 0)).alloc (.cells #[.int .i64 0, .int .i64 0, .map (some w.heap.size), .int .i64 0] 55)) = .ok () W3 := hrun
    clear h hf hk2 hb2 hm2 hmp hrun hm3 hk3 hs3 hk hp3 hO
    have hmm := @run_makeMap Tryd.prog
    go_enter Tryd.func15, Tryd.ntmps15
    go_wp2
    go_ret
    exact ⟨_, rfl, HF.out⟩
set_option maxHeartbeats 400000 in
theorem refused_any (w : World) (base : Nat) (F : Nat → Prop) (b : Nat) (s : LSt) (h : LinkAt w base F b s) :
    Calls Tryd.prog 13 #[.pointer (some ⟨b, 0, none⟩)] w fun e w' => e = .returned (.int .i64 s.refused) ∧ w = w' := by
  obtain ⟨B, f, h⟩ := h
  have hc := blk_cell h.blk 3
  clear h
  go_enter Tryd.func13, Tryd.ntmps13
  go_wp2
  go_ret
  exact ⟨rfl, rfl⟩
theorem Peer'.link {w w' : World} {base b g : Nat} {F : Nat → Prop} {s : LSt} {id : Int} (h : Peer' w base F b s id g w') : Link' w base F b s w' := by
  obtain ⟨F', B, f, m, h1, _, h2, h3⟩ := h
  exact ⟨F', ⟨B, f, h1⟩, h2, h3⟩
theorem Peer'.at_ {w w' : World} {base b g : Nat} {F : Nat → Prop} {s : LSt} {id : Int} (h : Peer' w base F b s id g w') : ∃ m, PeerAt w' (g, m) (s.peers id) := by
  obtain ⟨F', B, f, m, h1, hf, _, _⟩ := h
  exact ⟨m, (h1.peer id _ hf).1⟩
set_option maxHeartbeats 400000 in
theorem life_any (w : World) (base : Nat) (F : Nat → Prop) (b : Nat) (s : LSt) (id : Int) (h : LinkAt w base F b s) :
    Calls Tryd.prog 12 #[.pointer (some ⟨b, 0, none⟩), .int .i64 id] w fun e w' => e = .returned (.int .i64 (s.peers id).life) ∧ Link' w base F b s w' := by
  have H := Lib.hid h
  clear h
  go_enter Tryd.func12, Tryd.ntmps12
  go_wp2_with (go_at_call 15; refine (peer_any _ base F b s id H.out).mono ?_; rintro e w1 ⟨g, rfl, hP⟩; have HP := Lib.hid hP; obtain ⟨m, hA⟩ := hP.at_; have hc := blk_cell hA.1 1; clear hP hA)
  go_ret
  exact ⟨rfl, HP.out.link⟩
/-- What a number more to a peer makes of it. -/
def stampP (p : Pr) : Pr := { p with sent := p.sent + 1 }
def stampL (s : LSt) (id : Int) : LSt := { s with peers := updP s.peers id (stampP (s.peers id)) }
theorem PeerAt.set {w : World} {g m : Nat} {p p' : Pr} (h : PeerAt w (g, m) p) (i : Nat) (v : Value) (hc : (#[Value.int .i64 p.sent, .int .i64 p.life, .map (some m), .int .i64 p.most] : Array Value).setIfInBounds i v = #[.int .i64 p'.sent, .int .i64 p'.life, .map (some m), .int .i64 p'.most]) (ht : p'.taken = p.taken) : PeerAt (w.setCell ⟨g, i, none⟩ v) (g, m) p' := by
  have h1 := blk_set h.1 i v
  rw [hc] at h1
  refine ⟨h1, ?_⟩
  rw [ht]
  exact h.2.move (Below.heap_setCell _ _ _ _ (map_ne h.2 h.1))
theorem Link'.of_turn {w w1 w2 : World} {base b B g m m' : Nat} {F F1 : Nat → Prop} {s : LSt} {f : Int → Option (Nat × Nat)} {id : Int} {p : Pr} (hO : LinkO w1 base F1 b s B f) (hf : f id = some (g, m)) (hF1 : ∀ k, F1 k → F k ∨ w.heap.size ≤ k) (hK1 : Keep F w w1) (hk : Keep (fun k => k = g ∨ k = m) w1 w2) (hp : PeerAt w2 (g, m') p) (hm : m' = m ∨ w1.heap.size ≤ m') :
    Link' w base F b { s with peers := updP s.peers id p } w2 := by
  obtain ⟨_, f1, f2, _⟩ := hO.peer id _ hf
  refine ⟨_, ⟨B, _, hO.turn hf hk hp hm⟩, fun k hk' => ?_, hK1.trans hk (fun k h => by rcases h with rfl | rfl; exact hF1 _ f1; exact hF1 _ f2)⟩
  rcases hk' with h1 | rfl
  · exact hF1 k h1
  · rcases hm with rfl | h2
    · exact hF1 _ f2
    · have := hK1.size; exact .inr (by omega)
set_option maxRecDepth 100000 in
set_option maxHeartbeats 2000000 in
theorem stamp_any (w : World) (base : Nat) (F : Nat → Prop) (b : Nat) (s : LSt) (id : Int) (h : LinkAt w base F b s) (h0 : 0 ≤ (s.peers id).sent) (h1 : (s.peers id).sent ≤ 1000000) :
    Calls Tryd.prog 11 #[.pointer (some ⟨b, 0, none⟩), .int .i64 id] w fun e w' => e = .returned (.tuple #[.int .i64 s.life, .int .i64 ((s.peers id).sent + 1)]) ∧ Link' w base F b (stampL s id) w' := by
  have H := Lib.hid h
  clear h
  go_enter Tryd.func11, Tryd.ntmps11
  go_wp2_with (go_at_call 15; refine (peer_any _ base F b s id H.out).mono ?_; rintro e w1 ⟨g, rfl, hP⟩
               obtain ⟨F1, B, f, m, hO, hf, hF1, hK1⟩ := hP
               obtain ⟨hpg, f1, f2, _⟩ := hO.peer id _ hf
               have hc0 := blk_cell hpg.1 0
               have hf0 := blk_frozen hpg.1 0
               have hpn := hpg.set (p' := stampP (s.peers id)) 0 (.int .i64 ((s.peers id).sent + 1)) rfl rfl
               have c1 : (w1.setCell ⟨g, 0, none⟩ (.int .i64 ((s.peers id).sent + 1))).cell? ⟨g, 0, none⟩ = some (.int .i64 ((s.peers id).sent + 1)) := blk_cell hpn.1 0
               have hk : Keep (fun k => k = g ∨ k = m) w1 (w1.setCell ⟨g, 0, none⟩ (.int .i64 ((s.peers id).sent + 1))) := (Keep.refl _ _).setCell _ _ (.inl (.inl rfl))
               have hT := Link'.of_turn hO hf hF1 hK1 hk hpn (.inl rfl)
               have c2 : (w1.setCell ⟨g, 0, none⟩ (.int .i64 ((s.peers id).sent + 1))).cell? ⟨b, 1, none⟩ = some (.int .i64 s.life) := blk_cell (hk.blk hO.blk (by rintro (e | e); exact cells_ne hO.blk hpg.1 (by decide) e; exact map_ne hpg.2 hO.blk e.symm)) 1
               have HT := Lib.hid hT
               clear hpg hpn hk hT hO hf hF1 hK1)
  generalize World.setCell _ _ _ = W2 at *
  have d1 : ∀ nq, (W2.drewN nq).cell? ⟨g, 0, none⟩ = some (.int .i64 ((s.peers id).sent + 1)) := fun _ => c1
  have d2 : ∀ nq, (W2.drewN nq).cell? ⟨b, 1, none⟩ = some (.int .i64 s.life) := fun _ => c2
  go_quiet (fail)
  go_wp2
  go_ret2
  obtain ⟨F', h1, h2, h3⟩ := HT.out
  exact ⟨rfl, F', h1.keep (G := fun _ => False) ((Keep.refl _ _).drewN _) (fun _ _ h => h), h2, h3.drewN _⟩
end Go.Proofs.YtgkinjfinijnnaaDoor
