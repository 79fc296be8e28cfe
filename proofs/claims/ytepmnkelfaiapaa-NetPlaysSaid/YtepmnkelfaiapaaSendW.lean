/- The walk of Send at messages without lists. -/
import Derived.Test.YtepmnkelfaiapaaTwinW
import Derived.Deep.RegionHeld3
import Derived.Deep.RegionLaw
import Derived.Deep.LoopGhost
set_option linter.unusedVariables false
set_option linter.unusedSimpArgs false
namespace Go.Proofs.Ytepmnkelfaiapaa
open Go.RowKit Go.Proofs.YtepmnkelfaiapaaW.PrintWords Go.Proofs.Mine

def send1 (s : NSt) (m : Pm) : NSt := if cutS s.side m.f m.t = true then { s with lost := s.lost + 1 } else { s with l := s.l ++ [m] }
def sendL (s : NSt) (ms : List Pm) : NSt := ms.foldl send1 s
theorem sendL_snoc (s : NSt) (ms : List Pm) (m : Pm) : sendL s (ms ++ [m]) = send1 (sendL s ms) m := by simp [sendL]
theorem send1_side (s : NSt) (m : Pm) : (send1 s m).side = s.side := by unfold send1; split <;> rfl
theorem sendL_side (s : NSt) (ms : List Pm) : (sendL s ms).side = s.side := by
  induction ms generalizing s with
  | nil => rfl
  | cons m ms ih => exact (ih (send1 s m)).trans (send1_side s m)
theorem sendL_bounds (s : NSt) (ms : List Pm) : (sendL s ms).l.length ≤ s.l.length + ms.length ∧ s.lost ≤ (sendL s ms).lost ∧ (sendL s ms).lost ≤ s.lost + ms.length := by
  induction ms generalizing s with
  | nil => simp [sendL]
  | cons m ms ih =>
    have h := ih (send1 s m)
    have h1 : (send1 s m).l.length ≤ s.l.length + 1 ∧ s.lost ≤ (send1 s m).lost ∧ (send1 s m).lost ≤ s.lost + 1 := by unfold send1; split <;> simp <;> omega
    have e : sendL s (m :: ms) = sendL (send1 s m) ms := rfl
    rw [e]
    simp only [List.length_cons]
    omega
theorem Try.info32 : (Try.prog.info? 32).map (fun i => (i.zero, i.size, i.bytes)) = some (some (.agg #[.int .i64 0, .int .i64 0, .int .i64 0, .int .i64 0, .int .i64 0, .int .i64 0, .int .i64 0, .int .i64 0, .bool false, .slice none 0 0, .slice none 0 0, .slice none 0 0, .slice none 0 0]), 13, 168) := by kernel_rfl

/-- What a call on the net leaves. -/
def Net' (w : World) (base : Nat) (F : Nat → Prop) (b : Nat) (s' : NSt) (w' : World) : Prop :=
  ∃ F', NetAt w' base F' b s' ∧ (∀ k, F' k → F k ∨ w.heap.size ≤ k) ∧ Keep F w w'

theorem SideAt.keep {w w1 : World} {G : Nat → Prop} {v : Value} {s : Option (Int → Bool)} (h : SideAt w v s) (k : Keep G w w1) (hg : ∀ b, Value.mapBlock v = some b → ¬ G b) : SideAt w1 v s := by
  cases s with
  | none => exact h
  | some g =>
    obtain ⟨B, rfl, hm⟩ := h
    exact ⟨B, rfl, hm.move (k.block B hm.lt (hg B rfl))⟩
theorem NetAt.keep {w w1 : World} {base b : Nat} {F G : Nat → Prop} {s : NSt} (h : NetAt w base F b s) (k : Keep G w w1) (hg : ∀ j, F j → ¬ G j) : NetAt w1 base F b s := by
  obtain ⟨h1, h2, vl, vs, hb, hR, hS, hm⟩ := h
  exact ⟨h1, fun j hj => ⟨(h2 j hj).1, Nat.lt_of_lt_of_le (h2 j hj).2 k.size⟩, vl, vs, k.blk hb (hg b h1), k.R hR hg, hS.keep k (fun j hj => hg j (hm j hj)), hm⟩
/-- The thirteen cells of a message, as a walk spells their places. -/
def MsgCells (W : World) (a : Addr) (m : Pm) : Prop :=
  W.cell? a = some (.int .i64 m.f) ∧ W.cell? ⟨a.block, a.off + 1, none⟩ = some (.int .i64 m.t) ∧ W.cell? ⟨a.block, a.off + 2, none⟩ = some (.int .i64 0) ∧ W.cell? ⟨a.block, a.off + 3, none⟩ = some (.int .i64 m.k) ∧ W.cell? ⟨a.block, a.off + 4, none⟩ = some (.int .i64 0) ∧ W.cell? ⟨a.block, a.off + 5, none⟩ = some (.int .i64 m.i) ∧ W.cell? ⟨a.block, a.off + 6, none⟩ = some (.int .i64 0) ∧ W.cell? ⟨a.block, a.off + 7, none⟩ = some (.int .i64 0) ∧ W.cell? ⟨a.block, a.off + 8, none⟩ = some (.bool false) ∧ W.cell? ⟨a.block, a.off + 9, none⟩ = some (.slice none 0 0) ∧ W.cell? ⟨a.block, a.off + 10, none⟩ = some (.slice none 0 0) ∧ W.cell? ⟨a.block, a.off + 11, none⟩ = some (.slice none 0 0) ∧ W.cell? ⟨a.block, a.off + 12, none⟩ = some (.slice none 0 0)
theorem addAdd (a : Addr) (i j : Nat) : a.add (i + j) = (a.add i).add j := by
  unfold Addr.add
  by_cases h1 : i = 0 <;> by_cases h2 : j = 0 <;> simp [h1, h2, Nat.add_assoc]
theorem msgCells_of {W : World} {a : Addr} {m : Pm} (h : ∀ j u, m.cells[j]? = some u → W.cell? (a.add j) = some u) : MsgCells W a m := by
  refine ⟨by simpa [Addr.add] using h 0 _ rfl, by simpa [Addr.add] using h 1 _ rfl, by simpa [Addr.add] using h 2 _ rfl, by simpa [Addr.add] using h 3 _ rfl, by simpa [Addr.add] using h 4 _ rfl, by simpa [Addr.add] using h 5 _ rfl, by simpa [Addr.add] using h 6 _ rfl, by simpa [Addr.add] using h 7 _ rfl, by simpa [Addr.add] using h 8 _ rfl, by simpa [Addr.add] using h 9 _ rfl, by simpa [Addr.add] using h 10 _ rfl, by simpa [Addr.add] using h 11 _ rfl, by simpa [Addr.add] using h 12 _ rfl⟩
theorem msgCells_block {W : World} {g : Nat} {m : Pm} (h : W.heap[g]? = some (.cells m.cells.toArray 32 (0, 0))) : MsgCells W ⟨g, 0, none⟩ m :=
  msgCells_of fun j u hj => by rw [add_plain, blk_cell h j]; simpa using hj
theorem add_block (a : Addr) (j : Nat) : (a.add j).block = a.block := by unfold Addr.add; split <;> rfl
theorem grown_cell {w w1 : World} {row : Option Nat} {a : Addr} {v : Value} (hg : w.grownBy w1 row) (hc : w.cell? a = some v) (hn : some a.block ≠ row) : w1.cell? a = some v :=
  (World.cell?_of_block (w := w) (hg.block a.block (World.block_lt_of_cell? w a hc) hn)).trans hc
theorem map_typed {w : World} {vs : Value} {s : Option (Int → Bool)} {k t : Nat} {cells : Array Value} (hS : SideAt w vs s) (hk : Value.mapBlock vs = some k) (hb : w.heap[k]? = some (.cells cells t (0, 0))) : False := by
  cases hs : s with
  | none => rw [hs] at hS; rw [show vs = .map none from hS] at hk; simp [Value.mapBlock] at hk
  | some g =>
    rw [hs] at hS
    obtain ⟨B, rfl, es, c, h0, _⟩ := hS
    have : B = k := by simpa [Value.mapBlock] using hk
    subst this
    rw [h0] at hb; cases hb
theorem Net'.after {w W w2 : World} {base b : Nat} {F F1 : Nat → Prop} {s' : NSt} (hF1 : ∀ k, F1 k → F k ∨ w.heap.size ≤ k) (hK : Keep F w W) (h : Net' W base F1 b s' w2) : Net' w base F b s' w2 := by
  obtain ⟨F', h1, h2, h3⟩ := h
  refine ⟨F', h1, fun k hk => ?_, hK.trans h3 hF1⟩
  rcases h2 k hk with h | h
  · exact hF1 k h
  · exact .inr (Nat.le_trans hK.size h)
/-- A cell of the net that is no list and no map has been written. -/
theorem net_lost {W : World} {base b : Nat} {F1 : Nat → Prop} {sk : NSt} {n : Int} (h : NetAt W base F1 b sk) : Net' W base F1 b { sk with lost := n } (W.setCell ⟨b, 2, none⟩ (.int .i64 n)) := by
  obtain ⟨h1, h2, vl, vs, hb, hR, hS, hm⟩ := h
  refine ⟨F1, ⟨h1, fun k hk => by have := h2 k hk; simpa [World.setCell] using this, vl, vs, blk_set hb 2 _, Kd.R_set hR hb (by simp [msgK, Mine.Kd.fixed]) 2 _, ?_, hm⟩, fun k hk => .inl hk, (Keep.refl _ _).setCell _ _ (.inl h1)⟩
  exact hS.keep (G := fun k => k = b) ((Keep.refl _ _).setCell _ _ (.inl rfl)) (fun k hk he => by subst he; exact map_typed hS hk hb)
theorem NetAt.drewN {w : World} {base b : Nat} {F : Nat → Prop} {s : NSt} (h : NetAt w base F b s) (n : Nat) : NetAt (w.drewN n) base F b s := h.keep (G := fun _ => False) ((Keep.refl _ w).drewN n) (fun _ _ h => h)
theorem NetAt.drew {w : World} {base b : Nat} {F : Nat → Prop} {s : NSt} (h : NetAt w base F b s) : NetAt w.drew base F b s := h.keep (G := fun _ => False) ((Keep.refl _ w).drew) (fun _ _ h => h)
/-- The net's own list has been appended to (at w', behind a call that makes memory alone), and stored back. -/
theorem net_appended {W2 w' w1 : World} {base b : Nat} {F1 : Nat → Prop} {sk : NSt} {vl vs v1 : Value} {l' : List Pm} (h1 : F1 b) (h2 : ∀ k, F1 k → base ≤ k ∧ k < W2.heap.size) (hb : W2.heap[b]? = some (.cells #[vl, vs, .int .i64 sk.lost] 52 (0, 0)))
    (hS : SideAt W2 vs sk.side) (hm : ∀ k, Value.mapBlock vs = some k → F1 k) (hRv : msgK.R 32 W2 base F1 vl sk.l) (hB : Below W2.heap.size W2 w') (hR : msgK.R 32 w1 base (fun k => F1 k ∨ W2.heap.size ≤ k) v1 l') (hg : w'.grownBy w1 vl.ownBlock) :
    Net' W2 base F1 b { sk with l := l' } (w1.setCell ⟨b, 0, none⟩ v1) := by
  have hbl := blk_lt hb
  have hne : some b ≠ vl.ownBlock := Kd.R_ne hRv hb (by decide)
  have hmap : ∀ k, Value.mapBlock vs = some k → vl.ownBlock ≠ some k := by
    intro k hk he
    obtain ⟨inner, ho⟩ := Kd.R_own hRv
    obtain ⟨cells, hcc⟩ := own_typed ho k he
    exact map_typed hS hk hcc
  have hb' : w'.heap[b]? = some (.cells #[vl, vs, .int .i64 sk.lost] 52 (0, 0)) := blk_below hb hB
  have hb1 : w1.heap[b]? = some (.cells #[vl, vs, .int .i64 sk.lost] 52 (0, 0)) := blk_grown hb' hg hne
  have hKg : Keep F1 W2 w1 := (Keep.of_below hB F1).trans (Keep.of_grown (F := fun k => vl.ownBlock = some k) hg (fun k hk => hk)) (fun k hk => .inl (hRv.1 k hk))
  have hK : Keep F1 W2 (w1.setCell ⟨b, 0, none⟩ v1) := hKg.setCell _ _ (.inl h1)
  have hsz : (w1.setCell ⟨b, 0, none⟩ v1).heap.size = w1.heap.size := by simp [World.setCell]
  refine ⟨fun k => (F1 k ∨ W2.heap.size ≤ k) ∧ k < w1.heap.size, ⟨⟨.inl h1, Nat.lt_of_lt_of_le hbl hKg.size⟩, ?_, v1, vs, blk_set hb1 0 v1, ?_, ?_, ?_⟩, fun k hk => hk.1, hK⟩
  · intro k hk
    refine ⟨?_, by rw [hsz]; exact hk.2⟩
    rcases hk.1 with h | h
    · exact (h2 k h).1
    · have := (h2 b h1).1; omega
  · have hR2 := Kd.R_mono (Kd.R_bound hR) (ok' := fun k => (F1 k ∨ W2.heap.size ≤ k) ∧ k < w1.heap.size) (fun k hk => ⟨hk.1, hk.2.2.1⟩)
    exact Kd.R_set hR2 hb1 (by simp [msgK, Mine.Kd.fixed]) 0 v1
  · refine (hS.keep (G := fun k => vl.ownBlock = some k) ((Keep.of_below hB _).trans (Keep.of_grown (F := fun k => vl.ownBlock = some k) hg (fun k hk => hk)) (fun k hk => .inl hk)) (fun k hk => hmap k hk)).keep (G := fun k => k = b) ((Keep.refl _ _).setCell _ _ (.inl rfl)) ?_
    intro k hk he
    subst he
    exact map_typed hS hk hb
  · intro k hk
    exact ⟨.inl (hm k hk), Nat.lt_of_lt_of_le (h2 k (hm k hk)).2 hKg.size⟩
theorem twin_lit (m : Pm) (w : World) : Calls Try.prog 20 #[.agg #[.int .i64 m.f, .int .i64 m.t, .int .i64 0, .int .i64 m.k, .int .i64 0, .int .i64 m.i, .int .i64 0, .int .i64 0, .bool false, .slice none 0 0, .slice none 0 0, .slice none 0 0, .slice none 0 0]] w fun e w' => e = .returned (.agg #[.int .i64 m.f, .int .i64 m.t, .int .i64 0, .int .i64 m.k, .int .i64 0, .int .i64 m.i, .int .i64 0, .int .i64 0, .bool false, .slice none 0 0, .slice none 0 0, .slice none 0 0, .slice none 0 0]) ∧ Below w.heap.size w w' := twin_any m w
set_option maxRecDepth 100000 in
set_option maxHeartbeats 1000000 in
theorem send_any (w : World) (base : Nat) (F : Nat → Prop) (b : Nat) (s : NSt) (A : Option Addr) (cap : Nat) (ms : List Pm) (h : NetAt w base F b s) (hr : msgK.C w A ms.length ms) (hA : ∀ ad, A = some ad → ¬ F ad.block)
    (hb1 : s.l.length + ms.length ≤ 100000) (hb2 : 0 ≤ s.lost) (hb3 : s.lost + ms.length ≤ 1000000) :
    Calls Try.prog 10 #[.pointer (some ⟨b, 0, none⟩), .slice A ms.length cap] w fun e w' => e = .returned (.tuple #[]) ∧ Net' w base F b (sendL s ms) w' := by
  have HR := Lib.hid hr
  have HN := Lib.hid h
  have HA := Lib.hid hA
  clear hr h hA
  go_enter Try.func10, Try.ntmps10
  go_wp2
  go_loopw [8] (fun i wr => ∃ k : Nat, k ≤ ms.length ∧ i = .int .i64 k ∧ Net' w base F b (sendL s (ms.take k)) wr) (fun i _ => ms.length - (intOf i).toNat)
  case atStart => exact ⟨0, by omega, rfl, F, HN.out, fun _ h => .inl h, Keep.refl _ _⟩
  case round =>
    obtain ⟨k, hk, rfl, HR1⟩ := hrel
    by_cases hlt : k < ms.length
    · obtain ⟨ad, cs, hAd, hcl, hK, hcell⟩ := Kd.C_get HR.out ⟨0, 0, 0, 0⟩ (k : Int) (by omega) (by omega)
      rw [Int.toNat_natCast] at hK hcell
      have hsn : RowKit.Hid (ms.take (k + 1) = ms.take k ++ [ms.getD k ⟨0, 0, 0, 0⟩]) := by
        rw [List.take_succ_eq_append_getElem hlt, List.getD_eq_getElem?_getD, List.getElem?_eq_getElem hlt]; rfl
      obtain ⟨m, hm⟩ : ∃ m, ms.getD k ⟨0, 0, 0, 0⟩ = m := ⟨_, rfl⟩
      rw [hm] at hK hsn
      have hbd := sendL_bounds s (ms.take k)
      rw [List.length_take] at hbd
      have hsd := sendL_side s (ms.take k)
      have hsk : RowKit.Hid (sendL s (ms.take (k + 1)) = send1 (sendL s (ms.take k)) m) := by rw [hsn, sendL_snoc]; rfl
      clear hsn
      generalize sendL s (ms.take k) = sk at *
      obtain ⟨F1, hN1, hF1, hK1⟩ := HR1
      have hAn := HA.out ad hAd
      subst hAd
      have hcs : cs = m.cells := hK
      subst hcs
      have hce : MsgCells wr (ad.add (k * 13)) m := msgCells_of fun j u hj => by rw [← addAdd]; exact hK1.cell (hcell j u hj) (by rw [add_block]; exact hAn)
      have HSN := hsk
      have HN1 := Lib.hid hN1
      have HF1 := Lib.hid hF1
      have HK1 := Lib.hid hK1
      clear hK hcell hcl hm hsk hN1 hF1 hK1 hAn
      generalize hea : ad.add (k * 13) = ea at *
      obtain ⟨q0, q1, q2, q3, q4, q5, q6, q7, q8, q9, q10, q11, q12⟩ := hce
      go_wp2_with fail
      generalize hW : wr.alloc _ = W
      have hK2 : Keep (fun _ => False) wr W := by rw [← hW]; exact (Keep.refl _ _).alloc _
      have hbox : W.heap[wr.heap.size]? = some (.cells m.cells.toArray 32 (0, 0)) := by rw [← hW]; exact heap_alloc_new wr _
      have hN2 := HN1.out.keep hK2 (fun _ _ h => h)
      have HN2 := Lib.hid hN2
      have HBOX := Lib.hid hbox
      have HK2 := Lib.hid hK2
      clear hW hbox hK2 hN2 hea q0 q1 q2 q3 q4 q5 q6 q7 q8 q9 q10 q11 q12
      refine (cut_any W base F1 b sk m HN2.out).mono ?_
      rintro e W2 ⟨rfl, hB2⟩
      have hK3 := Keep.of_below hB2 (fun _ => False)
      have HN3 := Lib.hid (HN2.out.keep hK3 (fun _ _ h => h))
      have HBOX3 := Lib.hid (hK3.blk HBOX.out (fun h => h))
      have HK3 := Lib.hid (HK2.out.trans hK3 (fun _ h => h.elim))
      clear hB2 hK3 HN2 HBOX HK2 HN1
      cases hcut : cutS sk.side m.f m.t
      · have HC := Lib.hid hcut
        clear hcut
        obtain ⟨n1, n2, vl, vs, n3, n4, n5, n6⟩ := HN3.out
        have hc : (W2.drew).cell? ⟨b, 0, none⟩ = some vl := blk_cell n3 0
        have hmc := msgCells_block HBOX3.out
        obtain ⟨q0, q1, q2, q3, q4, q5, q6, q7, q8, q9, q10, q11, q12⟩ := (show MsgCells W2.drew _ m from hmc)
        have hne : some b ≠ vl.ownBlock := Kd.R_ne n4 n3 (by decide)
        simp only [Nat.zero_add] at q1 q2 q3 q4 q5 q6 q7 q8 q9 q10 q11 q12
        have N3 := Lib.hid n3
        have N4 := Lib.hid n4
        have N5 := Lib.hid n5
        have NE := Lib.hid hne
        clear n3 n4 n5 hmc hne
        have hbd2 : sk.l.length ≤ 100000 := by have := hbd.1; omega
        go_wp2_with fail
        go_region_law (first
          | (refine Kd.R_append_step msgK (w0 := w') base (by rfl) _ _ 27 32 _ 168 (by rfl) Try.underlying27 Try.info32 (by rfl) (by decide) (by decide) vl sk.l m m.cells (fun k => F1 k ∨ W2.heap.size ≤ k) (fun _ => False) (by rfl) (by rfl) (by rfl) (fun _ h => h.elim) (fun k hk => .inr (Nat.le_trans HB'.out.size hk)) (Kd.R_mono (Kd.R_below N4.out HB'.out) (fun k hk => .inl hk)) (Below.refl _ _) (Nat.le_trans (Nat.le_trans (n2 b n1).1 (Nat.le_of_lt (n2 b n1).2)) HB'.out.size) (by omega) ?_
             intro v1 w1 hR1 hB1 hg1 hat1
             obtain ⟨A1, c1, rfl⟩ := Kd.R_slice hR1
             have hcc : w1.cell? ⟨b, 0, none⟩ = some vl := grown_cell hg1 (hcell') NE.out
             have hff : w1.frozen? ⟨b, 0, none⟩ = false := blk_frozen (blk_grown (blk_below N3.out HB'.out) hg1 NE.out) 0)
          | (go_simp; go_at_call 20; refine (twin_lit m _).mono ?_; rintro e w' ⟨rfl, hB⟩
             have HB' : RowKit.Hid (Below W2.heap.size W2 w') := ⟨hB.os, hB.tape, hB.output, hB.size, hB.block⟩
             have hcell' := pw_cell_below HB'.out hc
             have hcella : ∀ X, (w'.alloc X).cell? ⟨b, 0, none⟩ = some vl := fun X => blk_cell (blk_alloc (blk_below N3.out HB'.out) X) 0))
        all_goals
          clear q0 q1 q2 q3 q4 q5 q6 q7 q8 q9 q10 q11 q12
          have hn := net_appended n1 n2 N3.out N5.out n6 N4.out HB'.out hR1 hg1
          have HFIN := Lib.hid (Net'.after HF1.out (HK1.out.trans HK3.out (fun _ h => h.elim)) hn)
          clear hn hR1 hg1 hB1 hat1 hcc hff hcell' hcella hB HB'
          go_wp2
          go_roundw
          case rel =>
            refine ⟨k + 1, by omega, by simp, ?_⟩
            rw [HSN.out]
            unfold send1
            rw [HC.out]
            have := HFIN.out
            simp only [List.length_append, List.length_cons, List.length_nil] at this
            exact this
          case measure => simp [intOf]; omega
      · have HC := Lib.hid hcut
        clear hcut
        obtain ⟨n1, n2, vl, vs, n3, n4, n5, n6⟩ := HN3.out
        have hc := blk_cell n3 2
        have hf := blk_frozen n3 2
        have N3 := Lib.hid n3
        have N4 := Lib.hid n4
        have N5 := Lib.hid n5
        clear n3 n4 n5
        have HL := Lib.hid (net_lost (n := sk.lost + 1) HN3.out)
        go_wp2_with fail
        refine ⟨⟨k + 1, by omega, by simp, ?_⟩, by simp [intOf]; omega⟩
        rw [HSN.out]
        unfold send1
        rw [HC.out]
        exact Net'.after HF1.out (HK1.out.trans HK3.out (fun _ h => h.elim)) HL.out
    · obtain rfl : k = ms.length := by omega
      rw [List.take_length] at HR1
      go_wp2
      go_end0
      exact ⟨rfl, HR1⟩
end Go.Proofs.Ytepmnkelfaiapaa
