/- The walks of Deliver, Drop. -/
import Derived.Test.YtepmnkelfaiapaaSendW
import Derived.Test.YtepmnkelfaiapaaDelW
set_option linter.unusedVariables false
set_option linter.unusedSimpArgs false
namespace Go.Proofs.Ytepmnkelfaiapaa
open Go.RowKit Go.Proofs.YtepmnkelfaiapaaW.PrintWords Go.Proofs.Mine

def gotI (s : NSt) (k : Int) : Nat := (k % s.l.length).toNat
def got (s : NSt) (k : Int) : Option Pm := s.l[gotI s k]?
def dels (s : NSt) (k : Int) : NSt := { s with l := s.l.eraseIdx (gotI s k) }
theorem RowM.keep {w w1 : World} {G : Nat → Prop} {g cap : Nat} {l : List Pm} (h : RowM w g cap l) (k : Keep G w w1) (hg : ¬ G g) : RowM w1 g cap l := by
  obtain ⟨cur, h1, h2⟩ := h
  exact ⟨cur, k.blk h1 hg, h2⟩
theorem RowM.get {w : World} {g cap i : Nat} {l : List Pm} {m : Pm} (h : RowM w g cap l) (hm : l[i]? = some m) : MsgCells w ⟨g, i * 13, none⟩ m := by
  obtain ⟨cur, h1, h2, h3, h4, h5⟩ := h
  refine msgCells_of fun j u hj => ?_
  have he := flat_get (enc := Pm.cells) (n := 13) (fun _ => rfl) l i m hm
  rw [← h5] at he
  have : (⟨g, i * 13, none⟩ : Addr).add j = ⟨g, i * 13 + j, none⟩ := by unfold Addr.add; split <;> simp_all
  rw [this, blk_cell h1]
  have hu : (((cur.toList.take (l.length * 13)).drop (i * 13)).take 13)[j]? = some u := by rw [he]; exact hj
  rw [List.getElem?_take] at hu
  split at hu
  · rw [List.getElem?_drop, List.getElem?_take] at hu
    split at hu
    · simpa using hu
    · cases hu
  · cases hu
/-- A net, laid open, whose row is there. -/
theorem NetAt.open_ {w : World} {base b : Nat} {F : Nat → Prop} {s : NSt} (h : NetAt w base F b s) (hl : 0 < s.l.length) :
    ∃ g cap vs, w.heap[b]? = some (.cells #[.slice (some ⟨g, 0, none⟩) s.l.length cap, vs, .int .i64 s.lost] 52 (0, 0)) ∧ F g ∧ base ≤ g ∧ RowM w g cap s.l ∧ SideAt w vs s.side ∧ (∀ k, Value.mapBlock vs = some k → F k) ∧ b ≠ g := by
  obtain ⟨h1, h2, vl, vs, hb, hR, hS, hm⟩ := h
  have hne := Kd.R_ne hR hb (by decide)
  rcases fixR_iff.1 hR with ⟨_, hx⟩ | ⟨g, cap, cur, rfl, hg, hbase, hh, r1, r2, r3, r4⟩
  · rw [hx] at hl; cases hl
  · exact ⟨g, cap, vs, hb, hg, hbase, ⟨cur, hh, r1, r2, r3, r4⟩, hS, hm, fun e => hne (by rw [e]; rfl)⟩
/-- The row has been made shorter in place, and stored back. -/
theorem net_row {W w1 : World} {base b g cap : Nat} {F : Nat → Prop} {s : NSt} {vs : Value} {l' : List Pm} (h : NetAt W base F b s) (hb : W.heap[b]? = some (.cells #[.slice (some ⟨g, 0, none⟩) s.l.length cap, vs, .int .i64 s.lost] 52 (0, 0)))
    (hF : F g) (hr0 : RowM W g cap s.l) (hr : RowM w1 g cap l') (hk : Keep (fun k => k = g) W w1) (hbg : b ≠ g) :
    NetAt (w1.setCell ⟨b, 0, none⟩ (.slice (some ⟨g, 0, none⟩) l'.length cap)) base F b { s with l := l' } ∧ Keep F W (w1.setCell ⟨b, 0, none⟩ (.slice (some ⟨g, 0, none⟩) l'.length cap)) := by
  obtain ⟨h1, h2, vl', vs', hb', hR, hS, hm⟩ := h
  rw [hb] at hb'
  obtain ⟨rfl, rfl⟩ : .slice (some ⟨g, 0, none⟩) s.l.length cap = vl' ∧ vs = vs' := by simpa using hb'
  have hb1 := hk.blk hb hbg
  have hsz : ∀ u, (w1.setCell ⟨b, 0, none⟩ u).heap.size = w1.heap.size := fun u => by simp [World.setCell]
  obtain ⟨cur0, hh0, _⟩ := hr0
  have hmg : ∀ k, Value.mapBlock vs = some k → ¬ k = g := fun k hk' he => by subst he; exact map_typed hS hk' hh0
  have hmb : ∀ k, Value.mapBlock vs = some k → ¬ k = b := fun k hk' he => by subst he; exact map_typed hS hk' hb
  obtain ⟨cur, hh, r1, r2, r3, r4⟩ := hr
  have hkk : Keep (fun k => k = g ∨ k = b) W (w1.setCell ⟨b, 0, none⟩ (.slice (some ⟨g, 0, none⟩) l'.length cap)) := (hk.mono (fun k h _ => .inl h)).setCell _ _ (.inl (.inr rfl))
  refine ⟨⟨h1, fun k hk' => ⟨(h2 k hk').1, Nat.lt_of_lt_of_le (h2 k hk').2 hkk.size⟩, _, vs, blk_set hb1 0 _, fixR_iff.2 (.inr ⟨g, cap, cur, rfl, hF, (h2 g hF).1, ?_, r1, r2, r3, r4⟩), hS.keep hkk (fun k hk' hc => by rcases hc with hc | hc; exact hmg k hk' hc; exact hmb k hk' hc), hm⟩, hkk.mono (fun k h _ => by rcases h with rfl | rfl; exact hF; exact h1)⟩
  exact blk_far hh (p := ⟨b, 0, none⟩) (fun e => hbg e.symm) _
theorem blk_store13 {W : World} {n : Nat} (h : W.heap[n]? = some (.cells (⟨0, 0, 0, 0⟩ : Pm).cells.toArray 32 (0, 0))) (m : Pm) :
    (((((((((((((W.setCell ⟨n, 0, none⟩ (.int .i64 m.f)).setCell ⟨n, 1, none⟩ (.int .i64 m.t)).setCell ⟨n, 2, none⟩ (.int .i64 0)).setCell ⟨n, 3, none⟩ (.int .i64 m.k)).setCell ⟨n, 4, none⟩ (.int .i64 0)).setCell ⟨n, 5, none⟩ (.int .i64 m.i)).setCell ⟨n, 6, none⟩ (.int .i64 0)).setCell ⟨n, 7, none⟩ (.int .i64 0)).setCell ⟨n, 8, none⟩ (.bool false)).setCell ⟨n, 9, none⟩ (.slice none 0 0)).setCell ⟨n, 10, none⟩ (.slice none 0 0)).setCell ⟨n, 11, none⟩ (.slice none 0 0)).setCell ⟨n, 12, none⟩ (.slice none 0 0)).heap[n]? = some (.cells m.cells.toArray 32 (0, 0)) := by
  have e : ∀ (cs cs' : Array Value) (W : World), W.heap[n]? = some (.cells cs 32 (0, 0)) → cs = cs' → W.heap[n]? = some (.cells cs' 32 (0, 0)) := fun _ _ _ h e => e ▸ h
  have h0 := blk_set h 0 (.int .i64 m.f)
  have h1 := blk_set h0 1 (.int .i64 m.t)
  have h2 := blk_set h1 2 (.int .i64 0)
  have h3 := blk_set h2 3 (.int .i64 m.k)
  have h4 := blk_set h3 4 (.int .i64 0)
  have h5 := blk_set h4 5 (.int .i64 m.i)
  have h6 := blk_set h5 6 (.int .i64 0)
  have h7 := blk_set h6 7 (.int .i64 0)
  have h8 := blk_set h7 8 (.bool false)
  have h9 := blk_set h8 9 (.slice none 0 0)
  have h10 := blk_set h9 10 (.slice none 0 0)
  have h11 := blk_set h10 11 (.slice none 0 0)
  have h12 := blk_set h11 12 (.slice none 0 0)
  exact e _ _ _ h12 (by apply Array.toList_inj.1; simp [Pm.cells])
theorem res12 (t : Array Value) (W : World) (n : Nat) (m : Pm) (h4 : t[4]?.getD undef = .pointer (some ⟨n, 0, none⟩)) (h5 : t[5]?.getD undef = .int .i64 0) (hW : W.heap[n]? = some (.cells m.cells.toArray 32 (0, 0))) : (results Try.f12 t).run Try.prog W = .ok (.tuple #[mval m, .int .i64 0]) W := by
  obtain ⟨q0, q1, q2, q3, q4, q5, q6, q7, q8, q9, q10, q11, q12⟩ := msgCells_block hW
  simp only [Nat.zero_add] at q1 q2 q3 q4 q5 q6 q7 q8 q9 q10 q11 q12
  simp [results, Try.results12, go_sem, mval, h4, h5, q0, q1, q2, q3, q4, q5, q6, q7, q8, q9, q10, q11, q12]
def gotV (s : NSt) (k : Int) : Value := match got s k with | none => .tuple #[mval ⟨0, 0, 0, 0⟩, .int .i64 2] | some m => .tuple #[mval m, .int .i64 0]
set_option maxRecDepth 100000 in
set_option maxHeartbeats 2000000 in
theorem deliver_any (w : World) (base : Nat) (F : Nat → Prop) (b : Nat) (s : NSt) (k : Int) (h : NetAt w base F b s) (hl2 : s.l.length < 1000000) :
    Calls Try.prog 12 #[.pointer (some ⟨b, 0, none⟩), .int .i64 k] w fun e w' => e = .returned (gotV s k) ∧ Net' w base F b (dels s k) w' := by
  by_cases hl : s.l.length = 0
  · have hnil : s.l = [] := List.eq_nil_of_length_eq_zero hl
    have HF : RowKit.Hid (∀ w', Keep (fun _ => False) w w' → Net' w base F b (dels s k) w') := by
      intro w' hk
      have : dels s k = s := by cases s; simp at hnil; subst hnil; simp [dels]
      rw [this]
      exact ⟨F, h.keep hk (fun _ _ h => h), fun _ h => .inl h, hk.mono (fun _ h _ => h.elim)⟩
    have hgv : gotV s k = .tuple #[mval ⟨0, 0, 0, 0⟩, .int .i64 2] := by unfold gotV got; simp [hnil]
    rw [hgv]
    obtain ⟨h1, h2, vl, vs, hb, hR, hS, hm⟩ := h
    obtain ⟨A, c, rfl⟩ := Kd.R_slice hR
    rw [hl] at hb
    have hc : ∀ o, (w.alloc o).cell? ⟨b, 0, none⟩ = some (.slice A 0 c) := fun o => blk_cell (blk_alloc hb o) 0
    have HB := Lib.hid hb
    have hbn : ¬ w.heap.size = b := by have := blk_lt hb; omega
    clear hb hR hS h1 h2 hm
    go_enter Try.func12, Try.ntmps12
    go_wp2_with fail
    exact bodyPost_ret (v := .tuple #[mval ⟨0, 0, 0, 0⟩, .int .i64 2]) (by simp [results, Try.results12, go_sem, mval]) rfl ⟨rfl, HF.out _ ((Keep.refl _ w).alloc _)⟩
  · obtain ⟨i, hi⟩ : ∃ i : Nat, k % (s.l.length : Int) = (i : Int) := ⟨(k % (s.l.length : Int)).toNat, by have := Int.emod_nonneg k (show (s.l.length : Int) ≠ 0 by omega); omega⟩
    have hil : i < s.l.length := by have := Int.emod_lt_of_pos k (show (0 : Int) < s.l.length by omega); omega
    have hgi : gotI s k = i := by unfold gotI; rw [hi]; simp
    obtain ⟨m, hm⟩ : ∃ m, s.l[i]? = some m := ⟨_, List.getElem?_eq_getElem hil⟩
    have hgv : gotV s k = .tuple #[mval m, .int .i64 0] := by unfold gotV got; rw [hgi, hm]
    have hds : dels s k = { s with l := s.l.eraseIdx i } := by unfold dels; rw [hgi]
    rw [hgv, hds]
    obtain ⟨g, cap, vs, hb, hFg, hbase, hrow, hS, hmb, hbg⟩ := h.open_ (by omega)
    have H := Lib.hid h
    have HB := Lib.hid hb
    have HR := Lib.hid hrow
    have hL : (s.l.length == 0) = false := by simpa using hl
    clear h hb hrow hS hmb
    generalize hLL : s.l.length = L at *
    have hc : ∀ o, (w.alloc o).cell? ⟨b, 0, none⟩ = some (.slice (some ⟨g, 0, none⟩) L cap) := fun o => blk_cell (blk_alloc HB.out o) 0
    go_enter Try.func12, Try.ntmps12
    go_wp2_with fail
    generalize hW : w.alloc _ = W
    have hK1 : Keep (fun _ => False) w W := by rw [← hW]; exact (Keep.refl _ w).alloc _
    have hz1 : W.heap.size = w.heap.size + 1 := by rw [← hW]; simp
    have hZ1 : W.heap[w.heap.size]? = some (.cells (⟨0, 0, 0, 0⟩ : Pm).cells.toArray 32 (0, 0)) := by rw [← hW]; exact heap_alloc_new w _
    refine (at_any W base F b s k (H.out.keep hK1 (fun _ _ h => h)) (by omega) (by omega)).mono ?_
    rintro e W2 ⟨rfl, nq, hW2⟩
    have hK2 : Keep (fun _ => False) w W2 := by rw [hW2]; exact hK1.drewN nq
    have hZ2 : W2.heap[w.heap.size]? = some (.cells (⟨0, 0, 0, 0⟩ : Pm).cells.toArray 32 (0, 0)) := by rw [hW2]; exact hZ1
    have hz2 : W2.heap.size = w.heap.size + 1 := by rw [hW2]; exact hz1
    clear hW hW2 hK1 hz1 hZ1 hc
    have hB2 := hK2.blk HB.out (fun h => h)
    have hR2 := HR.out.keep hK2 (fun h => h)
    have hN2 := H.out.keep hK2 (fun _ _ h => h)
    have hc2 := blk_cell hB2 0
    have hc3 : ∀ o, (W2.alloc o).cell? ⟨b, 0, none⟩ = some (.slice (some ⟨g, 0, none⟩) L cap) := fun o => blk_cell (blk_alloc hB2 o) 0
    obtain ⟨q0, q1, q2, q3, q4, q5, q6, q7, q8, q9, q10, q11, q12⟩ := hR2.get hm
    have hbl := blk_lt HB.out
    have hgl : g < w.heap.size := (H.out.2.1 g hFg).2
    have HK2 := Lib.hid hK2
    have HB2 := Lib.hid hB2
    have HR2 := Lib.hid hR2
    have HN2 := Lib.hid hN2
    have HZ2 := Lib.hid hZ2
    clear hK2 hB2 hR2 hN2 hZ2
    rw [hLL, hi]
    simp only []
    go_wp2_with fail
    generalize hW3 : W2.alloc _ = W3
    have hK3 : Keep (fun _ => False) W2 W3 := by rw [← hW3]; exact (Keep.refl _ W2).alloc _
    have hz3 : W3.heap.size = w.heap.size + 2 := by rw [← hW3]; simp [hz2]
    have hM3 : W3.heap[W2.heap.size]? = some (.cells m.cells.toArray 32 (0, 0)) := by rw [← hW3]; exact heap_alloc_new W2 _
    clear hW3 q0 q1 q2 q3 q4 q5 q6 q7 q8 q9 q10 q11 q12 hc2 hc3
    have hR3 := HR2.out.keep hK3 (fun h => h)
    have hd := delete_any W3 g cap i s.l (by omega) (by omega) hR3
    rw [hLL] at hd
    refine hd.mono ?_
    rintro e W4 ⟨rfl, hR4, hK4, hz4⟩
    have hB3 := hK3.blk HB2.out (fun h => h)
    have hN3 := HN2.out.keep hK3 (fun _ _ h => h)
    have hlen : (s.l.eraseIdx i).length = L - 1 := by rw [List.length_eraseIdx_of_lt (by omega), hLL]
    have hfin := net_row hN3 (by rw [hLL]; exact hB3) hFg hR3 hR4 hK4 hbg
    rw [hlen] at hfin
    have hB4 := hK4.blk hB3 hbg
    have hM4 := hK4.blk hM3 (by show ¬ W2.heap.size = g; omega)
    rw [hz2] at hM4
    have hZ4 := hK4.blk (hK3.blk HZ2.out (fun h => h)) (by show ¬ w.heap.size = g; omega)
    have HFIN := Lib.hid (And.intro hfin.1 ((((HK2.out.trans hK3 (fun _ h => h.elim)).mono (fun _ h _ => h.elim)).trans hfin.2 (fun _ h => .inl h) : Keep F w _)))
    have hc4 := blk_cell hB4 0
    have hf4 := blk_frozen hB4 0
    obtain ⟨q0, q1, q2, q3, q4, q5, q6, q7, q8, q9, q10, q11, q12⟩ := msgCells_block hM4
    obtain ⟨z0, z1, z2, z3, z4, z5, z6, z7, z8, z9, z10, z11, z12⟩ := msgCells_block hZ4
    have hfz := blk_frozen hZ4
    simp only [Nat.zero_add] at q1 q2 q3 q4 q5 q6 q7 q8 q9 q10 q11 q12 z1 z2 z3 z4 z5 z6 z7 z8 z9 z10 z11 z12
    have hn1 : ¬ w.heap.size + 1 = b := by omega
    have hn2 : ¬ w.heap.size = b := by omega
    clear hd hR3 hB3 hN3 hfin hB4 hM4 hM3 hR4 hK4 hK3
    go_wp2_with fail
    refine bodyPost_ret (v := .tuple #[mval m, .int .i64 0]) (res12 _ _ w.heap.size m rfl rfl ?_) rfl ⟨rfl, ?_⟩
    · have hZ5 := blk_far hZ4 (p := ⟨b, 0, none⟩) (by exact fun e => hn2 e) (.slice (some ⟨g, 0, none⟩) (L - 1) cap)
      exact blk_store13 hZ5 m
    generalize W4.setCell ⟨b, 0, none⟩ _ = W5 at HFIN ⊢
    have hk : ∀ W', Keep (fun k => k = w.heap.size) W5 W' → Net' w base F b { s with l := s.l.eraseIdx i } W' := by
      intro W' hk
      exact ⟨F, HFIN.out.1.keep hk (fun j hj e => by have := (H.out.2.1 j hj).2; omega), fun _ h => .inl h, HFIN.out.2.trans hk (fun j e => .inr (by omega))⟩
    refine hk _ ?_
    iterate 13 refine Keep.setCell ?_ _ _ (.inl rfl)
    exact Keep.refl _ _
end Go.Proofs.Ytepmnkelfaiapaa
