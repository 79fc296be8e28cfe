/- The walk of Cut. -/
import Derived.Test.YtepmnkelfaiapaaDelFW
import Derived.Carry
set_option linter.unusedVariables false
set_option linter.unusedSimpArgs false
namespace Go.Proofs.Ytepmnkelfaiapaa
open Go.RowKit Go.Proofs.YtepmnkelfaiapaaW.PrintWords Go.Proofs.Mine

def sideOf (l : List Int) : Int → Bool := fun x => decide (x ∈ l)
def cutL (s : NSt) (side : List Int) : NSt := { l := s.l.filter (stays { s with side := some (sideOf side) }), side := some (sideOf side), lost := s.lost + ((s.l.length : Int) - ((s.l.filter (stays { s with side := some (sideOf side) })).length : Int)) }
theorem stays_side (s : NSt) (l : List Pm) (n : Int) : stays { s with l := l, lost := n } = stays s := rfl
theorem cells_no_map {w : World} {B k t : Nat} {es : Array MapEntry} {c : Nat} {cells : Array Value} (hm : w.heap[B]? = some (.map es c)) (hb : w.heap[k]? = some (.cells cells t (0, 0))) : k ≠ B := by
  rintro rfl
  rw [hm] at hb; cases hb
/-- The net's map has been written. -/
theorem net_mapset {W w1 : World} {base b B : Nat} {F : Nat → Prop} {s : NSt} {vl : Value} {g' : Int → Bool} (h : NetAt W base F b s) (hb : W.heap[b]? = some (.cells #[vl, .map (some B), .int .i64 s.lost] 52 (0, 0))) (hB : ∃ es c, W.heap[B]? = some (.map es c))
    (hm : MapI Value.bool w1 B (fun x => if g' x then some true else none)) (hk : Keep (fun k => k = B) W w1) : NetAt w1 base F b { s with side := some g' } := by
  obtain ⟨h1, h2, vl', vs', hb', hR, hS, hmb⟩ := h
  rw [hb] at hb'
  obtain ⟨rfl, rfl⟩ : vl = vl' ∧ .map (some B) = vs' := by simpa using hb'
  obtain ⟨es, c, hBm⟩ := hB
  have hR1 := Kd.R_mono (Kd.R_bound hR) (ok' := fun k => F k ∧ k ≠ B) (fun k hk => ⟨hk.1, by
    obtain ⟨_, _, _, q, hq, cells, hc⟩ := hk
    exact cells_no_map hBm hc⟩)
  exact ⟨h1, fun k hk' => ⟨(h2 k hk').1, Nat.lt_of_lt_of_le (h2 k hk').2 hk.size⟩, vl, _, hk.blk hb (cells_no_map hBm hb), Kd.R_mono (hk.R hR1 (fun k hk' => hk'.2)) (fun _ hk' => hk'.1), ⟨B, rfl, hm⟩, hmb⟩
/-- A new map is laid into the net. -/
theorem net_newmap {w : World} {base b : Nat} {F : Nat → Prop} {s : NSt} (h : NetAt w base F b s) :
    NetAt ((w.alloc (.map #[] 0)).setCell ⟨b, 1, none⟩ (.map (some w.heap.size))) base (fun k => F k ∨ k = w.heap.size) b { s with side := some (fun _ => false) } ∧ Keep F w ((w.alloc (.map #[] 0)).setCell ⟨b, 1, none⟩ (.map (some w.heap.size))) := by
  obtain ⟨h1, h2, vl, vs, hb, hR, hS, hm⟩ := h
  have hbl := blk_lt hb
  have hsz : ((w.alloc (.map #[] 0)).setCell ⟨b, 1, none⟩ (.map (some w.heap.size))).heap.size = w.heap.size + 1 := by simp [World.setCell]
  have hb1 := blk_alloc hb (.map #[] 0)
  have hR1 := hR
  have hk1 : Keep (fun _ => False) w (w.alloc (.map #[] 0)) := (Keep.refl _ w).alloc _
  have hR2 := Kd.R_set (hk1.R hR (fun _ _ h => h)) hb1 (by simp [msgK, Mine.Kd.fixed]) 1 (.map (some w.heap.size))
  have hmp : MapI (α := Bool) Value.bool ((w.alloc (.map #[] 0)).setCell ⟨b, 1, none⟩ (.map (some w.heap.size))) w.heap.size (fun _ => none) :=
    (MapI.new w).move (Below.heap_setCell _ _ _ _ (by show w.heap.size ≠ b; omega))
  refine ⟨⟨.inl h1, fun k hk => ?_, vl, .map (some w.heap.size), blk_set hb1 1 _, Kd.R_mono hR2 (fun _ h => .inl h), ⟨w.heap.size, rfl, by simpa using hmp⟩, fun k hk => .inr (by simpa [Value.mapBlock] using hk.symm)⟩, ((Keep.refl F w).alloc _).setCell _ _ (.inl h1)⟩
  rw [hsz]
  rcases hk with hk | rfl
  · have := h2 k hk; omega
  · have := (h2 b h1).1; omega
theorem upd_side (g : Int → Bool) (x : Int) : updI (fun y => if g y then some true else none) x true = fun y => if (fun z => decide (z = x) || g z) y then some true else none := by
  funext y
  unfold updI
  by_cases h : y = x <;> simp [h]
theorem sideOf_snoc (l : List Int) (x : Int) : sideOf (l ++ [x]) = fun z => decide (z = x) || sideOf l z := by
  funext z
  simp [sideOf, Bool.or_comm]
set_option maxHeartbeats 400000 in
theorem delFunc_nil (w : World) (base : Nat) (F : Nat → Prop) (b : Nat) (s : NSt) (h : NetAt w base F b s) (A : Option Addr) (cap : Nat) :
    Calls Try.prog 23 #[.slice A 0 cap, .func (.func 19) #[.pointer (some ⟨b, 0, none⟩)] #[]] w fun e w' => e = .returned (.slice A 0 cap) ∧ Below w.heap.size w w' := by
  have hix := Lib.hid (index_any w base F b s 0 cap [] h A (fun h => absurd h (by simp)) (by decide))
  have hci : cutIdx s [] = -1 := rfl
  clear h
  go_enter Try.func23, Try.ntmps23
  go_wp2_with (go_at_call 26; refine hix.out.mono ?_; rintro e w1 ⟨rfl, hB⟩; rw [hci]; have HB1 := Lib.hid hB; clear hB)
  go_ret
  exact ⟨rfl, HB1.out⟩
theorem net_same {W : World} {base b : Nat} {F : Nat → Prop} {s : NSt} {vl vs : Value} (h : NetAt W base F b s) (hb : W.heap[b]? = some (.cells #[vl, vs, .int .i64 s.lost] 52 (0, 0))) : NetAt (W.setCell ⟨b, 0, none⟩ vl) base F b s := by
  obtain ⟨h1, h2, vl', vs', hb', hR, hS, hm⟩ := h
  rw [hb] at hb'
  obtain ⟨rfl, rfl⟩ : vl = vl' ∧ vs = vs' := by simpa using hb'
  refine ⟨h1, fun k hk => by have := h2 k hk; simpa [World.setCell] using this, vl, vs, blk_set hb 0 vl, Kd.R_set hR hb (by simp [msgK, Mine.Kd.fixed]) 0 _, ?_, hm⟩
  exact hS.keep (G := fun k => k = b) ((Keep.refl _ _).setCell _ _ (.inl rfl)) (fun k hk he => by subst he; exact map_typed hS hk hb)
theorem delF_any (W : World) (base : Nat) (F : Nat → Prop) (b : Nat) (s : NSt) (A : Option Addr) (c : Nat) (vs : Value) (h : NetAt W base F b s) (hb : W.heap[b]? = some (.cells #[.slice A s.l.length c, vs, .int .i64 s.lost] 52 (0, 0))) (hl : s.l.length < 1000000) :
    Calls Try.prog 23 #[.slice A s.l.length c, .func (.func 19) #[.pointer (some ⟨b, 0, none⟩)] #[]] W fun e w' => ∃ A2 c2, e = .returned (.slice A2 (s.l.filter (stays s)).length c2) ∧ NetAt (w'.setCell ⟨b, 0, none⟩ (.slice A2 (s.l.filter (stays s)).length c2)) base F b { s with l := s.l.filter (stays s) } ∧ Keep F W w' ∧ w'.heap[b]? = W.heap[b]? := by
  by_cases h0 : s.l.length = 0
  · have hnil : s.l = [] := List.eq_nil_of_length_eq_zero h0
    have he : s.l.filter (stays s) = [] := by rw [hnil]; rfl
    have hs : ({ s with l := [] } : NSt) = s := by rw [← hnil]
    rw [h0, he, hs]
    refine (delFunc_nil W base F b s h A c).mono ?_
    rintro e w' ⟨rfl, hB⟩
    have hk := Keep.of_below hB (fun _ => False)
    have hb' := hk.blk hb (fun h => h)
    rw [h0] at hb'
    rw [hb, h0]
    exact ⟨A, c, rfl, net_same (h.keep hk (fun _ _ h => h)) hb', hk.mono (fun _ h _ => h.elim), hb'⟩
  · obtain ⟨g, cap, vs', hb', hF, hbase, hrow, hS, hm, hbg⟩ := h.open_ (by omega)
    have hbc := hb
    rw [hb'] at hbc
    obtain ⟨⟨rfl, rfl⟩, rfl⟩ : (some ⟨g, 0, none⟩ = A ∧ cap = c) ∧ vs' = vs := by simpa using hbc
    refine (delFunc_any W base F b s g cap vs' h hb hF hrow hbg hl).mono ?_
    rintro e w' ⟨rfl, hR2, hK⟩
    have hn := net_row h hb hF hrow hR2 hK hbg
    exact ⟨_, _, rfl, hn.1, hK.mono (fun k hk _ => by subst hk; exact hF), by rw [hK.blk hb hbg, hb]⟩
set_option maxRecDepth 100000 in
set_option maxHeartbeats 2000000 in
theorem netCut_any (w : World) (base : Nat) (F : Nat → Prop) (b : Nat) (s : NSt) (A : Option Addr) (cap : Nat) (side : List Int) (h : NetAt w base F b s) (hr : ReadsInt w .i64 A side.length side) (hA : ∀ ad, A = some ad → 0 < side.length → ¬ F ad.block)
    (hl : s.l.length < 1000000) (h0 : 0 ≤ s.lost) (h1 : s.lost < 100000000) :
    Calls Try.prog 16 #[.pointer (some ⟨b, 0, none⟩), .slice A side.length cap] w fun e w' => e = .returned (.tuple #[]) ∧ Net' w base F b (cutL s side) w' := by
  have H := Lib.hid h
  have HR := Lib.hid hr
  have HA := Lib.hid hA
  obtain ⟨n1, n2, vl, vs, n3, n4, n5, n6⟩ := h
  have hc := fun o => blk_cell (blk_alloc n3 o) 1
  have hf := fun o => blk_frozen (blk_alloc n3 o) 1
  have hmx := hr.2.1
  clear hr hA n1 n2 n3 n4 n5 n6
  have hmm := @run_makeMap Try.prog 50 w
  go_enter Try.func16, Try.ntmps16
  go_wp2
  go_loopw [13] (fun iv wr => ∃ k : Nat, k ≤ side.length ∧ iv = .int .i64 k ∧ NetAt wr base (fun k => F k ∨ k = w.heap.size) b { s with side := some (sideOf (side.take k)) } ∧ Keep F w wr) (fun iv _ => side.length - (intOf iv).toNat)
  case atStart => exact ⟨0, by omega, rfl, (net_newmap H.out).1, (net_newmap H.out).2⟩
  case round =>
    obtain ⟨k, hk, rfl, hN, hK⟩ := hrel
    have HK := Lib.hid hK
    by_cases hlt : k < side.length
    · obtain ⟨ad, rfl, hcell⟩ := HR.out.at_ k (by omega) (by omega)
      have hcell1 := hK.cell hcell (by rw [add_block]; exact HA.out ad rfl (by omega))
      rw [Int.toNat_natCast] at hcell1
      have hx : rd side k = side[k] := by simp [rd, hlt]
      have htake : side.take (k + 1) = side.take k ++ [rd side k] := by rw [List.take_succ_eq_append_getElem hlt, hx]
      generalize rd side k = x at *
      have hsn := sideOf_snoc (side.take k) x
      rw [← htake] at hsn
      have HN := Lib.hid hN
      obtain ⟨n1, n2, vl, vs, n3, n4, n5, n6⟩ := hN
      obtain ⟨B, rfl, hm⟩ := n5
      obtain ⟨w1, hrun, hm1, hk1, hz1⟩ := hm.update Try.underlying50 Try.underlying3 x true
      rw [upd_side, ← hsn] at hm1
      have hN1 := net_mapset HN.out n3 (by obtain ⟨es, c, h, _⟩ := hm; exact ⟨es, c, h⟩) hm1 hk1
      have hK1 : Keep F w w1 := hK.trans hk1 (fun j hj => by rw [hj]; rcases n6 _ rfl with h | h; exact .inl h; exact .inr (by omega))
      have hc1 := blk_cell n3 1
      have HN1 := Lib.hid hN1
      have HK1 := Lib.hid hK1
      clear hcell hK hx htake hsn n1 n2 n3 n4 n6 hm hm1 hk1 hN1 hK1 HN
      go_wp2
      exact ⟨⟨k + 1, by omega, by simp, HN1.out, HK1.out⟩, by simp [intOf]; omega⟩
    · obtain rfl : k = side.length := by omega
      rw [List.take_length] at hN
      have HN := Lib.hid hN
      obtain ⟨n1, n2, vl, vs, n3, n4, n5, n6⟩ := hN
      obtain ⟨A0, c0, rfl⟩ := Kd.R_slice n4
      have hdf := Lib.hid (delF_any wr base _ b _ A0 c0 vs HN.out n3 hl)
      have hbl := blk_lt n3
      have hcc := blk_cell n3 0
      have N3 := Lib.hid n3
      have hle : (s.l.filter (stays { s with side := some (sideOf side) })).length ≤ s.l.length := List.length_filter_le _ _
      have hcl : cutL s side = { l := s.l.filter (stays { s with side := some (sideOf side) }), side := some (sideOf side), lost := s.lost + ((s.l.length : Int) - ((s.l.filter (stays { s with side := some (sideOf side) })).length : Int)) } := rfl
      have HCL := Lib.hid hcl
      simp only [] at hdf hcc
      generalize s.l.filter (stays { s with side := some (sideOf side) }) = l2 at *
      generalize hLL : s.l.length = L at *
      generalize hL2 : l2.length = L2 at *
      clear n1 n2 n3 n4 n5 n6 hcl hK
      go_wp2_with (go_at_call 23; refine hdf.out.mono ?_; rintro e w2 ⟨A2, c2, rfl, hN2, hK2, hbb⟩
                   have n3 := N3.out
                   rw [← hbb] at n3
                   have hc20 := blk_cell n3 0
                   have hf20 := blk_frozen n3 0
                   have hc22 := blk_cell n3 2
                   have hf22 := blk_frozen n3 2
                   have N4 := Lib.hid n3
                   have HN2 := Lib.hid hN2
                   have HK2 := Lib.hid hK2
                   clear hN2 hK2 hbb n3)
      have n5 := blk_set N4.out 0 (.slice A2 L2 c2)
      have hk3 : Keep F w (w2.setCell ⟨b, 0, none⟩ (.slice A2 L2 c2)) := by
        refine Keep.setCell ?_ _ _ (.inl (H.out.1))
        refine HK.out.trans HK2.out (fun k hk => ?_)
        rcases hk with h | h
        · exact .inl h
        · exact .inr (by omega)
      clear hc20 hf20 hc22 hf22 N4
      generalize hW3 : w2.setCell ⟨b, 0, none⟩ (.slice A2 L2 c2) = W3 at *
      have hc0 : W3.drew.cell? ⟨b, 0, none⟩ = some (.slice A2 L2 c2) := blk_cell n5 0
      have hc2 : W3.drew.cell? ⟨b, 2, none⟩ = some (.int .i64 s.lost) := blk_cell n5 2
      have hf2 : W3.drew.frozen? ⟨b, 2, none⟩ = false := blk_frozen n5 2
      have hw1 : IntKind.i64.wrap ((L : Int) - (L2 : Int)) = (L : Int) - (L2 : Int) := IntWalk.i64_in _ (by omega)
      have hw2 : IntKind.i64.wrap (s.lost + ((L : Int) - (L2 : Int))) = s.lost + ((L : Int) - (L2 : Int)) := IntWalk.i64_in _ (by omega)
      clear hW3 n5
      go_region_law (fail)
      all_goals
        go_wp2
        go_end0
        refine ⟨rfl, ?_⟩
        rw [HCL.out]
        exact Net'.after (fun k hk => by rcases hk with h | h; exact .inl h; exact .inr (by omega)) hk3.drew (net_lost (n := s.lost + ((L : Int) - (L2 : Int))) HN2.out.drew)
end Go.Proofs.Ytepmnkelfaiapaa
