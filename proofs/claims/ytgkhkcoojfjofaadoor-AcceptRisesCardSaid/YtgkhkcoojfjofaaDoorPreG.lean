/- Prepare, Accept in general. -/
import Derived.Test.YtgkhkcoojfjofaaDoorVotG
set_option linter.unusedVariables false
set_option linter.unusedSimpArgs false
namespace Go.Proofs.YtgkhkcoojfjofaaDoor
open Go.RowKit Go.Shelf Go.Proofs.YtgkhkcoojfjofaaDoorW.PrintWords Go.Proofs.Mine

/-- The votes from a slot on. -/
def fromF (f : Int → Option Vh) (fr : Int) : Int → Option Vh := fun y => if fr ≤ y then f y else none
theorem told_from {f : Int → Option Vh} {fr : Int} {hv : List Vh} (h : Told f (hv.map Vh.vo)) : Told (fromF f fr) ((hv.filter (keepS fr)).map Vh.vo) := by
  obtain ⟨h1, h2⟩ := h
  have hk : ∀ x : Vh, keepS fr x = true ↔ fr ≤ x.s := fun x => by unfold keepS; simp
  refine ⟨?_, fun v => ⟨fun hv' => ?_, fun hv' => ?_⟩⟩
  · rw [List.pairwise_map] at h1 ⊢
    exact h1.sublist (List.filter_sublist)
  · obtain ⟨x, hx, rfl⟩ := List.mem_map.1 hv'
    obtain ⟨hx1, hx2⟩ := List.mem_filter.1 hx
    obtain ⟨z, hz, he⟩ := (h2 x.vo).1 (List.mem_map.2 ⟨x, hx1, rfl⟩)
    refine ⟨z, ?_, he⟩
    unfold fromF
    rw [if_pos (show fr ≤ x.vo.s from (hk x).1 hx2)]
    exact hz
  · obtain ⟨z, hz, rfl⟩ := hv'
    unfold fromF at hz
    by_cases e : fr ≤ z.vo.s
    · rw [if_pos e] at hz
      have h3 := (h2 z.vo).2 ⟨z, hz, rfl⟩
      obtain ⟨x, hx, he⟩ := List.mem_map.1 h3
      refine List.mem_map.2 ⟨x, List.mem_filter.2 ⟨hx, (hk x).2 ?_⟩, he⟩
      have : x.vo.s = z.vo.s := by rw [he]
      have e2 : x.s = z.vo.s := this
      omega
    · rw [if_neg e] at hz
      cases hz
def prpE (p n : Int) : Int := if n < 1 then 1 else if n < p then 19 else 0
def accE (p n s : Int) : Int := if s < 1 ∨ 64 < s then 1 else prpE p n
theorem keep_low {lo : Nat} {w w1 : World} (h : Below lo w w1) : Keep (fun k => lo ≤ k) w w1 := ⟨h.os, h.tape, h.output, h.size, fun k hk hn => h.block k (by omega)⟩
theorem del_tells {W : World} {lo g : Nat} {v : Value} {hv : List Vh} {f : Int → Option Vh} {fr : Int} (h : TellsAt W lo v hv) (ht : Told f (hv.map Vh.vo)) (hq : W.cell? ⟨g, 0, none⟩ = some (.int .i64 fr)) (hg : g < lo) (hlo : lo ≤ W.heap.size) :
    Calls Tryd.prog 27 #[v, .func (.func 28) #[] #[.pointer (some ⟨g, 0, none⟩)]] W fun r w' => ∃ v' hv', r = .returned v' ∧ TellsAt w' lo v' hv' ∧ Told (fromF f fr) (hv'.map Vh.vo) ∧ Below lo W w' := by
  have h0 := h
  obtain ⟨k1, k2, h3⟩ := h
  rcases h3 with ⟨rfl, rfl⟩ | ⟨g3, c3, rfl, hlo3, hrow, hin⟩
  · refine (del_none _ W).mono ?_
    rintro r W4 ⟨rfl, rfl⟩
    exact ⟨_, [], rfl, h0, told_from (fr := fr) ht, Below.refl _ W⟩
  · refine (vdel_any W g fr hq g3 c3 hv hrow (by omega) (by omega)).mono ?_
    rintro r W4 ⟨rfl, hrow4, hk4⟩
    exact ⟨_, hv.filter (keepS fr), rfl, ⟨fun x hx => vreads_keep (k1 x ((List.mem_filter.1 hx).1)) hk4 (fun hp a ha => hin x ((List.mem_filter.1 hx).1) hp a ha), Nat.le_trans (List.length_filter_le ..) k2, .inr ⟨g3, c3, rfl, hlo3, hrow4, fun x hx => hin x ((List.mem_filter.1 hx).1)⟩⟩, told_from (fr := fr) ht, hk4.to_below (B := lo) hlo (fun k hk => by have h' : k = g3 := hk; rw [h']; exact hlo3)⟩
set_option maxRecDepth 100000 in
set_option maxHeartbeats 2000000 in
theorem prepare_g {w : World} {base b : Nat} {F : Nat → Prop} {p n fr : Int} {f : Int → Option Vh} (h : AcG w base F b p f) (hb : base ≤ w.heap.size) (hsl : ∀ y z, f y = some z → 1 ≤ y ∧ y ≤ 64) (h1 : 1 ≤ n) (h2 : p ≤ n) : Calls Tryd.prog 13 #[.pointer (some ⟨b, 0, none⟩), .int .i64 n, .int .i64 fr] w fun r w' => ∃ v hv, r = .returned (.tuple #[v, .int .i64 0]) ∧ TellsAt w' w.heap.size v hv ∧ Told (fromF f fr) (hv.map Vh.vo) ∧ AcT base b n f w F w' := by
  obtain ⟨g, hg⟩ : ∃ g, g = w.heap.size := ⟨_, rfl⟩
  obtain ⟨W1, hW1⟩ : ∃ z, w.alloc (.cells #[.int .i64 fr] 3) = z := ⟨_, rfl⟩
  have hB1 : Below w.heap.size w W1 := by rw [← hW1]; exact (Below.refl _ w).alloc (Nat.le_refl _) _
  have hbg : W1.heap[g]? = some (.cells #[.int .i64 fr] 3 (0, 0)) := by rw [← hW1, hg]; exact heap_alloc_new w _
  obtain ⟨W2, hW2⟩ : ∃ z, W1.setCell ⟨b, 0, none⟩ (.int .i64 n) = z := ⟨_, rfl⟩
  have hA1 := h.below hB1
  have hK12 : Keep (fun k => k = b) W1 W2 := by rw [← hW2]; exact (Keep.refl _ W1).setCell _ _ (.inl rfl)
  have HA2 := Lib.hid (show AcG W2 base F b n f from by rw [← hW2]; exact hA1.promise n)
  have hbl := (h.2.1 b h.1).2
  have HQ2 := Lib.hid (show W2.cell? ⟨g, 0, none⟩ = some (.int .i64 fr) from blk_cell (hK12.blk hbg (show ¬ g = b by omega)) 0)
  have HK2 := Lib.hid (show Keep F w W2 from (Keep.of_below hB1 F).trans (hK12.mono (G := F) (fun k e _ => e ▸ h.1)) (fun k hk => .inl hk))
  have hs12 : W1.heap.size = w.heap.size + 1 := by rw [← hW1]; simp
  have HS2 := Lib.hid (show w.heap.size < W2.heap.size from by have := hK12.size; omega)
  clear hs12
  have HPR : RowKit.Hid (Calls Tryd.prog 24 #[.pointer (some ⟨b, 0, none⟩), .int .i64 n] W1 fun r w' => r = .returned .nilIface ∧ w' = W2) := by
    obtain ⟨_, _, m', h3, _⟩ := hA1
    rw [← hW2]
    exact promise_ok b 0 n p _ W1 h3 h1 h2
  have HV := Lib.hid (votes_g HA2.out hsl)
  have HG := Lib.hid hg
  clear h hB1 hbg hA1 hK12 hbl hg hW2 hsl
  go_enter Tryd.func13, Tryd.ntmps13
  go_wp2_with (first
    | (go_at_call 27; rw [← HG.out]; refine (del_tells HT3.out HTD.out (pw_cell_below HB3.out HQ2.out) (by have := HS2.out; have := HG.out; omega) HB3.out.size).mono ?_; rintro r W4 ⟨v4, hv4, rfl, hT4, hD4, hB4⟩
       have HT4 := Lib.hid hT4
       have HD4 := Lib.hid hD4
       have HB4 := Lib.hid hB4
       clear hT4 hD4 hB4)
    | (go_at_call 15; refine HV.out.mono ?_; rintro r W3 ⟨v3, hv, rfl, hT3, hTD, hB3⟩
       have HT3 := Lib.hid hT3
       have HTD := Lib.hid hTD
       have HB3 := Lib.hid hB3
       clear hT3 hTD hB3)
    | (go_at_call 24; refine HPR.out.mono ?_; rintro r W2' ⟨rfl, hw⟩; have hw' := hw.symm; subst hw'))
  go_ret2
  exact ⟨_, hv4, rfl, HT4.out.low (Nat.le_of_lt HS2.out), HD4.out, ⟨F, (HA2.out.below HB3.out).keep (keep_low HB4.out) (fun k hk hk' => by have := (HA2.out.2.1 k hk).2; omega), fun k hk => .inl hk, (HK2.out.trans (Keep.of_below HB3.out (fun _ => False)) (fun _ h => h.elim)).trans (keep_low HB4.out) (fun k hk => .inr (by have := HS2.out; omega))⟩⟩
end Go.Proofs.YtgkhkcoojfjofaaDoor
