/- Votes and Prepare of acceptors of one vote at most. -/
import Derived.Test.YtgkhkcoojfjofaaDoorAccO
set_option linter.unusedVariables false
set_option linter.unusedSimpArgs false
namespace Go.Proofs.YtgkhkcoojfjofaaDoor
open Go.RowKit Go.Shelf Go.Proofs.YtgkhkcoojfjofaaDoorW.PrintWords Go.Proofs.Mine

def Vh.vo (x : Vh) : Vo := ⟨x.s, x.b, x.kd, x.c, x.q, x.data, x.mem, x.dst⟩
theorem infoVT : (Tryd.prog.info? 41).map (fun i => (i.zero, i.size, i.bytes)) = some (some (.agg #[.int .i64 0, .int .i64 0, .int .i64 0, .int .i64 0, .int .i64 0, .string ByteArray.empty, .slice none 0 0, .int .i64 0]), 8, 88) := by kernel_rfl
theorem _root_.Go.Proofs.Mine.Keep.blk' {F : Nat → Prop} {w w1 : World} {o : Obj} {g : Nat} (h : Keep F w w1) (hb : w.heap[g]? = some o) (hg : ¬ F g) : w1.heap[g]? = some o := (h.block g (Array.getElem?_eq_some_iff.1 hb).1 hg).trans hb
theorem left_one (e : MapEntry) (seen : Array Nat) : (leftOf #[e] seen).size ≤ 1 := by
  unfold leftOf
  exact Nat.le_trans (Array.size_filter_le ..) (by simp)
theorem votes_none {w : World} {base b : Nat} {F : Nat → Prop} {p : Int} (h : AccAt w base F b p none) : Calls Tryd.prog 15 #[.pointer (some ⟨b, 0, none⟩)] w fun r w' => r = .returned (.slice none 0 0) ∧ Below w.heap.size w w' := by
  obtain ⟨_, _, m, h3, _, _, _, h7, _⟩ := h
  exact votes_empty b m p w ⟨h3, h7 rfl⟩
set_option maxRecDepth 100000 in
set_option maxHeartbeats 2000000 in
theorem votes_one {w : World} {base b : Nat} {F : Nat → Prop} {p : Int} {x : Vh} (h : AccAt w base F b p (some x)) (hb : base ≤ w.heap.size) : Calls Tryd.prog 15 #[.pointer (some ⟨b, 0, none⟩)] w fun r w' => ∃ v, r = .returned v ∧ voK.R 41 w' w.heap.size (fun k => w.heap.size ≤ k) v [x.vo] ∧ Below w.heap.size w w' := by
  obtain ⟨_, h2, m, h3, h4, h5, h6, _, h8⟩ := h
  obtain ⟨e, clock, hmb, hst, hek, hev⟩ := MapI.single h6
  obtain ⟨h81, _, h83⟩ := h8 x rfl
  obtain ⟨A', c', he', hrd⟩ := own_reads h81
  obtain rfl : x.A = A' := by injection he'
  have HRD := Lib.hid hrd
  have HN := Lib.hid h83
  have q1 : w.cell? ⟨b, 1, none⟩ = some (.map (some m)) := blk_cell h3 1
  have hrange : (Instr.range 64 (.map (some m))).run Tryd.prog w = .ok (.pointer (some ⟨w.heap.size, 0, none⟩)) (w.alloc (.mapIter (some m) clock #[] clock)) := run_range_map w 64 3 41 m #[e] clock Tryd.underlying64 hmb
  have HIT := Lib.hid (heap_alloc_new w (.mapIter (some m) clock #[] clock))
  have HB := Lib.hid ((Below.refl _ w).alloc (Nat.le_refl _) (.mapIter (some m) clock #[] clock))
  have HM := Lib.hid hmb
  have HST := Lib.hid hst
  have hml := (h2 m h4).2
  have HEK := Lib.hid hek
  have HEV := Lib.hid hev
  obtain ⟨r, hr⟩ : ∃ r, r = w.heap.size := ⟨_, rfl⟩
  rw [← hr] at hrange
  have HR := Lib.hid hr
  have hmr : m < r := by omega
  have hlen : (leftOf #[e] #[]).size = 1 := by simp [leftOf]
  have HLEN := Lib.hid hlen
  clear h2 h3 h4 h5 h6 hmb hst h8 h81 h83 he' hrd hr hml hek hev hlen
  go_enter Tryd.func15, Tryd.ntmps15
  go_wp2_with fail
  obtain ⟨w0, hw0⟩ : ∃ z, z = w.alloc (.mapIter (some m) clock #[] clock) := ⟨_, rfl⟩
  rw [← hw0]
  have HW0 := Lib.hid hw0
  have HIT0 := Lib.hid (show w0.heap[r]? = some (.mapIter (some m) clock #[] clock) from by rw [hw0, HR.out]; exact HIT.out)
  have HM0 := Lib.hid (show w0.heap[m]? = some (.map #[e] clock) from by rw [hw0]; exact (Below.heap_alloc w _ m (by have := HR.out; omega)).trans HM.out)
  have HB0 := Lib.hid (show Below w.heap.size w w0 from by rw [hw0]; exact HB.out)
  have HS0 := Lib.hid (show w0.heap.size = r + 1 from by rw [hw0, HR.out]; simp)
  clear hw0 HIT HB HM HW0 hrange
  go_loopw [3] (fun u wr => ∃ seen c0, wr.heap[r]? = some (.mapIter (some m) clock seen c0) ∧ clock ≤ c0 ∧ RowKit.Hid (Keep (fun k => k = r) w0 wr) ∧ ((seen = #[] ∧ u = .slice none 0 0) ∨ ((leftOf #[e] seen).size = 0 ∧ RowKit.Hid (voK.R 41 wr w.heap.size (fun k => w.heap.size ≤ k) u [x.vo])))) (fun _ wr => (leftOf #[e] (wr.iterSeen r)).size)
  case atStart => exact ⟨#[], clock, HIT0.out, Nat.le_refl _, Lib.hid (Keep.refl _ _), .inl ⟨rfl, rfl⟩⟩
  case round =>
    obtain ⟨seen, c0, hit, hcc, HKR, hout⟩ := hrel
    have HBR := Lib.hid (show wr.heap[m]? = some (.map #[e] clock) from HKR.out.blk' HM0.out (by omega))
    have HITR := Lib.hid hit
    have hseen : wr.iterSeen r = seen := by unfold World.iterSeen; rw [hit]
    have HSEEN := Lib.hid hseen
    have HOUT := Lib.hid hout
    have HBW := Lib.hid (show Below w.heap.size w wr from HB0.out.trans (HKR.out.to_below HB0.out.size (fun k h => by have h' : k = r := h; rw [h', HR.out]; exact Nat.le_refl _)))
    clear hit hseen hout
    go_wp2_with (at_next; refine wpList_next_at rfl _ rfl wr r m clock c0 seen #[e] clock (by rfl) HITR.out HBR.out HST.out.1 hcc ?_ ?_)
    · intro hdone
      have hdone' : (leftOf #[e] seen).size = 0 := by simpa using hdone
      rcases HOUT.out with ⟨rfl, _⟩ | ⟨_, HU⟩
      · have := HLEN.out; rw [hdone'] at this; exact absurd this (by decide)
      · obtain ⟨Au, cu, rfl⟩ := Kd.R_slice HU.out
        go_wp2_with (go_at_call 29; refine (sort_short 1 (by decide) Au cu _ _).mono ?_; rintro r' w' ⟨rfl, rfl⟩)
        go_ret
        exact ⟨_, rfl, HU.out, HBW.out⟩
    · intro e' he' w1 hk1 hit1 hsz1
      obtain rfl : e' = e := by simpa using (mem_left (by simpa using he' : e' ∈ (leftOf #[e] seen).toList)).1
      have hsh := left_shrinks #[e'] seen e' (by simpa using he')
      have hs0 : seen = #[] ∧ u3 = .slice none 0 0 := by
        rcases HOUT.out with h | ⟨h0, _⟩
        · exact h
        · omega
      obtain ⟨rfl, rfl⟩ := hs0
      have hl1 := left_one e' #[]
      have hentry := run_entry_at (P := Tryd.prog) w1 r m clock #[] #[e'] clock e' hit1 (hk1.blk' HBR.out (by omega)) (by simp) HST.out.2.1
      rw [HEK.out, HEV.out] at hentry ⊢
      have HK1 := Lib.hid (HKR.out.trans hk1 (fun k h => .inl h))
      have HIT1 := Lib.hid hit1
      have HSH := Lib.hid (show (leftOf #[e'] (#[].push e'.born)).size = 0 from by omega)
      have HB1 := Lib.hid (show Below w.heap.size w w1 from HB0.out.trans (HK1.out.to_below HB0.out.size (fun k h => by have h' : k = r := h; rw [h', HR.out]; exact Nat.le_refl _)))
      have hrl : r < w1.heap.size := by rw [hsz1]; have := HKR.out.size; have := HS0.out; omega
      have HRL := Lib.hid hrl
      obtain ⟨W, hW⟩ : ∃ z, w1.alloc (.cells #[.int .i64 x.s, .int .i64 x.b, .int .i64 x.kd, .int .i64 x.c, .int .i64 x.q, .string x.data, .slice x.A x.mem.length x.cap, .int .i64 x.dst] 41) = z := ⟨_, rfl⟩
      have hBW1 : Below w1.heap.size w1 W := by rw [← hW]; exact (Below.refl _ w1).alloc (Nat.le_refl _) _
      have hb9 : W.heap[w1.heap.size]? = some (.cells #[.int .i64 x.s, .int .i64 x.b, .int .i64 x.kd, .int .i64 x.c, .int .i64 x.q, .string x.data, .slice x.A x.mem.length x.cap, .int .i64 x.dst] 41 (0, 0)) := by rw [← hW]; exact heap_alloc_new w1 _
      have c90 : W.cell? ⟨w1.heap.size, 0, none⟩ = some (.int .i64 x.s) := blk_cell hb9 0
      have c91 : W.cell? ⟨w1.heap.size, 1, none⟩ = some (.int .i64 x.b) := blk_cell hb9 1
      have c92 : W.cell? ⟨w1.heap.size, 2, none⟩ = some (.int .i64 x.kd) := blk_cell hb9 2
      have c93 : W.cell? ⟨w1.heap.size, 3, none⟩ = some (.int .i64 x.c) := blk_cell hb9 3
      have c94 : W.cell? ⟨w1.heap.size, 4, none⟩ = some (.int .i64 x.q) := blk_cell hb9 4
      have c95 : W.cell? ⟨w1.heap.size, 5, none⟩ = some (.string x.data) := blk_cell hb9 5
      have c96 : W.cell? ⟨w1.heap.size, 6, none⟩ = some (.slice x.A x.mem.length x.cap) := blk_cell hb9 6
      have c97 : W.cell? ⟨w1.heap.size, 7, none⟩ = some (.int .i64 x.dst) := blk_cell hb9 7
      have HBW2 := Lib.hid (HB1.out.trans (hBW1.mono HB1.out.size))
      have HK2 := Lib.hid (HK1.out.trans (Keep.of_below hBW1 (fun _ => False)) (fun _ h => h.elim))
      have HIT2 := Lib.hid ((hBW1.block r hrl).trans HIT1.out)
      have HSW := Lib.hid hBW1.size
      unfold encVh at *
      clear hk1 hit1 hsz1 he' hsh hl1 hBW1 hb9 hrl
      go_wp2_with (first
        | (at_builtin; refine Kd.R_append voK (w0 := w) (W := W3) w.heap.size rfl _ _ 35 41 _ 88 rfl Tryd.underlying35 infoVT rfl (by decide) (by decide) (.slice none 0 0) [] x.vo (x.vo.cells (.slice A1 x.mem.length c1)) (fun k => w.heap.size ≤ k) (fun k => W.heap.size ≤ k) rfl rfl ?a1 ?a2 ?a3 ?a4 ?a5 ?a6 ?a7 ?a8)
        | (go_at_call 26; refine (twin_any x W (HRD.out.below HBW2.out) HN.out).mono ?_
           rintro r' W3 ⟨A1, c1, rfl, hO, hB3⟩
           have HO := Lib.hid hO
           have HB3 := Lib.hid hB3
           clear hO hB3))
      case a1 => exact ⟨_, rfl, own_less HO.out HBW2.out.size, fun k hk => own_base HO.out k hk⟩
      case a2 => exact fun j hj => ⟨Nat.le_trans HBW2.out.size hj, fun e => by cases e⟩
      case a3 => exact fun j hj => Nat.le_trans (Nat.le_trans HBW2.out.size HB3.out.size) hj
      case a4 => exact Kd.R_nil _ _ _ _ _
      case a5 => exact HBW2.out.trans (HB3.out.mono HBW2.out.size)
      case a6 => exact Nat.le_trans HBW2.out.size HB3.out.size
      case a7 => decide
      case a8 =>
        intro v4 w4 hR4 hB4 hg4 hat4
        have HR4 := Lib.hid hR4
        have HG4 := Lib.hid hg4
        clear hR4 hB4 hg4 hat4
        go_wp2_with fail
        have hk4 : Keep (fun _ => False) W3 w4 := Keep.of_grown HG4.out (fun k hk => by cases hk)
        have hk24 : Keep (fun k => k = r) w0 w4 := (HK2.out.trans (Keep.of_below HB3.out (fun _ => False)) (fun _ h => h.elim)).trans hk4 (fun _ h => h.elim)
        have hit4 : w4.heap[r]? = some (.mapIter (some m) clock (#[].push e'.born) clock) := by
          have h1 := HRL.out
          have h2 := HSW.out
          have h3 := HB3.out.size
          rw [hk4.block r (by omega) (fun h => h), HB3.out.block r (by omega)]
          exact HIT2.out
        have hsn4 : w4.iterSeen r = #[].push e'.born := by unfold World.iterSeen; rw [hit4]
        refine ⟨⟨#[].push e'.born, clock, hit4, Nat.le_refl _, Lib.hid hk24, .inr ⟨HSH.out, HR4⟩⟩, ?_⟩
        rw [hsn4, HSEEN.out, HSH.out, HLEN.out]
        decide
set_option maxRecDepth 100000 in
set_option maxHeartbeats 2000000 in
theorem del1_any (x : Vo) (v : Value) (fr : Int) (g : Nat) (w : World) (hq : w.cell? ⟨g, 0, none⟩ = some (.int .i64 fr)) : Calls Tryd.prog 28 #[.agg #[.int .i64 x.s, .int .i64 x.b, .int .i64 x.kd, .int .i64 x.c, .int .i64 x.q, .string x.data, v, .int .i64 x.dst], .pointer (some ⟨g, 0, none⟩)] w fun r w' => r = .returned (.bool (decide (x.s < fr))) ∧ Below w.heap.size w w' := by
  have hlt := World.block_lt_of_cell? w _ hq
  have hne : g ≠ w.heap.size := by intro e; subst e; simp at hlt
  go_enter Tryd.func28, Tryd.ntmps28
  go_wp2
  go_ret
  exact ⟨rfl, (Below.refl _ w).alloc (Nat.le_refl _) _⟩
/-- An element's eight cells. -/
theorem vo_at {W : World} {A : Option Addr} {n : Nat} {l : List Vo} (h : voK.C W A n l) {i : Nat} {x : Vo} (hx : l[i]? = some x) : ∃ (ad : Addr) (B : Option Addr) (c : Nat), A = some ad ∧ ReadsInt W .i64 B x.mem.length x.mem ∧ ∀ j u, (x.cells (.slice B x.mem.length c))[j]? = some u → W.cell? ((ad.add (i * 8)).add j) = some u := by
  obtain ⟨hl, _⟩ := List.getElem?_eq_some_iff.1 hx
  obtain ⟨ad, hA, hc⟩ := h.2.2 (by have := h.1; omega)
  obtain ⟨cs, h2, ⟨B, c, rfl, hlc, hr⟩, h3⟩ := hc i x hx
  exact ⟨ad, B, c, hA, hr, fun j u hu => by
    rw [vadd_add]
    exact h3 j u hu⟩
set_option maxRecDepth 100000 in
set_option maxHeartbeats 2000000 in
theorem idx_no (A : Option Addr) (c : Nat) (l : List Vo) (fr : Int) (g : Nat) (w : World) (h : voK.C w A l.length l) (hq : w.cell? ⟨g, 0, none⟩ = some (.int .i64 fr)) (hall : ∀ x ∈ l, fr ≤ x.s) : Calls Tryd.prog 36 #[.slice A l.length c, .func (.func 28) #[] #[.pointer (some ⟨g, 0, none⟩)]] w fun r w' => r = .returned (.int .i64 (-1)) ∧ Below w.heap.size w w' := by
  have H := Lib.hid h
  have HQ := Lib.hid hq
  have HALL := Lib.hid hall
  have hmx := h.2.1
  clear h hq hall
  go_enter Tryd.func36, Tryd.ntmps36
  go_wp2_with fail
  go_loopw [5, 8] (fun _ iv wr => ∃ (k : Nat), k ≤ l.length ∧ iv = .int .i64 (k : Int) ∧ RowKit.Hid (Below w.heap.size w wr)) (fun _ iv _ => l.length - (intOf iv).toNat)
  case atStart => exact ⟨0, by omega, rfl, Lib.hid (Below.refl _ _)⟩
  case round =>
    rename_i wr
    obtain ⟨k, hk, rfl, HB⟩ := hrel
    by_cases hlt : k < l.length
    · have hlt2 : (k : Int) < (l.length : Int) := by omega
      have hk0 : (0 : Int) ≤ (k : Int) := by omega
      obtain ⟨x, hx⟩ : ∃ x, l[k]? = some x := ⟨_, List.getElem?_eq_getElem hlt⟩
      obtain ⟨ad, B, cB, rfl, hrd, hcell⟩ := vo_at (Kd.C_below H.out HB.out) hx
      obtain ⟨ea, hea⟩ : ∃ ea, ea = ad.add (k * 8) := ⟨_, rfl⟩
      rw [← hea] at hcell
      have q0 : wr.cell? ea = some (.int .i64 x.s) := by simpa [Addr.add] using hcell 0 _ rfl
      have q1 : wr.cell? ⟨ea.block, ea.off + 1, none⟩ = some (.int .i64 x.b) := by simpa [Addr.add] using hcell 1 _ rfl
      have q2 : wr.cell? ⟨ea.block, ea.off + 2, none⟩ = some (.int .i64 x.kd) := by simpa [Addr.add] using hcell 2 _ rfl
      have q3 : wr.cell? ⟨ea.block, ea.off + 3, none⟩ = some (.int .i64 x.c) := by simpa [Addr.add] using hcell 3 _ rfl
      have q4 : wr.cell? ⟨ea.block, ea.off + 4, none⟩ = some (.int .i64 x.q) := by simpa [Addr.add] using hcell 4 _ rfl
      have q5 : wr.cell? ⟨ea.block, ea.off + 5, none⟩ = some (.string x.data) := by simpa [Addr.add] using hcell 5 _ rfl
      have q6 : wr.cell? ⟨ea.block, ea.off + 6, none⟩ = some (.slice B x.mem.length cB) := by simpa [Addr.add] using hcell 6 _ rfl
      have q7 : wr.cell? ⟨ea.block, ea.off + 7, none⟩ = some (.int .i64 x.dst) := by simpa [Addr.add] using hcell 7 _ rfl
      have hea2 := hea.symm
      have hcall := del1_any x (.slice B x.mem.length cB) fr g wr (pw_cell_below HB.out HQ.out)
      rw [show decide (x.s < fr) = false from decide_eq_false (by have := HALL.out x (List.mem_of_getElem? hx); omega)] at hcall
      have HCALL := Lib.hid hcall
      clear hea hcell hrd hx hcall
      go_wp2_with (go_at_call 28; refine HCALL.out.mono ?_; rintro e w' ⟨rfl, hb'⟩; have HB' := Lib.hid (HB.out.trans (hb'.mono HB.out.size)); clear hb')
      exact ⟨⟨k + 1, by omega, by simp, HB'⟩, by simp [intOf]; omega⟩
    · obtain rfl : k = l.length := by omega
      go_wp2_with fail
      go_ret
      exact ⟨rfl, HB.out⟩
set_option maxRecDepth 100000 in
set_option maxHeartbeats 2000000 in
theorem del_no (A : Option Addr) (c : Nat) (l : List Vo) (fr : Int) (g : Nat) (w : World) (h : voK.C w A l.length l) (hq : w.cell? ⟨g, 0, none⟩ = some (.int .i64 fr)) (hall : ∀ x ∈ l, fr ≤ x.s) : Calls Tryd.prog 27 #[.slice A l.length c, .func (.func 28) #[] #[.pointer (some ⟨g, 0, none⟩)]] w fun r w' => r = .returned (.slice A l.length c) ∧ Below w.heap.size w w' := by
  have HI := Lib.hid (idx_no A c l fr g w h hq hall)
  clear h hq hall
  go_enter Tryd.func27, Tryd.ntmps27
  go_wp2_with (go_at_call 36; refine HI.out.mono ?_; rintro r w' ⟨rfl, hB⟩; have HB := Lib.hid hB; clear hB)
  go_ret
  exact ⟨rfl, HB.out⟩
/-- The votes of an acceptor. -/
def votesL : Option Vh → List Vo
  | none => []
  | some x => [x.vo]
theorem votes_at {w : World} {base b : Nat} {F : Nat → Prop} {p : Int} {o : Option Vh} (h : AccAt w base F b p o) (hb : base ≤ w.heap.size) : Calls Tryd.prog 15 #[.pointer (some ⟨b, 0, none⟩)] w fun r w' => ∃ v, r = .returned v ∧ voK.R 41 w' w.heap.size (fun k => w.heap.size ≤ k) v (votesL o) ∧ Below w.heap.size w w' := by
  cases o with
  | none => exact (votes_none h).mono (fun r w' h1 => ⟨_, h1.1, Kd.R_nil _ _ _ _ _, h1.2⟩)
  | some x => exact votes_one h hb
set_option maxRecDepth 100000 in
set_option maxHeartbeats 2000000 in
theorem prepare_at {w : World} {base b : Nat} {F : Nat → Prop} {p n fr : Int} {o : Option Vh} (h : AccAt w base F b p o) (hb : base ≤ w.heap.size) (h1 : 1 ≤ n) (h2 : p ≤ n) (hall : ∀ x, o = some x → fr ≤ x.s) : Calls Tryd.prog 13 #[.pointer (some ⟨b, 0, none⟩), .int .i64 n, .int .i64 fr] w fun r w' => ∃ v, r = .returned (.tuple #[v, .int .i64 0]) ∧ voK.R 41 w' w.heap.size (fun k => w.heap.size ≤ k) v (votesL o) ∧ AccTo base b n o w F w' := by
  obtain ⟨g, hg⟩ : ∃ g, g = w.heap.size := ⟨_, rfl⟩
  obtain ⟨W1, hW1⟩ : ∃ z, w.alloc (.cells #[.int .i64 fr] 3) = z := ⟨_, rfl⟩
  have hB1 : Below w.heap.size w W1 := by rw [← hW1]; exact (Below.refl _ w).alloc (Nat.le_refl _) _
  have hbg : W1.heap[g]? = some (.cells #[.int .i64 fr] 3 (0, 0)) := by rw [← hW1, hg]; exact heap_alloc_new w _
  obtain ⟨W2, hW2⟩ : ∃ z, W1.setCell ⟨b, 0, none⟩ (.int .i64 n) = z := ⟨_, rfl⟩
  have hA1 := h.below hB1
  have hK12 : Keep (fun k => k = b) W1 W2 := by rw [← hW2]; exact (Keep.refl _ W1).setCell _ _ (.inl rfl)
  have HA2 := Lib.hid (show AccAt W2 base F b n o from by rw [← hW2]; exact hA1.promise n)
  have hbl := (h.2.1 b h.1).2
  have HQ2 := Lib.hid (show W2.cell? ⟨g, 0, none⟩ = some (.int .i64 fr) from blk_cell (hK12.blk hbg (show ¬ g = b by omega)) 0)
  have HK2 := Lib.hid (show Keep F w W2 from (Keep.of_below hB1 F).trans (hK12.mono (G := F) (fun k e _ => e ▸ h.1)) (fun k hk => .inl hk))
  have HS2 := Lib.hid (show w.heap.size ≤ W2.heap.size from Nat.le_trans hB1.size hK12.size)
  have HPR : RowKit.Hid (Calls Tryd.prog 24 #[.pointer (some ⟨b, 0, none⟩), .int .i64 n] W1 fun r w' => r = .returned .nilIface ∧ w' = W2) := by
    obtain ⟨_, _, m', h3, _⟩ := hA1
    rw [← hW2]
    exact promise_ok b 0 n p _ W1 h3 h1 h2
  have HALL := Lib.hid (show ∀ x ∈ votesL o, fr ≤ x.s from fun x hx => by
    cases o with
    | none => cases hx
    | some y => rw [List.mem_singleton.1 hx]; exact hall y rfl)
  have HBB := Lib.hid hb
  have HV := Lib.hid (votes_at HA2.out (Nat.le_trans hb HS2.out))
  have HG := Lib.hid hg
  generalize votesL o = lv at *
  clear h hall hB1 hbg hA1 hK12 hbl hg hW2
  go_enter Tryd.func13, Tryd.ntmps13
  go_wp2_with (first
    | (go_at_call 27; refine (del_no A3 c3 lv fr w.heap.size W3 HC3.out (pw_cell_below HB3.out (by rw [← HG.out]; exact HQ2.out)) HALL.out).mono ?_; rintro r W4 ⟨rfl, hB4⟩; have HB4 := Lib.hid hB4; clear hB4)
    | (go_at_call 15; refine HV.out.mono ?_; rintro r W3 ⟨v3, rfl, hR3, hB3⟩
       obtain ⟨A3, c3, rfl⟩ := Kd.R_slice hR3
       have HR3 := Lib.hid hR3
       have HC3 := Lib.hid (Kd.R_reads' hR3).2.2
       have HB3 := Lib.hid hB3
       clear hR3 hB3)
    | (go_at_call 24; refine HPR.out.mono ?_; rintro r W2' ⟨rfl, hw⟩; have hw' := hw.symm; subst hw'))
  go_ret2
  refine ⟨_, rfl, ?_, ?_⟩
  · exact Kd.R_mono (Kd.R_lower (Kd.R_below HR3.out HB4.out) HS2.out) (fun k hk => Nat.le_trans HS2.out hk)
  · exact AccTo.to (AccTo.to ⟨F, HA2.out, fun k hk => .inl hk, HK2.out⟩ HB3.out) HB4.out
end Go.Proofs.YtgkhkcoojfjofaaDoor
