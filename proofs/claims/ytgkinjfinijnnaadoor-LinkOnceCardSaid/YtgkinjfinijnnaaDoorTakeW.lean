/- The walk of take, where nothing falls out of the window. -/
import Derived.Test.YtgkinjfinijnnaaDoorMayW
import Derived.Maps.RangeWalk
import Derived.Maps.RangeRun
set_option linter.unusedVariables false
set_option linter.unusedSimpArgs false
namespace Go.Proofs.YtgkinjfinijnnaaDoor
open Go.RowKit Go.Proofs.YtgkinjfinijnnaaDoorW.PrintWords Go.Proofs.Mine

/-- The step of a loop over a map that the loop does not write. -/
theorem wpList_next_at {P : Program} {ops : Array Oper} {rest : List Oper} {o : Oper} {a : Act} {Q : Exit → Act → World → Prop} (hg : o.guard = none) (it : Operand) (hop : o.op = Op.next it false) (w : World) (r bm since c0 : Nat) (seen : Array Nat) (es : Array MapEntry) (clock : Nat)
    (hit : a.eval it = .pointer (some ⟨r, 0, none⟩)) (hr : w.heap[r]? = some (.mapIter (some bm) since seen c0)) (hb : w.heap[bm]? = some (.map es clock)) (hold : ∀ x ∈ es.toList, x.born < since) (hsc : since ≤ c0)
    (hDone : (leftOf es seen).size = 0 → wpList P ops Q rest (a.put o.dst (.tuple #[.bool false])) w)
    (hMore : ∀ e ∈ (leftOf es seen).toList, ∀ w1 : World, Keep (fun k => k = r) w w1 → w1.heap[r]? = some (.mapIter (some bm) since (seen.push e.born) clock) → w1.heap.size = w.heap.size → wpList P ops Q rest (a.put o.dst (.tuple #[.bool true, e.key, e.val])) w1) :
    wpList P ops Q (o :: rest) a w := by
  refine wpList_plain hg fun K' hK' => ?_
  unfold Oper.wp
  have hlt := blk_lt hr
  rcases run_next_at (P := P) w o.type r bm since c0 seen es clock hr hb hold hsc with ⟨h0, hrun⟩ | ⟨e, he, w1, hal, hrun⟩
  · simp [execOp, hop, hit, hrun, Result.andThen]
    exact hK' _ _ (hDone h0)
  · simp [execOp, hop, hit, hrun, Result.andThen]
    have h1 : w1.heap = w.heap := by rcases hal with rfl | rfl <;> rfl
    have hr1 : w1.heap[r]? = some (.mapIter (some bm) since seen c0) := by rw [h1]; exact hr
    have hk1 : Keep (fun k => k = r) w w1 := by
      rcases hal with rfl | rfl
      · exact Keep.refl _ _
      · exact (Keep.refl _ _).drew
    refine hK' _ _ (hMore e he _ (hk1.trans (set_keep (o' := .mapIter (some bm) since (seen.push e.born) clock) hr1) (fun k h => .inl h)) ?_ ?_)
    · exact (MapKept.heap_set hr1).1
    · show (w1.heap.setIfInBounds r _).size = _
      rw [Array.size_setIfInBounds, h1]
def takeBase (p : Pr) (life : Int) : Pr := if p.life < life then { p with life := life, taken := fun _ => none, most := 0 } else p
def takeP (p : Pr) (life n : Int) : Pr := { takeBase p life with taken := updI (takeBase p life).taken n true, most := if n ≤ (takeBase p life).most then (takeBase p life).most else n }
/-- What take leaves of a peer's blocks. -/
def Took (w : World) (g m : Nat) (p : Pr) (w' : World) : Prop := ∃ m', Keep (fun k => k = g ∨ k = m) w w' ∧ PeerAt w' (g, m') p ∧ (m' = m ∨ w.heap.size ≤ m')
set_option maxRecDepth 100000 in
set_option maxHeartbeats 4000000 in
theorem take_same (w : World) (g m : Nat) (p : Pr) (life n : Int) (h : PeerAt w (g, m) p) (hl : ¬ p.life < life) (hn : 1 ≤ n) (hn2 : n ≤ 4611686018427387904) (hkeys : ∀ x b, p.taken x = some b → n - 256 < x) :
    Calls Tryd.prog 18 #[.pointer (some ⟨g, 0, none⟩), .int .i64 life, .int .i64 n] w fun e w' => e = .returned (.tuple #[]) ∧ Took w g m (takeP p life n) w' := by
  have hc1 := blk_cell h.1 1
  have H1 := Lib.hid h
  have HKEY := Lib.hid hkeys
  have HB1 : RowKit.Hid (takeBase p life = p) := by show takeBase p life = p; unfold takeBase; rw [if_neg hl]
  obtain ⟨p1, rfl⟩ : ∃ p1, p1 = p := ⟨_, rfl⟩
  obtain ⟨m1, rfl⟩ : ∃ m1, m1 = m := ⟨_, rfl⟩
  obtain ⟨W1, rfl⟩ : ∃ W1, W1 = w := ⟨_, rfl⟩
  have HM1 : RowKit.Hid (m1 = m1 ∨ W1.heap.size ≤ m1) := .inl rfl
  have HKT : RowKit.Hid (∀ w', Keep (fun k => k = g ∨ k = m1) W1 w' → Keep (fun k => k = g ∨ k = m1) W1 w') := fun _ h => h
  clear h hkeys
  go_enter Tryd.func18, Tryd.ntmps18
  go_upto_region 2 with fail
  have hc2 := blk_cell H1.out.1 2
  obtain ⟨W2, hrun2, hm2, hk2, hs2⟩ := H1.out.2.update (P := Tryd.prog) Tryd.underlying53 Tryd.underlying3 n true
  have gm1 : g ≠ m1 := fun e => map_ne H1.out.2 H1.out.1 e.symm
  have hp2 : PeerAt W2 (g, m1) { p1 with taken := updI p1.taken n true } := ⟨hk2.blk H1.out.1 gm1, hm2⟩
  have hc3 := blk_cell hp2.1 3
  have hf3 := blk_frozen hp2.1 3
  have HK2 := Lib.hid hk2
  have HP2 := Lib.hid hp2
  by_cases hle : n ≤ p1.most
  · have HTP : RowKit.Hid (takeP p1 life n = { p1 with taken := updI p1.taken n true }) := by
      show takeP p1 life n = _
      unfold takeP
      rw [HB1.out, if_pos hle]
    clear hm2 hk2 hs2 hp2
    go_wp2
    refine bodyPost_ret (v := .tuple #[]) (by simp [results, Tryd.results18, go_sem]) rfl ⟨rfl, m1, ?_, by rw [HTP.out]; exact HP2.out, .inl rfl⟩
    exact HKT.out _ (HK2.out.mono (fun k h _ => .inr h))
  · have HTP : RowKit.Hid (takeP p1 life n = { p1 with taken := updI p1.taken n true, most := n }) := by
      show takeP p1 life n = _
      unfold takeP
      rw [HB1.out, if_neg hle]
    have hp3 := hp2.set (p' := { p1 with taken := updI p1.taken n true, most := n }) 3 (.int .i64 n) rfl rfl
    have hk3 : Keep (fun k => k = g ∨ k = m1) W2 (W2.setCell ⟨g, 3, none⟩ (.int .i64 n)) := (Keep.refl _ _).setCell _ _ (.inl (.inl rfl))
    have HP3 := Lib.hid hp3
    have HK3 := Lib.hid hk3
    have hle' : ¬ n ≤ p1.most := hle
    clear hm2 hk2 hs2 hp2 hp3 hk3
    go_upto_region 5 with fail
    generalize World.setCell _ _ _ = W3 at *
    obtain ⟨es, clock, hmb, hst, hent, _⟩ := HP3.out.2
    have hc2' := blk_cell HP3.out.1 2
    have hrange : (Instr.range 53 (.map (some m1))).run Tryd.prog W3 = .ok (.pointer (some ⟨W3.heap.size, 0, none⟩)) (W3.alloc (.mapIter (some m1) clock #[] clock)) := run_range_map W3 53 3 4 m1 es clock Tryd.underlying53 hmb
    have HIT := Lib.hid (heap_alloc_new W3 (.mapIter (some m1) clock #[] clock))
    have HK4 : RowKit.Hid (Keep (fun _ => False) W3 (W3.alloc (.mapIter (some m1) clock #[] clock))) := (Keep.refl _ W3).alloc _
    have HMB := Lib.hid hmb
    have HST := Lib.hid hst
    have HENT : RowKit.Hid (∀ e ∈ es.toList, ∃ x v, e.key = .int .i64 x ∧ e.val = .bool v ∧ n - 256 < x) := fun e he => by
      obtain ⟨x, v, h1, h2, h3⟩ := hent e he
      refine ⟨x, v, h1, h2, ?_⟩
      by_cases hx : x = n
      · omega
      · have h4 : p1.taken x = some v := by simpa [updI, hx] using h3
        exact HKEY.out x v h4
    have hrl : W3.heap.size < (W3.alloc (.mapIter (some m1) clock #[] clock)).heap.size := by simp
    generalize hr : W3.heap.size = r at *
    have hgr : g < r := by rw [← hr]; exact blk_lt HP3.out.1
    have hmr : m1 < r := by rw [← hr]; exact blk_lt hmb
    clear hmb hst hent
    go_wp2_with fail
    go_loopw [6] (fun _ wr => ∃ seen c0, wr.heap[r]? = some (.mapIter (some m1) clock seen c0) ∧ clock ≤ c0 ∧ Keep (fun k => k = r) (W3.alloc (.mapIter (some m1) clock #[] clock)) wr) (fun _ wr => (leftOf es (wr.iterSeen r)).size)
    case atStart => exact ⟨#[], clock, HIT.out, Nat.le_refl _, Keep.refl _ _⟩
    case round =>
      obtain ⟨seen, c0, hit, hcc, hkr⟩ := hrel
      have HKR := Lib.hid hkr
      have hbr : wr.heap[m1]? = some (.map es clock) := hkr.blk (HK4.out.blk HMB.out (fun h => h)) (by omega)
      have hpr := hkr.blk (HK4.out.blk HP3.out.1 (fun h => h)) (show ¬ g = r by omega)
      have HBR := Lib.hid hbr
      have HPR := Lib.hid hpr
      have HITR := Lib.hid hit
      have hseen : wr.iterSeen r = seen := by unfold World.iterSeen; rw [hit]
      have HSEEN := Lib.hid hseen
      clear hkr hbr hpr hit hseen hrange hc2' hc2 hc3 hf3 hrun2
      go_wp2_with (at_next; refine wpList_next_at rfl _ rfl wr r m1 clock c0 seen es clock (by rfl) HITR.out HBR.out HST.out.1 hcc ?_ ?_)
      · intro hdone
        go_wp2
        go_end0
        refine ⟨rfl, m1, ?_, ?_, .inl rfl⟩
        · exact HKT.out _ ((HK2.out.mono (G := fun k => k = g ∨ k = m1) (fun k h _ => .inr h)).trans HK3.out (fun _ h => .inl h) |>.trans (HK4.out.trans HKR.out (fun k h => .inr (by have h' : k = r := h; omega))) (fun k h => h.elim) |> fun h => h)
        · rw [HTP.out]
          exact (HP3.out.keep HK4.out (fun h => h) (fun h => h)).keep HKR.out (show ¬ g = r by omega) (show ¬ m1 = r by omega)
      · intro e he w1 hk1 hit1 hsz1
        have he : e ∈ (leftOf es seen).toList := by simpa using he
        obtain ⟨x, v, hx, hv, hlt⟩ := HENT.out e (mem_left he).1
        have hentry := run_entry_at (P := Tryd.prog) w1 r m1 clock seen es clock e hit1 (hk1.blk HBR.out (by omega)) (mem_left he).1 HST.out.2.1
        rw [hx, hv] at hentry ⊢
        have hcm := blk_cell (hk1.blk HPR.out (show ¬ g = r by omega)) 3
        have hge : ¬ x ≤ n - 256 := by omega
        have HX := Lib.hid (left_shrinks es seen e he)
        have HK1 := Lib.hid hk1
        have HIT1 := Lib.hid hit1
        have hseen1 : w1.iterSeen r = seen.push e.born := by unfold World.iterSeen; rw [hit1]
        have HSN1 := Lib.hid hseen1
        have hlt' : n - 256 < x := hlt
        clear hk1 hit1 hseen1 hx hv hsz1 he hlt
        go_wp2
        refine ⟨⟨seen.push e.born, clock, HIT1.out, Nat.le_refl _, HKR.out.trans HK1.out (fun k h => .inl h)⟩, ?_⟩
        rw [HSN1.out, HSEEN.out]
        exact HX.out
set_option maxRecDepth 100000 in
set_option maxHeartbeats 4000000 in
theorem take_new (w : World) (g m : Nat) (p : Pr) (life n : Int) (h : PeerAt w (g, m) p) (hl : p.life < life) (hn : 1 ≤ n) (hn2 : n ≤ 4611686018427387904) :
    Calls Tryd.prog 18 #[.pointer (some ⟨g, 0, none⟩), .int .i64 life, .int .i64 n] w fun e w' => e = .returned (.tuple #[]) ∧ Took w g m (takeP p life n) w' := by
  have hc1 := blk_cell h.1 1
  obtain ⟨p1, hp1⟩ : ∃ p1 : Pr, p1 = { p with life := life, taken := fun _ => none, most := 0 } := ⟨_, rfl⟩
  have HB1 : RowKit.Hid (takeBase p life = p1) := by show takeBase p life = p1; unfold takeBase; rw [if_pos hl, hp1]
  have a1 : (w.alloc (.map #[] 0)).cell? ⟨g, 1, none⟩ = some (.int .i64 p.life) := blk_cell (blk_alloc h.1 _) 1
  have af1 : (w.alloc (.map #[] 0)).frozen? ⟨g, 1, none⟩ = false := blk_frozen (blk_alloc h.1 _) 1
  have s1 := blk_set h.1 1 (.int .i64 life)
  have s2 := blk_set s1 2 (.map (some w.heap.size))
  have s3 := blk_set s2 3 (.int .i64 0)
  have a2 : ((w.setCell ⟨g, 1, none⟩ (.int .i64 life)).alloc (.map #[] 0)).cell? ⟨g, 2, none⟩ = some (.map (some m)) := blk_cell (blk_alloc s1 _) 2
  have af2 : ((w.setCell ⟨g, 1, none⟩ (.int .i64 life)).alloc (.map #[] 0)).frozen? ⟨g, 2, none⟩ = false := blk_frozen (blk_alloc s1 _) 2
  have a3 : (((w.setCell ⟨g, 1, none⟩ (.int .i64 life)).setCell ⟨g, 2, none⟩ (.map (some w.heap.size))).alloc (.map #[] 0)).cell? ⟨g, 3, none⟩ = some (.int .i64 p.most) := blk_cell (blk_alloc s2 _) 3
  have af3 : (((w.setCell ⟨g, 1, none⟩ (.int .i64 life)).setCell ⟨g, 2, none⟩ (.map (some w.heap.size))).alloc (.map #[] 0)).frozen? ⟨g, 3, none⟩ = false := blk_frozen (blk_alloc s2 _) 3
  have hgl := blk_lt h.1
  have b1 := blk_alloc s3 (.map #[] 0)
  have hk1 : Keep (fun k => k = g ∨ k = m) w ((((w.setCell ⟨g, 1, none⟩ (.int .i64 life)).setCell ⟨g, 2, none⟩ (.map (some w.heap.size))).setCell ⟨g, 3, none⟩ (.int .i64 0)).alloc (.map #[] 0)) := ((((Keep.refl _ w).setCell _ _ (.inl (.inl rfl))).setCell _ _ (.inl (.inl rfl))).setCell _ _ (.inl (.inl rfl))).alloc _
  have mp1 : MapI Value.bool ((((w.setCell ⟨g, 1, none⟩ (.int .i64 life)).setCell ⟨g, 2, none⟩ (.map (some w.heap.size))).setCell ⟨g, 3, none⟩ (.int .i64 0)).alloc (.map #[] 0)) w.heap.size (fun _ => none) := by
    have h2 := MapI.new (α := Bool) (enc := Value.bool) (((w.setCell ⟨g, 1, none⟩ (.int .i64 life)).setCell ⟨g, 2, none⟩ (.map (some w.heap.size))).setCell ⟨g, 3, none⟩ (.int .i64 0))
    rwa [show (((w.setCell ⟨g, 1, none⟩ (.int .i64 life)).setCell ⟨g, 2, none⟩ (.map (some w.heap.size))).setCell ⟨g, 3, none⟩ (.int .i64 0)).heap.size = w.heap.size from by simp [World.setCell]] at h2
  obtain ⟨m1, hm1⟩ : ∃ m1, m1 = w.heap.size := ⟨_, rfl⟩
  have H1 : RowKit.Hid (PeerAt ((((w.setCell ⟨g, 1, none⟩ (.int .i64 life)).setCell ⟨g, 2, none⟩ (.map (some w.heap.size))).setCell ⟨g, 3, none⟩ (.int .i64 0)).alloc (.map #[] 0)) (g, m1) p1) := by rw [hm1, hp1]; exact ⟨b1, mp1⟩
  have HM1 : RowKit.Hid (w.heap.size ≤ m1) := by show w.heap.size ≤ m1; omega
  have HKEY : RowKit.Hid (∀ x b, p1.taken x = some b → n - 256 < x) := fun x b hx => by rw [hp1] at hx; cases hx
  have HK0 := Lib.hid hk1
  have hmm := @run_makeMap Tryd.prog
  clear h hp1 s1 s2 s3 b1 mp1 hk1 hm1
  go_enter Tryd.func18, Tryd.ntmps18
  go_upto_region 2 with fail
  clear a1 a2 a3 af1 af2 af3 hc1 hmm
  generalize World.alloc _ _ = W1 at *
  have HKT : RowKit.Hid (∀ w', Keep (fun k => k = g ∨ k = m1) W1 w' → Keep (fun k => k = g ∨ k = m) w w') := fun w' hk => HK0.out.trans hk (fun k h => by
    rcases h with h | h
    · exact .inl (.inl h)
    · exact .inr (by have := HM1.out; omega))
  have hc2 := blk_cell H1.out.1 2
  obtain ⟨W2, hrun2, hm2, hk2, hs2⟩ := H1.out.2.update (P := Tryd.prog) Tryd.underlying53 Tryd.underlying3 n true
  have gm1 : g ≠ m1 := fun e => map_ne H1.out.2 H1.out.1 e.symm
  have hp2 : PeerAt W2 (g, m1) { p1 with taken := updI p1.taken n true } := ⟨hk2.blk H1.out.1 gm1, hm2⟩
  have hc3 := blk_cell hp2.1 3
  have hf3 := blk_frozen hp2.1 3
  have HK2 := Lib.hid hk2
  have HP2 := Lib.hid hp2
  by_cases hle : n ≤ p1.most
  · have HTP : RowKit.Hid (takeP p life n = { p1 with taken := updI p1.taken n true }) := by
      show takeP p life n = _
      unfold takeP
      rw [HB1.out, if_pos hle]
    clear hm2 hk2 hs2 hp2
    go_wp2
    refine bodyPost_ret (v := .tuple #[]) (by simp [results, Tryd.results18, go_sem]) rfl ⟨rfl, m1, ?_, by rw [HTP.out]; exact HP2.out, .inr HM1.out⟩
    exact HKT.out _ (HK2.out.mono (fun k h _ => .inr h))
  · have HTP : RowKit.Hid (takeP p life n = { p1 with taken := updI p1.taken n true, most := n }) := by
      show takeP p life n = _
      unfold takeP
      rw [HB1.out, if_neg hle]
    have hp3 := hp2.set (p' := { p1 with taken := updI p1.taken n true, most := n }) 3 (.int .i64 n) rfl rfl
    have hk3 : Keep (fun k => k = g ∨ k = m1) W2 (W2.setCell ⟨g, 3, none⟩ (.int .i64 n)) := (Keep.refl _ _).setCell _ _ (.inl (.inl rfl))
    have HP3 := Lib.hid hp3
    have HK3 := Lib.hid hk3
    have hle' : ¬ n ≤ p1.most := hle
    clear hm2 hk2 hs2 hp2 hp3 hk3
    go_upto_region 5 with fail
    generalize World.setCell _ _ _ = W3 at *
    obtain ⟨es, clock, hmb, hst, hent, _⟩ := HP3.out.2
    have hc2' := blk_cell HP3.out.1 2
    have hrange : (Instr.range 53 (.map (some m1))).run Tryd.prog W3 = .ok (.pointer (some ⟨W3.heap.size, 0, none⟩)) (W3.alloc (.mapIter (some m1) clock #[] clock)) := run_range_map W3 53 3 4 m1 es clock Tryd.underlying53 hmb
    have HIT := Lib.hid (heap_alloc_new W3 (.mapIter (some m1) clock #[] clock))
    have HK4 : RowKit.Hid (Keep (fun _ => False) W3 (W3.alloc (.mapIter (some m1) clock #[] clock))) := (Keep.refl _ W3).alloc _
    have HMB := Lib.hid hmb
    have HST := Lib.hid hst
    have HENT : RowKit.Hid (∀ e ∈ es.toList, ∃ x v, e.key = .int .i64 x ∧ e.val = .bool v ∧ n - 256 < x) := fun e he => by
      obtain ⟨x, v, h1, h2, h3⟩ := hent e he
      refine ⟨x, v, h1, h2, ?_⟩
      by_cases hx : x = n
      · omega
      · have h4 : p1.taken x = some v := by simpa [updI, hx] using h3
        exact HKEY.out x v h4
    have hrl : W3.heap.size < (W3.alloc (.mapIter (some m1) clock #[] clock)).heap.size := by simp
    generalize hr : W3.heap.size = r at *
    have hgr : g < r := by rw [← hr]; exact blk_lt HP3.out.1
    have hmr : m1 < r := by rw [← hr]; exact blk_lt hmb
    clear hmb hst hent
    go_wp2_with fail
    go_loopw [6] (fun _ wr => ∃ seen c0, wr.heap[r]? = some (.mapIter (some m1) clock seen c0) ∧ clock ≤ c0 ∧ Keep (fun k => k = r) (W3.alloc (.mapIter (some m1) clock #[] clock)) wr) (fun _ wr => (leftOf es (wr.iterSeen r)).size)
    case atStart => exact ⟨#[], clock, HIT.out, Nat.le_refl _, Keep.refl _ _⟩
    case round =>
      obtain ⟨seen, c0, hit, hcc, hkr⟩ := hrel
      have HKR := Lib.hid hkr
      have hbr : wr.heap[m1]? = some (.map es clock) := hkr.blk (HK4.out.blk HMB.out (fun h => h)) (by omega)
      have hpr := hkr.blk (HK4.out.blk HP3.out.1 (fun h => h)) (show ¬ g = r by omega)
      have HBR := Lib.hid hbr
      have HPR := Lib.hid hpr
      have HITR := Lib.hid hit
      have hseen : wr.iterSeen r = seen := by unfold World.iterSeen; rw [hit]
      have HSEEN := Lib.hid hseen
      clear hkr hbr hpr hit hseen hrange hc2' hc2 hc3 hf3 hrun2
      go_wp2_with (at_next; refine wpList_next_at rfl _ rfl wr r m1 clock c0 seen es clock (by rfl) HITR.out HBR.out HST.out.1 hcc ?_ ?_)
      · intro hdone
        go_wp2
        go_end0
        refine ⟨rfl, m1, ?_, ?_, .inr HM1.out⟩
        · exact HKT.out _ ((HK2.out.mono (G := fun k => k = g ∨ k = m1) (fun k h _ => .inr h)).trans HK3.out (fun _ h => .inl h) |>.trans (HK4.out.trans HKR.out (fun k h => .inr (by have h' : k = r := h; omega))) (fun k h => h.elim) |> fun h => h)
        · rw [HTP.out]
          exact (HP3.out.keep HK4.out (fun h => h) (fun h => h)).keep HKR.out (show ¬ g = r by omega) (show ¬ m1 = r by omega)
      · intro e he w1 hk1 hit1 hsz1
        have he : e ∈ (leftOf es seen).toList := by simpa using he
        obtain ⟨x, v, hx, hv, hlt⟩ := HENT.out e (mem_left he).1
        have hentry := run_entry_at (P := Tryd.prog) w1 r m1 clock seen es clock e hit1 (hk1.blk HBR.out (by omega)) (mem_left he).1 HST.out.2.1
        rw [hx, hv] at hentry ⊢
        have hcm := blk_cell (hk1.blk HPR.out (show ¬ g = r by omega)) 3
        have hge : ¬ x ≤ n - 256 := by omega
        have HX := Lib.hid (left_shrinks es seen e he)
        have HK1 := Lib.hid hk1
        have HIT1 := Lib.hid hit1
        have hseen1 : w1.iterSeen r = seen.push e.born := by unfold World.iterSeen; rw [hit1]
        have HSN1 := Lib.hid hseen1
        have hlt' : n - 256 < x := hlt
        clear hk1 hit1 hseen1 hx hv hsz1 he hlt
        go_wp2
        refine ⟨⟨seen.push e.born, clock, HIT1.out, Nat.le_refl _, HKR.out.trans HK1.out (fun k h => .inl h)⟩, ?_⟩
        rw [HSN1.out, HSEEN.out]
        exact HX.out
end Go.Proofs.YtgkinjfinijnnaaDoor
