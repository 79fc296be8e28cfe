/- The walk of Put, where an entry is placed. -/
import Derived.Test.YtacbebkaammcnaaDoorPutOk

set_option linter.unusedVariables false
set_option linter.unusedSimpArgs false
namespace Go.Proofs.YtacbebkaammcnaaDoor
open Go.RowKit Go.Proofs.YtacbebkaammcnaaDoorW.PrintWords Go.Proofs.Mine

theorem grown_cell {w w1 : World} {row : Option Nat} {a : Addr} {v : Value} (hg : w.grownBy w1 row) (hc : w.cell? a = some v) (hn : some a.block ≠ row) : w1.cell? a = some v :=
  (World.cell?_of_block (w := w) (hg.block a.block (World.block_lt_of_cell? w a hc) hn)).trans hc
theorem twin_lit (kd c q : Int) (data : ByteArray) (mem : List Int) (dst : Int) (A : Option Addr) (cap : Nat) (w : World) (hr : ReadsInt w .i64 A mem.length mem) (hn : mem.length ≤ 1000000) :
    Calls Tryd.prog 16 #[.agg #[.int .i64 kd, .int .i64 c, .int .i64 q, .string data, .slice A mem.length cap, .int .i64 dst]] w fun e w' => ∃ v, e = .returned (.agg #[.int .i64 kd, .int .i64 c, .int .i64 q, .string data, v, .int .i64 dst]) ∧ w'.ownsRow w.heap.size 3 1 v mem.length (nums .i64 mem) ∧ Below w.heap.size w w' :=
  twin_any ⟨kd, c, q, data, mem, dst⟩ A cap w hr hn
set_option maxRecDepth 100000 in
set_option maxHeartbeats 4000000 in
theorem put_ok (w : World) (base : Nat) (F : Nat → Prop) (b : Nat) (s : TSt) (x : Ent) (A : Option Addr) (cap : Nat) (h : TableAt w base F b s) (hok : okPut s x = true) (hr : ReadsInt w .i64 A x.mem.length x.mem) (hn : x.mem.length ≤ 1000000) (hl : s.l.length ≤ 1000000) :
    Calls Tryd.prog 10 #[.pointer (some ⟨b, 0, none⟩), x.val (.slice A x.mem.length cap)] w fun e w' => e = .returned (.tuple #[.int .i64 ((s.l.length : Int) + 1), .bool true]) ∧ Table' w base F b (putT s x) w' := by
  obtain ⟨hkd, hc, hq, hgr⟩ := okPut_true hok
  obtain ⟨kd, c, q, data, mem, dst⟩ := x
  simp only [Ent.val] at hkd hc hq hgr hr hn ⊢
  have hk1 : Keep F w (w.alloc (.cells #[.int .i64 kd, .int .i64 c, .int .i64 q, .string data, .slice A mem.length cap, .int .i64 dst] 31)) := (Keep.refl F w).alloc _
  have HT := Lib.hid (h.keep ((Keep.refl (fun _ => False) w).alloc (.cells #[.int .i64 kd, .int .i64 c, .int .i64 q, .string data, .slice A mem.length cap, .int .i64 dst] 31)) (fun _ _ h => h))
  have HF1 : RowKit.Hid (∀ k, F k → F k ∨ w.heap.size ≤ k) := fun k h => .inl h
  have HK1 := Lib.hid hk1
  have HRA := Lib.hid (hr.below ((Below.refl _ _).alloc (Nat.le_refl _) (.cells #[.int .i64 kd, .int .i64 c, .int .i64 q, .string data, .slice A mem.length cap, .int .i64 dst] 31)))
  have HNB : RowKit.Hid (∀ k, F k → k ≠ w.heap.size) := fun k hk => by have := (h.2.1 k hk).2; omega
  generalize hg : grN s c = g at *
  clear hr h hok hk1
  go_enter Tryd.func10, Tryd.ntmps10
  go_upto_region 1 with fail
  generalize hW : w.alloc _ = W at *
  have hb0 : W.heap[w.heap.size]? = some (.cells #[.int .i64 kd, .int .i64 c, .int .i64 q, .string data, .slice A mem.length cap, .int .i64 dst] 31 (0, 0)) := by rw [← hW]; exact heap_alloc_new w _
  have e0 := blk_cell hb0 0
  go_cut [6] (fun v wx => v = .bool true ∧ wx = W)
  case first =>
    have k := kinds_of hkd
    rcases k with k1 | ⟨k1, k2⟩ | ⟨k1, k2, k3⟩
    all_goals
      go_wp2
      go_meet
      case rel => exact ⟨rfl, rfl⟩
  case rest =>
    obtain ⟨rfl, rfl⟩ := hcut
    obtain ⟨t1, t2, vl, B1, B2, hb, hR, hM1, hM2, f1, f2, hne⟩ := HT.out
    have e1 := blk_cell hb0 1
    have e2 := blk_cell hb0 2
    have hc2 := blk_cell hb 2
    have hlk : ∀ nq, (Instr.lookup 47 (.map (some B2)) (.int .i64 c) false).run Tryd.prog (wc.drewN nq) = .ok (.int .i64 g) (wc.drewN nq) := fun nq => by rw [gr_look (w := wc.drewN nq) (s := s) hM2, hg]
    have d1 : decide (c < 1) = false := by simpa using hc
    have d2 : decide (q < 1) = false := by simpa using hq
    have d3 : decide (q ≤ g) = false := by simpa using hgr
    have HB0 := Lib.hid hb0
    have HB := Lib.hid hb
    have HR := Lib.hid hR
    have HM1 := Lib.hid hM1
    have HM2 := Lib.hid hM2
    have HW := Lib.hid hW
    have HG := Lib.hid hg
    clear hc hq hgr hkd hb0 hb hR hM1 hM2 hW hg
    go_wp2_with fail
    go_quiet (fail)
    go_wp2_with fail
    have hK7 : Keep (fun _ => False) wc (wc.drewN nq) := (Keep.refl _ _).drewN nq
    have HB0 := Lib.hid (hK7.blk HB0.out (fun h => h))
    have HB := Lib.hid (hK7.blk HB.out (fun h => h))
    have HR := Lib.hid (hK7.R HR.out (fun _ _ h => h))
    have HM1 : RowKit.Hid (MapG reqV (Value.int .i64) (wc.drewN nq) B1 s.pl) := HM1.out
    have HM2 : RowKit.Hid (MapI (Value.int .i64) (wc.drewN nq) B2 s.gr) := HM2.out
    have HRA : RowKit.Hid (ReadsInt (wc.drewN nq).drew .i64 A mem.length mem) := HRA.out
    have HT2 : RowKit.Hid (∀ k, F k → base ≤ k ∧ k < (wc.drewN nq).heap.size) := t2
    have HK1 : RowKit.Hid (Keep F w (wc.drewN nq)) := HK1.out.drewN nq
    have hbb : base ≤ (wc.drewN nq).heap.size := by have := t2 b t1; show base ≤ wc.heap.size; omega
    clear hK7 HT HW e0 e1 e2 hc2 hlk t2
    generalize wc.drewN nq = W at *
    have c0 : W.drew.cell? ⟨b, 0, none⟩ = some vl := blk_cell HB.out 0
    have e0 : W.drew.cell? ⟨w.heap.size, 0, none⟩ = some (.int .i64 kd) := blk_cell HB0.out 0
    have e1 : W.drew.cell? ⟨w.heap.size, 1, none⟩ = some (.int .i64 c) := blk_cell HB0.out 1
    have e2 : W.drew.cell? ⟨w.heap.size, 2, none⟩ = some (.int .i64 q) := blk_cell HB0.out 2
    have e3 : W.drew.cell? ⟨w.heap.size, 3, none⟩ = some (.string data) := blk_cell HB0.out 3
    have e4 : W.drew.cell? ⟨w.heap.size, 4, none⟩ = some (.slice A mem.length cap) := blk_cell HB0.out 4
    have e5 : W.drew.cell? ⟨w.heap.size, 5, none⟩ = some (.int .i64 dst) := blk_cell HB0.out 5
    have NE : RowKit.Hid (some b ≠ vl.ownBlock) := Kd.R_ne HR.out HB.out (by decide)
    go_region_law (first
      | (have hb1 := HB1.out
         refine Kd.R_append_step entK (w0 := w') base (by rfl) _ _ 40 31 _ 72 (by rfl) Tryd.underlying40 Tryd.info31 (by rfl) (by decide) (by decide) vl s.l ⟨kd, c, q, data, mem, dst⟩ (Ent.cells ⟨kd, c, q, data, mem, dst⟩ (.slice Av mem.length cv)) (fun k => F k ∨ W.heap.size ≤ k) (fun k => W.heap.size ≤ k) (by rfl) (by rfl) ⟨_, rfl, own_less HV.out hbb, fun k hk => own_base HV.out k hk⟩ (fun k hk => ⟨.inr hk, fun he => by have := Kd.R_lt HR.out k he.symm; omega⟩) (fun k hk => .inr (Nat.le_trans hb1.size hk)) (Kd.R_mono (Kd.R_below HR.out hb1) (fun k hk => .inl hk)) (Below.refl _ _) (Nat.le_trans hbb hb1.size) (by omega) ?_
         intro v1 w1 hR1 hB1 hg1 hat1
         have hv1 : ∃ A1 c1, v1 = .slice A1 (s.l.length + 1) c1 := by
           obtain ⟨A1, c1, h⟩ := Kd.R_slice hR1
           exact ⟨A1, c1, by rw [h, List.length_append]; rfl⟩
         obtain ⟨A1, c1, rfl⟩ := hv1
         have hcc : w1.cell? ⟨b, 0, none⟩ = some vl := grown_cell hg1 (hcell') NE.out
         have hff : w1.frozen? ⟨b, 0, none⟩ = false := blk_frozen (blk_grown (blk_below HB.out hb1) hg1 NE.out) 0)
      | (go_simp; go_at_call 16; refine (twin_lit kd c q data mem dst A cap W.drew HRA.out hn).mono ?_; rintro e w' ⟨v, rfl, hv, hB⟩
         have HB1 : RowKit.Hid (Below W.heap.size W w') := ⟨hB.os, hB.tape, hB.output, hB.size, hB.block⟩
         have HV : RowKit.Hid (w'.ownsRow W.heap.size 3 1 v mem.length (nums .i64 mem)) := hv
         obtain ⟨Av, cv, rfl⟩ := own_slice hv
         have hcell' : w'.cell? ⟨b, 0, none⟩ = some vl := blk_cell (blk_below HB.out HB1.out) 0
         have hcella : ∀ X, (w'.alloc X).cell? ⟨b, 0, none⟩ = some vl := fun X => blk_cell (blk_alloc (blk_below HB.out HB1.out) X) 0
         clear hv hB))
    all_goals
      clear e0 e1 e2 e3 e4 e5 c0
      obtain ⟨F', hTA, hF', hKA, hbA, g1, g2⟩ := tab_appended (b := b) t1 HT2.out HB.out HM1.out HM2.out f1 f2 hne HR.out HB1.out hR1 hg1
      have hbx := hKA.blk HB0.out (fun hF => HNB.out _ hF rfl)
      have HKA := Lib.hid hKA
      have HF' := Lib.hid hF'
      clear hKA hF' hR1 hB1 hg1 hat1 hcc hff hcell' hcella
      generalize w1.setCell _ _ = W2 at *
      obtain ⟨m1, m2, _, _, _⟩ := tab_maps hTA hbA
      have m1' : MapG reqV (Value.int .i64) W2.drew B1 s.pl := m1
      obtain ⟨W3, hrun3, hm3, hk3, hs3⟩ := m1'.update (P := Tryd.prog) reqOk Tryd.underlying46 (c, q) ((s.l.length : Int) + 1)
      have hT3 := tab_places hTA hbA hm3 ⟨hk3.os, hk3.tape, hk3.output, hk3.size, hk3.block⟩
      have hbx3 := hk3.blk hbx (fun he => by obtain ⟨es, c, h⟩ := mapG_blk m1; rw [← he] at h; exact map_typed h hbx)
      have hr3 : (Instr.mapUpdate 46 (.map (some B1)) (.agg #[.int .i64 c, .int .i64 q]) (.int .i64 ((s.l.length : Int) + 1))).run Tryd.prog W2.drew = .ok () W3 := hrun3
      have c0 := blk_cell hbA 0
      have c1' := blk_cell hbA 1
      have e1 := blk_cell hbx 1
      have e2 := blk_cell hbx 2
      have HT3 := Lib.hid hT3
      have HBX3 := Lib.hid hbx3
      have HK3 : RowKit.Hid (Keep (fun k => k = B1) W2 W3) := ⟨hk3.os, hk3.tape, hk3.output, hk3.size, hk3.block⟩
      have u1 := blk_cell hT3.2 1
      have u0 := blk_cell hT3.2 0
      have u2 := blk_cell hbx3 1
      have u3 := blk_cell hbx3 2
      have HG1 := Lib.hid g1
      have HG2 := Lib.hid g2
      clear hTA hbA hbx m1 m2 m1' hrun3 hm3 hk3 hs3 hT3 hbx3 g1 g2
      go_wp2_with fail
      go_region_held3 (fun w' => w'.cell? ⟨b, 1, none⟩ = some (.map (some B1)) ∧ w'.cell? ⟨w.heap.size, 1, none⟩ = some (.int .i64 c) ∧ w'.cell? ⟨w.heap.size, 2, none⟩ = some (.int .i64 q) ∧ w'.cell? ⟨b, 0, none⟩ = some (.slice A1 (s.l.length + 1) c1)) (go_keep) (fail)
      clear c0 c1' e1 e2 u0 u1 u2 u3 hr3
      obtain ⟨m1, m2, _, _, _⟩ := tab_maps HT3.out.1 HT3.out.2
      have m2' : MapI (Value.int .i64) W3.drew B2 s.gr := m2
      obtain ⟨W4, hrun4, hm4, hk4, hs4⟩ := m2'.update (P := Tryd.prog) Tryd.underlying47 Tryd.underlying3 c q
      have hT4 := tab_great HT3.out.1 HT3.out.2 hm4 ⟨hk4.os, hk4.tape, hk4.output, hk4.size, hk4.block⟩
      have hbx4 := hk4.blk HBX3.out (fun he => by obtain ⟨es, c, h⟩ := mapI_blk m2; rw [← he] at h; exact map_typed h HBX3.out)
      have c0 := blk_cell HT3.out.2 2
      have e1 := blk_cell HBX3.out 1
      have e2 := blk_cell HBX3.out 2
      have u0 := blk_cell hT4.2 2
      have u2 := blk_cell hbx4 1
      have u3 := blk_cell hbx4 2
      have v0 := blk_cell hT4.2 0
      have HT4 := Lib.hid hT4.1
      have HK4 : RowKit.Hid (Keep (fun k => k = B2) W3 W4) := ⟨hk4.os, hk4.tape, hk4.output, hk4.size, hk4.block⟩
      clear m1 m2 m2' hm4 hk4 hs4 hT4 hbx4
      go_wp2_with fail
      go_region_held3 (fun w' => w'.cell? ⟨b, 2, none⟩ = some (.map (some B2)) ∧ w'.cell? ⟨w.heap.size, 1, none⟩ = some (.int .i64 c) ∧ w'.cell? ⟨w.heap.size, 2, none⟩ = some (.int .i64 q)) (go_keep) (fail)
      go_wp2
      go_ret2
      refine ⟨by simp, F', HT4.out, fun k hk => ?_, ((HK1.out.trans HKA.out (fun k h => .inl h)).trans HK3.out (fun k h => by subst h; exact .inl f1)).trans HK4.out (fun k h => by subst h; exact .inl f2)⟩
      rcases HF'.out k hk with h | h
      · exact .inl h
      · exact .inr (Nat.le_trans HK1.out.size h)
end Go.Proofs.YtacbebkaammcnaaDoor
