/- GoodMsg. -/
import Derived.Test.YtkdlghbfplhkpaaDoorGodB
import Derived.Test.YtkdlghbfplhkpaaDoorRdG
import Derived.Deep.RegionHeld3
set_option linter.unusedVariables false
set_option linter.unusedSimpArgs false
namespace Go.Proofs.YtkdlghbfplhkpaaDoor
open Go.RowKit Go.Proofs.YtkdlghbfplhkpaaDoorW.PrintWords Go.Proofs.Mine

abbrev ehK : Kd Eh := Kd.fixed Eh.cells 6 (fun _ => rfl) (fun x u hu => by
  simp only [Eh.cells, List.mem_cons, List.not_mem_nil, or_false] at hu
  rcases hu with rfl | rfl | rfl | rfl | rfl | rfl <;> rfl)
def EhOk (w : World) (x : Eh) : Prop := entE x.e = 0 ∧ x.data.size ≤ 16 ∧ x.mem.length ≤ 9 ∧ x.mem.length ≤ x.cap ∧ ReadsInt w .i64 x.A x.mem.length x.mem
theorem EhOk.below {w w1 : World} {x : Eh} (h : EhOk w x) (hB : Below w.heap.size w w1) : EhOk w1 x := ⟨h.1, h.2.1, h.2.2.1, h.2.2.2.1, h.2.2.2.2.below hB⟩
theorem msgE_zero {m : Msg} (h1 : 1 ≤ m.kd ∧ m.kd ≤ 15) (h2 : m.terms.length ≤ 64) (h3 : m.ents.length ≤ 64) (h4 : ∀ x ∈ m.ents, entE x = 0) (h5 : m.old.length ≤ 9) (h6 : m.new.length ≤ 9) : msgE m = 0 := by
  unfold msgE msgHE kindsE manyE
  rw [if_neg (by omega), if_neg (by omega), if_neg (by omega), if_neg (by omega), if_neg (by omega)]
  have key : ∀ l : List Ent, (∀ x ∈ l, entE x = 0) → entsE 0 l = 0 := by
    intro l
    induction l with
    | nil => intro _; rfl
    | cons a l ih =>
      intro h
      show entsE (orE 0 (entE a)) l = 0
      rw [h a (by simp)]
      exact ih (fun x hx => h x (by simp [hx]))
  show orE (orE (entsE (orE (orE 0 0) 0) m.ents) 0) 0 = 0
  rw [show orE (orE 0 0) 0 = (0 : Int) from rfl, key _ h4]
  rfl
theorem infoE28 : (Tryd.prog.info? 27).map (fun i => (i.zero, i.size, i.bytes)) = some (some (.agg #[.int .i64 0, .int .i64 0, .int .i64 0, .string ByteArray.empty, .slice none 0 0, .int .i64 0]), 6, 72) := by kernel_rfl
/-- The row of entries, read as entries. -/
theorem ehRow {w w1 : World} {base : Nat} {A : Option Addr} {c : Nat} {hs : List Eh} {G : Nat → Prop} {ok : Nat → Prop} (h : ehK.R 27 w base ok (.slice A hs.length c) hs) (k : Keep G w w1) (hG : ∀ j, ok j → ¬ G j) (hh : ∀ x ∈ hs, x.mem.length ≤ x.cap ∧ ReadsInt w1 .i64 x.A x.mem.length x.mem) : entK.C w1 A hs.length (hs.map Eh.e) ∧ hs.length ≤ c := by
  have h1 := Kd.R_step h (fun j hj hlt => k.block j hlt (hG j hj))
  obtain ⟨_, hle, hC⟩ := Kd.R_reads' h1
  refine ⟨⟨by rw [List.length_map], hC.2.1, fun hp => ?_⟩, hle⟩
  obtain ⟨ad, hA, hc⟩ := hC.2.2 hp
  refine ⟨ad, hA, fun j x hx => ?_⟩
  rw [List.getElem?_map] at hx
  obtain ⟨y, hy, rfl⟩ := Option.map_eq_some_iff.1 hx
  obtain ⟨cs, h2, h3, h4⟩ := hc j y hy
  have h5 := hh y (List.mem_of_getElem? hy)
  exact ⟨cs, h2, ⟨y.A, y.cap, h3, h5.1, h5.2⟩, h4⟩
/-- What GoodMsg tells. -/
def GoodMR (wb w : World) (At Ao An : Option Addr) (ct co cn : Nat) (r : Ending) (w' : World) : Prop :=
  ∃ (m : Msg) (Ae : Option Addr) (ce : Nat), r = .returned (msgV m At Ae Ao An ct ce co cn) ∧ (∀ W', Keep (fun k => wb.heap.size ≤ k ∧ k < w.heap.size) w' W' → MsgR W' m At Ae Ao An) ∧ (1 ≤ m.kd ∧ m.kd ≤ 15) ∧ m.ents.length ≤ 64 ∧ m.ents.length ≤ ce ∧ (∀ x ∈ m.ents, entE x = 0 ∧ x.data.size ≤ 16 ∧ x.mem.length ≤ 9) ∧ (m.terms.length ≤ 64 ∧ m.terms.length ≤ ct) ∧ (m.old.length ≤ 9 ∧ m.old.length ≤ co) ∧ (m.new.length ≤ 9 ∧ m.new.length ≤ cn) ∧ Below w.heap.size w w'
set_option maxRecDepth 100000 in
set_option maxHeartbeats 4000000 in
theorem goodMsg_any (m : Msg) (At Ae Ao An : Option Addr) (ct ce co cn : Nat) (wb w : World) (hwb : Below wb.heap.size wb w) (hm : MsgR wb m At Ae Ao An) (h1 : m.terms.length ≤ ct) (h2 : m.old.length ≤ co) (h3 : m.new.length ≤ cn) :
    Calls Tryd.prog 13 #[msgV m At Ae Ao An ct ce co cn] w (GoodMR wb w At Ao An ct co cn) := by
  have HWB := Lib.hid hwb
  have HM := Lib.hid hm
  have hmx := hm.ents.2.1
  clear hm
  obtain ⟨fr, tto, gen, kd, term, index, last, commit, yes, terms, ents, old, new⟩ := m
  unfold msgV
  dsimp only at *
  obtain ⟨W1, hW⟩ : ∃ W1, W1 = (w.alloc (.cells #[.int .i64 fr, .int .i64 tto, .int .i64 gen, .int .i64 kd, .int .i64 term, .int .i64 index, .int .i64 last, .int .i64 commit, .bool yes, .slice At terms.length ct, .slice Ae ents.length ce, .slice Ao old.length co, .slice An new.length cn] 32 (0, 0))).alloc (.cells #[.int .i64 0, .int .i64 0, .int .i64 0, .int .i64 0, .int .i64 0, .int .i64 0, .int .i64 0, .int .i64 0, .bool false, .slice none 0 0, .slice none 0 0, .slice none 0 0, .slice none 0 0] 32 (0, 0)) := ⟨_, rfl⟩
  obtain ⟨g1, hg1⟩ : ∃ g, g = w.heap.size := ⟨_, rfl⟩
  obtain ⟨g2, hg2⟩ : ∃ g, g = w.heap.size + 1 := ⟨_, rfl⟩
  have hB1 : Below w.heap.size w W1 := by rw [hW]; exact ((Below.refl _ w).alloc (Nat.le_refl _) _).alloc (by simp) _
  have hb1 : W1.heap[g1]? = some (.cells #[.int .i64 fr, .int .i64 tto, .int .i64 gen, .int .i64 kd, .int .i64 term, .int .i64 index, .int .i64 last, .int .i64 commit, .bool yes, .slice At terms.length ct, .slice Ae ents.length ce, .slice Ao old.length co, .slice An new.length cn] 32 (0, 0)) := by rw [hW, hg1]; exact blk_alloc (heap_alloc_new w _) _
  have hb2 : W1.heap[g2]? = some (.cells zeroMsg 32 (0, 0)) := by rw [hW, hg2]; exact (by rw [show w.heap.size + 1 = (w.alloc (.cells #[.int .i64 fr, .int .i64 tto, .int .i64 gen, .int .i64 kd, .int .i64 term, .int .i64 index, .int .i64 last, .int .i64 commit, .bool yes, .slice At terms.length ct, .slice Ae ents.length ce, .slice Ao old.length co, .slice An new.length cn] 32 (0, 0))).heap.size from by simp]; exact heap_alloc_new _ _)
  have h21 : g2 ≠ g1 := by omega
  obtain ⟨kd1, hkd1⟩ : ∃ k, k = 1 + kd % 15 := ⟨_, rfl⟩
  have HK := Lib.hid (show 1 ≤ kd1 ∧ kd1 ≤ 15 by omega)
  obtain ⟨W2, hW2⟩ : ∃ W2, W2 = W1.setCell ⟨g1, 3, none⟩ (.int .i64 kd1) := ⟨_, rfl⟩
  have hk12 : Keep (fun k => k = g1) W1 W2 := by rw [hW2]; exact (Keep.refl (fun k => k = g1) W1).setCell ⟨g1, 3, none⟩ _ (.inl rfl)
  have Hb12 := Lib.hid (show W2.heap[g1]? = some (.cells #[.int .i64 fr, .int .i64 tto, .int .i64 gen, .int .i64 kd1, .int .i64 term, .int .i64 index, .int .i64 last, .int .i64 commit, .bool yes, .slice At terms.length ct, .slice Ae ents.length ce, .slice Ao old.length co, .slice An new.length cn] 32 (0, 0)) from by rw [hW2]; exact blk_set hb1 3 (.int .i64 kd1))
  have Hb22 := Lib.hid (hk12.blk hb2 (fun e => h21 e))
  have HB2 := Lib.hid (hB1.trans (hk12.to_below hB1.size (fun k hk => by have e : k = g1 := hk; rw [e, hg1]; exact Nat.le_refl _)))
  have hs2 : W2.heap.size = w.heap.size + 2 := by rw [hW2, hW]; simp [World.setCell]
  have HS2 := Lib.hid (show g1 < W2.heap.size ∧ g2 < W2.heap.size by omega)
  have Hb1 := Lib.hid hb1
  have HG1 := Lib.hid hg1
  have HG2 := Lib.hid hg2
  have HW := Lib.hid hW
  have HW2 := Lib.hid hW2
  have HKD := Lib.hid hkd1
  clear hB1 hb1 hb2 hg1 hg2 hW hW2 hk12 hs2 hkd1
  go_enter Tryd.func13, Tryd.ntmps13
  go_wp2_with (go_at_call 7
               rw [← HW.out, ← HG2.out, ← HG1.out]
               refine (within_any kd 15 _ (by decide) (by decide)).mono ?_
               rintro r w2 ⟨rfl, rfl⟩
               have q3 := blk_cell Hb1.out 3
               have fq3 := blk_frozen Hb1.out 3
               have hkw : IntKind.i64.wrap (1 + kd % 15) = 1 + kd % 15 := IntWalk.i64_in _ (by omega))
  rw [← HKD.out, ← HW2.out]
  clear q3 fq3 hkw
  go_loopw [3, 4] (fun u iv wr => ∃ (k : Nat) (hs : List Eh), k ≤ ents.length ∧ k ≤ 64 ∧ iv = .int .i64 (k : Int) ∧ RowKit.Hid (hs.length = k) ∧ RowKit.Hid (∀ x ∈ hs, EhOk wb x) ∧ RowKit.Hid (ehK.R 27 wr W2.heap.size (fun k => W2.heap.size ≤ k) u hs) ∧ RowKit.Hid (Below W2.heap.size W2 wr)) (fun _ iv _ => ents.length - (intOf iv).toNat)
  case atStart => exact ⟨0, [], Nat.zero_le _, by omega, rfl, Lib.hid rfl, Lib.hid (fun x hx => (by cases hx)), Lib.hid (Kd.R_nil _ _ _ _ _), Lib.hid (Below.refl _ _)⟩
  case round =>
    obtain ⟨k, hs, hk, hk1, rfl, HL, HH, HU, HB⟩ := hrel
    have hk0 : (0 : Int) ≤ (k : Int) := by omega
    have hbr := blk_below Hb12.out HB.out
    have hb2r := blk_below Hb22.out HB.out
    have Hb2r := Lib.hid hb2r
    have q0 := blk_cell hbr 0
    have q1 := blk_cell hbr 1
    have q2 := blk_cell hbr 2
    have q3 := blk_cell hbr 3
    have q4 := blk_cell hbr 4
    have q5 := blk_cell hbr 5
    have q6 := blk_cell hbr 6
    have q7 := blk_cell hbr 7
    have q8 := blk_cell hbr 8
    have q9 := blk_cell hbr 9
    have q10 := blk_cell hbr 10
    have q11 := blk_cell hbr 11
    have q12 := blk_cell hbr 12
    have f0 := fun j => blk_frozen hbr j
    have HBW := Lib.hid (HB2.out.trans (HB.out.mono HB2.out.size))
    obtain ⟨Au, cu, rfl⟩ := Kd.R_slice HU.out
    clear hbr
    by_cases hgo : (k : Int) < (ents.length : Int) ∧ (k : Int) < 64
    · obtain ⟨hlt, hlt2⟩ := hgo
      clear hb2r
      obtain ⟨x, hx⟩ : ∃ x, ents[k]? = some x := ⟨_, List.getElem?_eq_getElem (by omega)⟩
      obtain ⟨ad, rfl, hE⟩ := entAt_of HM.out.ents hx
      obtain ⟨Ax, cx, v0, v1, v2, v3, v4, v5, hcap, hrw⟩ := hE
      have HRW := Lib.hid hrw
      have HBB := HWB.out.trans (HBW.out.mono HWB.out.size)
      have HRD := Lib.hid (hrw.below HBB)
      replace v0 := pw_cell_below HBB v0
      replace v1 := pw_cell_below HBB v1
      replace v2 := pw_cell_below HBB v2
      replace v3 := pw_cell_below HBB v3
      replace v4 := pw_cell_below HBB v4
      replace v5 := pw_cell_below HBB v5
      obtain ⟨ea, hea⟩ : ∃ ea, ea = ad.add (k * 6) := ⟨_, rfl⟩
      rw [← hea] at v0 v1 v2 v3 v4 v5
      have hea2 := hea.symm
      have hsl : hs.length ≤ 64 := by have := HL.out; omega
      clear hea hx hrw HBB
      go_wp2_with (first
        | (go_at_call 14
           refine (good_lit x.kd x.c x.q x.dst x.data x.mem Ax cx wr HRD.out hcap).mono ?_
           rintro r w3 ⟨⟨y, rfl, hy⟩, hB3⟩
           have HY := Lib.hid hy
           have HB3 := Lib.hid hB3
           clear hy hB3)
        | (at_builtin; go_loud (refine Kd.R_append ehK (w0 := W2) W2.heap.size rfl _ _ 28 27 _ 72 rfl Tryd.underlying28 infoE28 rfl (by decide) (by decide) (.slice Au hs.length cu) hs y [.int .i64 y.kd, .int .i64 y.c, .int .i64 y.q, .string y.data, .slice y.A y.mem.length y.cap, .int .i64 y.dst] (fun k => W2.heap.size ≤ k) (fun _ => False) rfl rfl rfl ?e2 ?e3 ?e4 ?e5 ?e6 ?e7 ?e8)))
      case e2 => exact fun j hj => hj.elim
      case e3 => exact fun j hj => Nat.le_trans (Nat.le_trans HB.out.size HB3.out.size) hj
      case e4 => exact Kd.R_below HU.out HB3.out
      case e5 => exact HB.out.trans (HB3.out.mono HB.out.size)
      case e6 => exact Nat.le_trans HB.out.size HB3.out.size
      case e7 => omega
      case e8 =>
        intro v2 w4 hR2 hB4 hg4 _
        have L1 := Lib.hid hR2
        have L2 := Lib.hid hB4
        have L3 := Lib.hid (show ∀ x ∈ hs ++ [y], EhOk wb x from fun z hz => by
          rcases List.mem_append.1 hz with hz | hz
          · exact HH.out z hz
          · rw [List.mem_singleton.1 hz]
            exact ⟨HY.out.1, HY.out.2.1, HY.out.2.2.1, HY.out.2.2.2.1, HY.out.2.2.2.2 wb HRW.out⟩)
        clear hR2 hB4 hg4
        go_wp2
        exact ⟨⟨k + 1, hs ++ [y], by omega, by omega, by simp, Lib.hid (by rw [List.length_append, HL.out]; rfl), L3, L1, L2⟩, by simp [intOf]; omega⟩
    · have hsl : hs.length ≤ 64 := by have := HL.out; omega
      have r0 := blk_cell hb2r 0
      have r1 := blk_cell hb2r 1
      have r2 := blk_cell hb2r 2
      have r3 := blk_cell hb2r 3
      have r4 := blk_cell hb2r 4
      have r5 := blk_cell hb2r 5
      have r6 := blk_cell hb2r 6
      have r7 := blk_cell hb2r 7
      have r8 := blk_cell hb2r 8
      have r9 := blk_cell hb2r 9
      have r10 := blk_cell hb2r 10
      have r11 := blk_cell hb2r 11
      have r12 := blk_cell hb2r 12
      have r0f := fun j => blk_frozen hb2r j
      clear hb2r
      by_cases hlt : (k : Int) < (ents.length : Int)
      · have hlt2 : ¬ (k : Int) < 64 := fun e => hgo ⟨hlt, e⟩
        clear hgo
        by_cases a1 : (64 : Int) < (terms.length : Int)
        · by_cases a2 : (9 : Int) < (old.length : Int)
          · by_cases a3 : (9 : Int) < (new.length : Int)
            · have hct : ∀ W, (Instr.slice 25 (.slice At terms.length ct) none (some (.int .i64 64)) none).run Tryd.prog W = .ok (.slice At 64 ct) W := fun W => cut_i At terms.length ct 64 (by omega) W
              have hxlt : (terms.take 64).length = 64 := by rw [List.length_take]; omega
              have hco : ∀ W, (Instr.slice 25 (.slice Ao old.length co) none (some (.int .i64 9)) none).run Tryd.prog W = .ok (.slice Ao 9 co) W := fun W => cut_i Ao old.length co 9 (by omega) W
              have hxlo : (old.take 9).length = 9 := by rw [List.length_take]; omega
              have hcn : ∀ W, (Instr.slice 25 (.slice An new.length cn) none (some (.int .i64 9)) none).run Tryd.prog W = .ok (.slice An 9 cn) W := fun W => cut_i An new.length cn 9 (by omega) W
              have hxln : (new.take 9).length = 9 := by rw [List.length_take]; omega
              go_wp2_with fail
              clear q0 q1 q2 q3 q4 q5 q6 q7 q8 q9 q10 q11 q12 f0 r0 r1 r2 r3 r4 r5 r6 r7 r8 r9 r10 r11 r12 r0f
              have hkg : Keep (fun k => k = g1) wr ((((wr.setCell ⟨g1, 10, none⟩ (.slice Au hs.length cu)).setCell ⟨g1, 9, none⟩ (.slice At 64 ct)).setCell ⟨g1, 11, none⟩ (.slice Ao 9 co)).setCell ⟨g1, 12, none⟩ (.slice An 9 cn)) := ((((Keep.refl (fun k => k = g1) wr).setCell ⟨g1, 10, none⟩ _ (.inl rfl)).setCell ⟨g1, 9, none⟩ _ (.inl rfl)).setCell ⟨g1, 11, none⟩ _ (.inl rfl)).setCell ⟨g1, 12, none⟩ _ (.inl rfl)
              have hbg2 := hkg.blk Hb2r.out (fun e => h21 e)
              have hf : (((((((((((((((((wr.setCell ⟨g1, 10, none⟩ (.slice Au hs.length cu)).setCell ⟨g1, 9, none⟩ (.slice At 64 ct)).setCell ⟨g1, 11, none⟩ (.slice Ao 9 co)).setCell ⟨g1, 12, none⟩ (.slice An 9 cn)).setCell ⟨g2, 0, none⟩ (.int .i64 fr)).setCell ⟨g2, 1, none⟩ (.int .i64 tto)).setCell ⟨g2, 2, none⟩ (.int .i64 gen)).setCell ⟨g2, 3, none⟩ (.int .i64 kd1)).setCell ⟨g2, 4, none⟩ (.int .i64 term)).setCell ⟨g2, 5, none⟩ (.int .i64 index)).setCell ⟨g2, 6, none⟩ (.int .i64 last)).setCell ⟨g2, 7, none⟩ (.int .i64 commit)).setCell ⟨g2, 8, none⟩ (.bool yes)).setCell ⟨g2, 9, none⟩ (.slice At 64 ct)).setCell ⟨g2, 10, none⟩ (.slice Au hs.length cu)).setCell ⟨g2, 11, none⟩ (.slice Ao 9 co)).setCell ⟨g2, 12, none⟩ (.slice An 9 cn)) = ((((wr.setCell ⟨g1, 10, none⟩ (.slice Au hs.length cu)).setCell ⟨g1, 9, none⟩ (.slice At 64 ct)).setCell ⟨g1, 11, none⟩ (.slice Ao 9 co)).setCell ⟨g1, 12, none⟩ (.slice An 9 cn)).setCells g2 0 [.int .i64 fr, .int .i64 tto, .int .i64 gen, .int .i64 kd1, .int .i64 term, .int .i64 index, .int .i64 last, .int .i64 commit, .bool yes, .slice At 64 ct, .slice Au hs.length cu, .slice Ao 9 co, .slice An 9 cn] := rfl
              rw [hf]
              clear hf
              have hkr := Keep.setCells (F := fun k => k = g2) g2 [.int .i64 fr, .int .i64 tto, .int .i64 gen, .int .i64 kd1, .int .i64 term, .int .i64 index, .int .i64 last, .int .i64 commit, .bool yes, .slice At 64 ct, .slice Au hs.length cu, .slice Ao 9 co, .slice An 9 cn] 0 _ (Keep.refl (fun k => k = g2) ((((wr.setCell ⟨g1, 10, none⟩ (.slice Au hs.length cu)).setCell ⟨g1, 9, none⟩ (.slice At 64 ct)).setCell ⟨g1, 11, none⟩ (.slice Ao 9 co)).setCell ⟨g1, 12, none⟩ (.slice An 9 cn))) (.inl rfl)
              obtain ⟨cur, hc1, hc2, hc3⟩ := setCells_blk [.int .i64 fr, .int .i64 tto, .int .i64 gen, .int .i64 kd1, .int .i64 term, .int .i64 index, .int .i64 last, .int .i64 commit, .bool yes, .slice At 64 ct, .slice Au hs.length cu, .slice Ao 9 co, .slice An 9 cn] 0 ((((wr.setCell ⟨g1, 10, none⟩ (.slice Au hs.length cu)).setCell ⟨g1, 9, none⟩ (.slice At 64 ct)).setCell ⟨g1, 11, none⟩ (.slice Ao 9 co)).setCell ⟨g1, 12, none⟩ (.slice An 9 cn)) zeroMsg hbg2 (Nat.le_refl 13)
              have hcur : cur = #[.int .i64 fr, .int .i64 tto, .int .i64 gen, .int .i64 kd1, .int .i64 term, .int .i64 index, .int .i64 last, .int .i64 commit, .bool yes, .slice At 64 ct, .slice Au hs.length cu, .slice Ao 9 co, .slice An 9 cn] := by
                apply Array.toList_inj.1
                rw [hc3]
                rfl
              subst hcur
              generalize ((((wr.setCell ⟨g1, 10, none⟩ (.slice Au hs.length cu)).setCell ⟨g1, 9, none⟩ (.slice At 64 ct)).setCell ⟨g1, 11, none⟩ (.slice Ao 9 co)).setCell ⟨g1, 12, none⟩ (.slice An 9 cn)).setCells g2 0 [.int .i64 fr, .int .i64 tto, .int .i64 gen, .int .i64 kd1, .int .i64 term, .int .i64 index, .int .i64 last, .int .i64 commit, .bool yes, .slice At 64 ct, .slice Au hs.length cu, .slice Ao 9 co, .slice An 9 cn] = W7 at *
              have r0 := blk_cell hc1 0
              have r1 := blk_cell hc1 1
              have r2 := blk_cell hc1 2
              have r3 := blk_cell hc1 3
              have r4 := blk_cell hc1 4
              have r5 := blk_cell hc1 5
              have r6 := blk_cell hc1 6
              have r7 := blk_cell hc1 7
              have r8 := blk_cell hc1 8
              have r9 := blk_cell hc1 9
              have r10 := blk_cell hc1 10
              have r11 := blk_cell hc1 11
              have r12 := blk_cell hc1 12
              simp only [List.getElem?_toArray, List.getElem?_cons_zero, List.getElem?_cons_succ] at r0 r1 r2 r3 r4 r5 r6 r7 r8 r9 r10 r11 r12
              have hB7 := HBW.out.trans (hkg.to_below HBW.out.size (fun k hk => by have e : k = g1 := hk; rw [e, HG1.out]; exact Nat.le_refl _))
              have hB8 := hB7.trans (hkr.to_below hB7.size (fun k hk => by have e : k = g2 := hk; rw [e, HG2.out]; omega))
              have hkk : Keep (fun k => k = g1 ∨ k = g2) wr W7 := (hkg.mono (G := fun k => k = g1 ∨ k = g2) (fun k h _ => .inl h)).trans (hkr.mono (G := fun k => k = g1 ∨ k = g2) (fun k h _ => .inr h)) (fun b h => .inl h)
              have hB9 := HWB.out.trans (hB8.mono HWB.out.size)
              have hcap : hs.length ≤ cu := (Kd.R_reads' HU.out).2.1
              have hC : ∀ W', Keep (fun k => wb.heap.size ≤ k ∧ k < w.heap.size) W7 W' → Below wb.heap.size wb W' ∧ entK.C W' Au hs.length (hs.map Eh.e) := fun W' hW' => by
                have hB10 := hB9.trans (hW'.to_below hB9.size (fun k hk => hk.1))
                exact ⟨hB10, (ehRow HU.out ((hkk.mono (G := fun k => k = g1 ∨ k = g2 ∨ k < w.heap.size) (fun k h _ => h.elim .inl (fun h => .inr (.inl h)))).trans (hW'.mono (G := fun k => k = g1 ∨ k = g2 ∨ k < w.heap.size) (fun k h _ => .inr (.inr h.2))) (fun b h => .inl h)) (fun k hk hg => by have h1 := HS2.out; have h2 := HB2.out.size; rcases hg with e | e | e <;> omega) (fun x hx => ⟨(HH.out x hx).2.2.2.1, ((HH.out x hx).2.2.2.2).below hB10⟩)).1⟩
              refine bodyPost_ret (v := .agg #[.int .i64 fr, .int .i64 tto, .int .i64 gen, .int .i64 kd1, .int .i64 term, .int .i64 index, .int .i64 last, .int .i64 commit, .bool yes, .slice At 64 ct, .slice Au hs.length cu, .slice Ao 9 co, .slice An 9 cn]) (by simp [results, Tryd.results13, go_sem, r0, r1, r2, r3, r4, r5, r6, r7, r8, r9, r10, r11, r12]) rfl ⟨⟨fr, tto, gen, kd1, term, index, last, commit, yes, (terms.take 64), hs.map Eh.e, (old.take 9), (new.take 9)⟩, Au, cu, ?_, fun W' hW' => ⟨?_, by show entK.C W' Au (hs.map Eh.e).length _; rw [List.length_map]; exact (hC W' hW').2, ?_, ?_⟩, HK.out, by show (hs.map Eh.e).length ≤ 64; rw [List.length_map, HL.out]; omega, by show (hs.map Eh.e).length ≤ cu; rw [List.length_map]; exact hcap, ?_, ?_, ?_, ?_, hB8⟩
              · unfold msgV
                dsimp only
                rw [List.length_map, hxlt, hxlo, hxln]
              · exact (show ReadsInt wb .i64 _ (terms.take 64).length (terms.take 64) from by rw [hxlt]; exact takeI (l := terms) HM.out.terms 64 (by omega)).below (hC W' hW').1
              · exact (show ReadsInt wb .i64 _ (old.take 9).length (old.take 9) from by rw [hxlo]; exact takeI (l := old) HM.out.old 9 (by omega)).below (hC W' hW').1
              · exact (show ReadsInt wb .i64 _ (new.take 9).length (new.take 9) from by rw [hxln]; exact takeI (l := new) HM.out.new 9 (by omega)).below (hC W' hW').1
              · intro x hx
                obtain ⟨y, hy, rfl⟩ := List.mem_map.1 hx
                exact ⟨(HH.out y hy).1, (HH.out y hy).2.1, (HH.out y hy).2.2.1⟩
              · show ((terms.take 64)).length ≤ 64 ∧ ((terms.take 64)).length ≤ ct
                omega
              · show ((old.take 9)).length ≤ 9 ∧ ((old.take 9)).length ≤ co
                omega
              · show ((new.take 9)).length ≤ 9 ∧ ((new.take 9)).length ≤ cn
                omega
            · have hct : ∀ W, (Instr.slice 25 (.slice At terms.length ct) none (some (.int .i64 64)) none).run Tryd.prog W = .ok (.slice At 64 ct) W := fun W => cut_i At terms.length ct 64 (by omega) W
              have hxlt : (terms.take 64).length = 64 := by rw [List.length_take]; omega
              have hco : ∀ W, (Instr.slice 25 (.slice Ao old.length co) none (some (.int .i64 9)) none).run Tryd.prog W = .ok (.slice Ao 9 co) W := fun W => cut_i Ao old.length co 9 (by omega) W
              have hxlo : (old.take 9).length = 9 := by rw [List.length_take]; omega
              go_wp2_with fail
              clear q0 q1 q2 q3 q4 q5 q6 q7 q8 q9 q10 q11 q12 f0 r0 r1 r2 r3 r4 r5 r6 r7 r8 r9 r10 r11 r12 r0f
              have hkg : Keep (fun k => k = g1) wr (((wr.setCell ⟨g1, 10, none⟩ (.slice Au hs.length cu)).setCell ⟨g1, 9, none⟩ (.slice At 64 ct)).setCell ⟨g1, 11, none⟩ (.slice Ao 9 co)) := (((Keep.refl (fun k => k = g1) wr).setCell ⟨g1, 10, none⟩ _ (.inl rfl)).setCell ⟨g1, 9, none⟩ _ (.inl rfl)).setCell ⟨g1, 11, none⟩ _ (.inl rfl)
              have hbg2 := hkg.blk Hb2r.out (fun e => h21 e)
              have hf : ((((((((((((((((wr.setCell ⟨g1, 10, none⟩ (.slice Au hs.length cu)).setCell ⟨g1, 9, none⟩ (.slice At 64 ct)).setCell ⟨g1, 11, none⟩ (.slice Ao 9 co)).setCell ⟨g2, 0, none⟩ (.int .i64 fr)).setCell ⟨g2, 1, none⟩ (.int .i64 tto)).setCell ⟨g2, 2, none⟩ (.int .i64 gen)).setCell ⟨g2, 3, none⟩ (.int .i64 kd1)).setCell ⟨g2, 4, none⟩ (.int .i64 term)).setCell ⟨g2, 5, none⟩ (.int .i64 index)).setCell ⟨g2, 6, none⟩ (.int .i64 last)).setCell ⟨g2, 7, none⟩ (.int .i64 commit)).setCell ⟨g2, 8, none⟩ (.bool yes)).setCell ⟨g2, 9, none⟩ (.slice At 64 ct)).setCell ⟨g2, 10, none⟩ (.slice Au hs.length cu)).setCell ⟨g2, 11, none⟩ (.slice Ao 9 co)).setCell ⟨g2, 12, none⟩ (.slice An new.length cn)) = (((wr.setCell ⟨g1, 10, none⟩ (.slice Au hs.length cu)).setCell ⟨g1, 9, none⟩ (.slice At 64 ct)).setCell ⟨g1, 11, none⟩ (.slice Ao 9 co)).setCells g2 0 [.int .i64 fr, .int .i64 tto, .int .i64 gen, .int .i64 kd1, .int .i64 term, .int .i64 index, .int .i64 last, .int .i64 commit, .bool yes, .slice At 64 ct, .slice Au hs.length cu, .slice Ao 9 co, .slice An new.length cn] := rfl
              rw [hf]
              clear hf
              have hkr := Keep.setCells (F := fun k => k = g2) g2 [.int .i64 fr, .int .i64 tto, .int .i64 gen, .int .i64 kd1, .int .i64 term, .int .i64 index, .int .i64 last, .int .i64 commit, .bool yes, .slice At 64 ct, .slice Au hs.length cu, .slice Ao 9 co, .slice An new.length cn] 0 _ (Keep.refl (fun k => k = g2) (((wr.setCell ⟨g1, 10, none⟩ (.slice Au hs.length cu)).setCell ⟨g1, 9, none⟩ (.slice At 64 ct)).setCell ⟨g1, 11, none⟩ (.slice Ao 9 co))) (.inl rfl)
              obtain ⟨cur, hc1, hc2, hc3⟩ := setCells_blk [.int .i64 fr, .int .i64 tto, .int .i64 gen, .int .i64 kd1, .int .i64 term, .int .i64 index, .int .i64 last, .int .i64 commit, .bool yes, .slice At 64 ct, .slice Au hs.length cu, .slice Ao 9 co, .slice An new.length cn] 0 (((wr.setCell ⟨g1, 10, none⟩ (.slice Au hs.length cu)).setCell ⟨g1, 9, none⟩ (.slice At 64 ct)).setCell ⟨g1, 11, none⟩ (.slice Ao 9 co)) zeroMsg hbg2 (Nat.le_refl 13)
              have hcur : cur = #[.int .i64 fr, .int .i64 tto, .int .i64 gen, .int .i64 kd1, .int .i64 term, .int .i64 index, .int .i64 last, .int .i64 commit, .bool yes, .slice At 64 ct, .slice Au hs.length cu, .slice Ao 9 co, .slice An new.length cn] := by
                apply Array.toList_inj.1
                rw [hc3]
                rfl
              subst hcur
              generalize (((wr.setCell ⟨g1, 10, none⟩ (.slice Au hs.length cu)).setCell ⟨g1, 9, none⟩ (.slice At 64 ct)).setCell ⟨g1, 11, none⟩ (.slice Ao 9 co)).setCells g2 0 [.int .i64 fr, .int .i64 tto, .int .i64 gen, .int .i64 kd1, .int .i64 term, .int .i64 index, .int .i64 last, .int .i64 commit, .bool yes, .slice At 64 ct, .slice Au hs.length cu, .slice Ao 9 co, .slice An new.length cn] = W7 at *
              have r0 := blk_cell hc1 0
              have r1 := blk_cell hc1 1
              have r2 := blk_cell hc1 2
              have r3 := blk_cell hc1 3
              have r4 := blk_cell hc1 4
              have r5 := blk_cell hc1 5
              have r6 := blk_cell hc1 6
              have r7 := blk_cell hc1 7
              have r8 := blk_cell hc1 8
              have r9 := blk_cell hc1 9
              have r10 := blk_cell hc1 10
              have r11 := blk_cell hc1 11
              have r12 := blk_cell hc1 12
              simp only [List.getElem?_toArray, List.getElem?_cons_zero, List.getElem?_cons_succ] at r0 r1 r2 r3 r4 r5 r6 r7 r8 r9 r10 r11 r12
              have hB7 := HBW.out.trans (hkg.to_below HBW.out.size (fun k hk => by have e : k = g1 := hk; rw [e, HG1.out]; exact Nat.le_refl _))
              have hB8 := hB7.trans (hkr.to_below hB7.size (fun k hk => by have e : k = g2 := hk; rw [e, HG2.out]; omega))
              have hkk : Keep (fun k => k = g1 ∨ k = g2) wr W7 := (hkg.mono (G := fun k => k = g1 ∨ k = g2) (fun k h _ => .inl h)).trans (hkr.mono (G := fun k => k = g1 ∨ k = g2) (fun k h _ => .inr h)) (fun b h => .inl h)
              have hB9 := HWB.out.trans (hB8.mono HWB.out.size)
              have hcap : hs.length ≤ cu := (Kd.R_reads' HU.out).2.1
              have hC : ∀ W', Keep (fun k => wb.heap.size ≤ k ∧ k < w.heap.size) W7 W' → Below wb.heap.size wb W' ∧ entK.C W' Au hs.length (hs.map Eh.e) := fun W' hW' => by
                have hB10 := hB9.trans (hW'.to_below hB9.size (fun k hk => hk.1))
                exact ⟨hB10, (ehRow HU.out ((hkk.mono (G := fun k => k = g1 ∨ k = g2 ∨ k < w.heap.size) (fun k h _ => h.elim .inl (fun h => .inr (.inl h)))).trans (hW'.mono (G := fun k => k = g1 ∨ k = g2 ∨ k < w.heap.size) (fun k h _ => .inr (.inr h.2))) (fun b h => .inl h)) (fun k hk hg => by have h1 := HS2.out; have h2 := HB2.out.size; rcases hg with e | e | e <;> omega) (fun x hx => ⟨(HH.out x hx).2.2.2.1, ((HH.out x hx).2.2.2.2).below hB10⟩)).1⟩
              refine bodyPost_ret (v := .agg #[.int .i64 fr, .int .i64 tto, .int .i64 gen, .int .i64 kd1, .int .i64 term, .int .i64 index, .int .i64 last, .int .i64 commit, .bool yes, .slice At 64 ct, .slice Au hs.length cu, .slice Ao 9 co, .slice An new.length cn]) (by simp [results, Tryd.results13, go_sem, r0, r1, r2, r3, r4, r5, r6, r7, r8, r9, r10, r11, r12]) rfl ⟨⟨fr, tto, gen, kd1, term, index, last, commit, yes, (terms.take 64), hs.map Eh.e, (old.take 9), new⟩, Au, cu, ?_, fun W' hW' => ⟨?_, by show entK.C W' Au (hs.map Eh.e).length _; rw [List.length_map]; exact (hC W' hW').2, ?_, ?_⟩, HK.out, by show (hs.map Eh.e).length ≤ 64; rw [List.length_map, HL.out]; omega, by show (hs.map Eh.e).length ≤ cu; rw [List.length_map]; exact hcap, ?_, ?_, ?_, ?_, hB8⟩
              · unfold msgV
                dsimp only
                rw [List.length_map, hxlt, hxlo]
              · exact (show ReadsInt wb .i64 _ (terms.take 64).length (terms.take 64) from by rw [hxlt]; exact takeI (l := terms) HM.out.terms 64 (by omega)).below (hC W' hW').1
              · exact (show ReadsInt wb .i64 _ (old.take 9).length (old.take 9) from by rw [hxlo]; exact takeI (l := old) HM.out.old 9 (by omega)).below (hC W' hW').1
              · exact (HM.out.new).below (hC W' hW').1
              · intro x hx
                obtain ⟨y, hy, rfl⟩ := List.mem_map.1 hx
                exact ⟨(HH.out y hy).1, (HH.out y hy).2.1, (HH.out y hy).2.2.1⟩
              · show ((terms.take 64)).length ≤ 64 ∧ ((terms.take 64)).length ≤ ct
                omega
              · show ((old.take 9)).length ≤ 9 ∧ ((old.take 9)).length ≤ co
                omega
              · show (new).length ≤ 9 ∧ (new).length ≤ cn
                omega
          · by_cases a3 : (9 : Int) < (new.length : Int)
            · have hct : ∀ W, (Instr.slice 25 (.slice At terms.length ct) none (some (.int .i64 64)) none).run Tryd.prog W = .ok (.slice At 64 ct) W := fun W => cut_i At terms.length ct 64 (by omega) W
              have hxlt : (terms.take 64).length = 64 := by rw [List.length_take]; omega
              have hcn : ∀ W, (Instr.slice 25 (.slice An new.length cn) none (some (.int .i64 9)) none).run Tryd.prog W = .ok (.slice An 9 cn) W := fun W => cut_i An new.length cn 9 (by omega) W
              have hxln : (new.take 9).length = 9 := by rw [List.length_take]; omega
              go_wp2_with fail
              clear q0 q1 q2 q3 q4 q5 q6 q7 q8 q9 q10 q11 q12 f0 r0 r1 r2 r3 r4 r5 r6 r7 r8 r9 r10 r11 r12 r0f
              have hkg : Keep (fun k => k = g1) wr (((wr.setCell ⟨g1, 10, none⟩ (.slice Au hs.length cu)).setCell ⟨g1, 9, none⟩ (.slice At 64 ct)).setCell ⟨g1, 12, none⟩ (.slice An 9 cn)) := (((Keep.refl (fun k => k = g1) wr).setCell ⟨g1, 10, none⟩ _ (.inl rfl)).setCell ⟨g1, 9, none⟩ _ (.inl rfl)).setCell ⟨g1, 12, none⟩ _ (.inl rfl)
              have hbg2 := hkg.blk Hb2r.out (fun e => h21 e)
              have hf : ((((((((((((((((wr.setCell ⟨g1, 10, none⟩ (.slice Au hs.length cu)).setCell ⟨g1, 9, none⟩ (.slice At 64 ct)).setCell ⟨g1, 12, none⟩ (.slice An 9 cn)).setCell ⟨g2, 0, none⟩ (.int .i64 fr)).setCell ⟨g2, 1, none⟩ (.int .i64 tto)).setCell ⟨g2, 2, none⟩ (.int .i64 gen)).setCell ⟨g2, 3, none⟩ (.int .i64 kd1)).setCell ⟨g2, 4, none⟩ (.int .i64 term)).setCell ⟨g2, 5, none⟩ (.int .i64 index)).setCell ⟨g2, 6, none⟩ (.int .i64 last)).setCell ⟨g2, 7, none⟩ (.int .i64 commit)).setCell ⟨g2, 8, none⟩ (.bool yes)).setCell ⟨g2, 9, none⟩ (.slice At 64 ct)).setCell ⟨g2, 10, none⟩ (.slice Au hs.length cu)).setCell ⟨g2, 11, none⟩ (.slice Ao old.length co)).setCell ⟨g2, 12, none⟩ (.slice An 9 cn)) = (((wr.setCell ⟨g1, 10, none⟩ (.slice Au hs.length cu)).setCell ⟨g1, 9, none⟩ (.slice At 64 ct)).setCell ⟨g1, 12, none⟩ (.slice An 9 cn)).setCells g2 0 [.int .i64 fr, .int .i64 tto, .int .i64 gen, .int .i64 kd1, .int .i64 term, .int .i64 index, .int .i64 last, .int .i64 commit, .bool yes, .slice At 64 ct, .slice Au hs.length cu, .slice Ao old.length co, .slice An 9 cn] := rfl
              rw [hf]
              clear hf
              have hkr := Keep.setCells (F := fun k => k = g2) g2 [.int .i64 fr, .int .i64 tto, .int .i64 gen, .int .i64 kd1, .int .i64 term, .int .i64 index, .int .i64 last, .int .i64 commit, .bool yes, .slice At 64 ct, .slice Au hs.length cu, .slice Ao old.length co, .slice An 9 cn] 0 _ (Keep.refl (fun k => k = g2) (((wr.setCell ⟨g1, 10, none⟩ (.slice Au hs.length cu)).setCell ⟨g1, 9, none⟩ (.slice At 64 ct)).setCell ⟨g1, 12, none⟩ (.slice An 9 cn))) (.inl rfl)
              obtain ⟨cur, hc1, hc2, hc3⟩ := setCells_blk [.int .i64 fr, .int .i64 tto, .int .i64 gen, .int .i64 kd1, .int .i64 term, .int .i64 index, .int .i64 last, .int .i64 commit, .bool yes, .slice At 64 ct, .slice Au hs.length cu, .slice Ao old.length co, .slice An 9 cn] 0 (((wr.setCell ⟨g1, 10, none⟩ (.slice Au hs.length cu)).setCell ⟨g1, 9, none⟩ (.slice At 64 ct)).setCell ⟨g1, 12, none⟩ (.slice An 9 cn)) zeroMsg hbg2 (Nat.le_refl 13)
              have hcur : cur = #[.int .i64 fr, .int .i64 tto, .int .i64 gen, .int .i64 kd1, .int .i64 term, .int .i64 index, .int .i64 last, .int .i64 commit, .bool yes, .slice At 64 ct, .slice Au hs.length cu, .slice Ao old.length co, .slice An 9 cn] := by
                apply Array.toList_inj.1
                rw [hc3]
                rfl
              subst hcur
              generalize (((wr.setCell ⟨g1, 10, none⟩ (.slice Au hs.length cu)).setCell ⟨g1, 9, none⟩ (.slice At 64 ct)).setCell ⟨g1, 12, none⟩ (.slice An 9 cn)).setCells g2 0 [.int .i64 fr, .int .i64 tto, .int .i64 gen, .int .i64 kd1, .int .i64 term, .int .i64 index, .int .i64 last, .int .i64 commit, .bool yes, .slice At 64 ct, .slice Au hs.length cu, .slice Ao old.length co, .slice An 9 cn] = W7 at *
              have r0 := blk_cell hc1 0
              have r1 := blk_cell hc1 1
              have r2 := blk_cell hc1 2
              have r3 := blk_cell hc1 3
              have r4 := blk_cell hc1 4
              have r5 := blk_cell hc1 5
              have r6 := blk_cell hc1 6
              have r7 := blk_cell hc1 7
              have r8 := blk_cell hc1 8
              have r9 := blk_cell hc1 9
              have r10 := blk_cell hc1 10
              have r11 := blk_cell hc1 11
              have r12 := blk_cell hc1 12
              simp only [List.getElem?_toArray, List.getElem?_cons_zero, List.getElem?_cons_succ] at r0 r1 r2 r3 r4 r5 r6 r7 r8 r9 r10 r11 r12
              have hB7 := HBW.out.trans (hkg.to_below HBW.out.size (fun k hk => by have e : k = g1 := hk; rw [e, HG1.out]; exact Nat.le_refl _))
              have hB8 := hB7.trans (hkr.to_below hB7.size (fun k hk => by have e : k = g2 := hk; rw [e, HG2.out]; omega))
              have hkk : Keep (fun k => k = g1 ∨ k = g2) wr W7 := (hkg.mono (G := fun k => k = g1 ∨ k = g2) (fun k h _ => .inl h)).trans (hkr.mono (G := fun k => k = g1 ∨ k = g2) (fun k h _ => .inr h)) (fun b h => .inl h)
              have hB9 := HWB.out.trans (hB8.mono HWB.out.size)
              have hcap : hs.length ≤ cu := (Kd.R_reads' HU.out).2.1
              have hC : ∀ W', Keep (fun k => wb.heap.size ≤ k ∧ k < w.heap.size) W7 W' → Below wb.heap.size wb W' ∧ entK.C W' Au hs.length (hs.map Eh.e) := fun W' hW' => by
                have hB10 := hB9.trans (hW'.to_below hB9.size (fun k hk => hk.1))
                exact ⟨hB10, (ehRow HU.out ((hkk.mono (G := fun k => k = g1 ∨ k = g2 ∨ k < w.heap.size) (fun k h _ => h.elim .inl (fun h => .inr (.inl h)))).trans (hW'.mono (G := fun k => k = g1 ∨ k = g2 ∨ k < w.heap.size) (fun k h _ => .inr (.inr h.2))) (fun b h => .inl h)) (fun k hk hg => by have h1 := HS2.out; have h2 := HB2.out.size; rcases hg with e | e | e <;> omega) (fun x hx => ⟨(HH.out x hx).2.2.2.1, ((HH.out x hx).2.2.2.2).below hB10⟩)).1⟩
              refine bodyPost_ret (v := .agg #[.int .i64 fr, .int .i64 tto, .int .i64 gen, .int .i64 kd1, .int .i64 term, .int .i64 index, .int .i64 last, .int .i64 commit, .bool yes, .slice At 64 ct, .slice Au hs.length cu, .slice Ao old.length co, .slice An 9 cn]) (by simp [results, Tryd.results13, go_sem, r0, r1, r2, r3, r4, r5, r6, r7, r8, r9, r10, r11, r12]) rfl ⟨⟨fr, tto, gen, kd1, term, index, last, commit, yes, (terms.take 64), hs.map Eh.e, old, (new.take 9)⟩, Au, cu, ?_, fun W' hW' => ⟨?_, by show entK.C W' Au (hs.map Eh.e).length _; rw [List.length_map]; exact (hC W' hW').2, ?_, ?_⟩, HK.out, by show (hs.map Eh.e).length ≤ 64; rw [List.length_map, HL.out]; omega, by show (hs.map Eh.e).length ≤ cu; rw [List.length_map]; exact hcap, ?_, ?_, ?_, ?_, hB8⟩
              · unfold msgV
                dsimp only
                rw [List.length_map, hxlt, hxln]
              · exact (show ReadsInt wb .i64 _ (terms.take 64).length (terms.take 64) from by rw [hxlt]; exact takeI (l := terms) HM.out.terms 64 (by omega)).below (hC W' hW').1
              · exact (HM.out.old).below (hC W' hW').1
              · exact (show ReadsInt wb .i64 _ (new.take 9).length (new.take 9) from by rw [hxln]; exact takeI (l := new) HM.out.new 9 (by omega)).below (hC W' hW').1
              · intro x hx
                obtain ⟨y, hy, rfl⟩ := List.mem_map.1 hx
                exact ⟨(HH.out y hy).1, (HH.out y hy).2.1, (HH.out y hy).2.2.1⟩
              · show ((terms.take 64)).length ≤ 64 ∧ ((terms.take 64)).length ≤ ct
                omega
              · show (old).length ≤ 9 ∧ (old).length ≤ co
                omega
              · show ((new.take 9)).length ≤ 9 ∧ ((new.take 9)).length ≤ cn
                omega
            · have hct : ∀ W, (Instr.slice 25 (.slice At terms.length ct) none (some (.int .i64 64)) none).run Tryd.prog W = .ok (.slice At 64 ct) W := fun W => cut_i At terms.length ct 64 (by omega) W
              have hxlt : (terms.take 64).length = 64 := by rw [List.length_take]; omega
              go_wp2_with fail
              clear q0 q1 q2 q3 q4 q5 q6 q7 q8 q9 q10 q11 q12 f0 r0 r1 r2 r3 r4 r5 r6 r7 r8 r9 r10 r11 r12 r0f
              have hkg : Keep (fun k => k = g1) wr ((wr.setCell ⟨g1, 10, none⟩ (.slice Au hs.length cu)).setCell ⟨g1, 9, none⟩ (.slice At 64 ct)) := ((Keep.refl (fun k => k = g1) wr).setCell ⟨g1, 10, none⟩ _ (.inl rfl)).setCell ⟨g1, 9, none⟩ _ (.inl rfl)
              have hbg2 := hkg.blk Hb2r.out (fun e => h21 e)
              have hf : (((((((((((((((wr.setCell ⟨g1, 10, none⟩ (.slice Au hs.length cu)).setCell ⟨g1, 9, none⟩ (.slice At 64 ct)).setCell ⟨g2, 0, none⟩ (.int .i64 fr)).setCell ⟨g2, 1, none⟩ (.int .i64 tto)).setCell ⟨g2, 2, none⟩ (.int .i64 gen)).setCell ⟨g2, 3, none⟩ (.int .i64 kd1)).setCell ⟨g2, 4, none⟩ (.int .i64 term)).setCell ⟨g2, 5, none⟩ (.int .i64 index)).setCell ⟨g2, 6, none⟩ (.int .i64 last)).setCell ⟨g2, 7, none⟩ (.int .i64 commit)).setCell ⟨g2, 8, none⟩ (.bool yes)).setCell ⟨g2, 9, none⟩ (.slice At 64 ct)).setCell ⟨g2, 10, none⟩ (.slice Au hs.length cu)).setCell ⟨g2, 11, none⟩ (.slice Ao old.length co)).setCell ⟨g2, 12, none⟩ (.slice An new.length cn)) = ((wr.setCell ⟨g1, 10, none⟩ (.slice Au hs.length cu)).setCell ⟨g1, 9, none⟩ (.slice At 64 ct)).setCells g2 0 [.int .i64 fr, .int .i64 tto, .int .i64 gen, .int .i64 kd1, .int .i64 term, .int .i64 index, .int .i64 last, .int .i64 commit, .bool yes, .slice At 64 ct, .slice Au hs.length cu, .slice Ao old.length co, .slice An new.length cn] := rfl
              rw [hf]
              clear hf
              have hkr := Keep.setCells (F := fun k => k = g2) g2 [.int .i64 fr, .int .i64 tto, .int .i64 gen, .int .i64 kd1, .int .i64 term, .int .i64 index, .int .i64 last, .int .i64 commit, .bool yes, .slice At 64 ct, .slice Au hs.length cu, .slice Ao old.length co, .slice An new.length cn] 0 _ (Keep.refl (fun k => k = g2) ((wr.setCell ⟨g1, 10, none⟩ (.slice Au hs.length cu)).setCell ⟨g1, 9, none⟩ (.slice At 64 ct))) (.inl rfl)
              obtain ⟨cur, hc1, hc2, hc3⟩ := setCells_blk [.int .i64 fr, .int .i64 tto, .int .i64 gen, .int .i64 kd1, .int .i64 term, .int .i64 index, .int .i64 last, .int .i64 commit, .bool yes, .slice At 64 ct, .slice Au hs.length cu, .slice Ao old.length co, .slice An new.length cn] 0 ((wr.setCell ⟨g1, 10, none⟩ (.slice Au hs.length cu)).setCell ⟨g1, 9, none⟩ (.slice At 64 ct)) zeroMsg hbg2 (Nat.le_refl 13)
              have hcur : cur = #[.int .i64 fr, .int .i64 tto, .int .i64 gen, .int .i64 kd1, .int .i64 term, .int .i64 index, .int .i64 last, .int .i64 commit, .bool yes, .slice At 64 ct, .slice Au hs.length cu, .slice Ao old.length co, .slice An new.length cn] := by
                apply Array.toList_inj.1
                rw [hc3]
                rfl
              subst hcur
              generalize ((wr.setCell ⟨g1, 10, none⟩ (.slice Au hs.length cu)).setCell ⟨g1, 9, none⟩ (.slice At 64 ct)).setCells g2 0 [.int .i64 fr, .int .i64 tto, .int .i64 gen, .int .i64 kd1, .int .i64 term, .int .i64 index, .int .i64 last, .int .i64 commit, .bool yes, .slice At 64 ct, .slice Au hs.length cu, .slice Ao old.length co, .slice An new.length cn] = W7 at *
              have r0 := blk_cell hc1 0
              have r1 := blk_cell hc1 1
              have r2 := blk_cell hc1 2
              have r3 := blk_cell hc1 3
              have r4 := blk_cell hc1 4
              have r5 := blk_cell hc1 5
              have r6 := blk_cell hc1 6
              have r7 := blk_cell hc1 7
              have r8 := blk_cell hc1 8
              have r9 := blk_cell hc1 9
              have r10 := blk_cell hc1 10
              have r11 := blk_cell hc1 11
              have r12 := blk_cell hc1 12
              simp only [List.getElem?_toArray, List.getElem?_cons_zero, List.getElem?_cons_succ] at r0 r1 r2 r3 r4 r5 r6 r7 r8 r9 r10 r11 r12
              have hB7 := HBW.out.trans (hkg.to_below HBW.out.size (fun k hk => by have e : k = g1 := hk; rw [e, HG1.out]; exact Nat.le_refl _))
              have hB8 := hB7.trans (hkr.to_below hB7.size (fun k hk => by have e : k = g2 := hk; rw [e, HG2.out]; omega))
              have hkk : Keep (fun k => k = g1 ∨ k = g2) wr W7 := (hkg.mono (G := fun k => k = g1 ∨ k = g2) (fun k h _ => .inl h)).trans (hkr.mono (G := fun k => k = g1 ∨ k = g2) (fun k h _ => .inr h)) (fun b h => .inl h)
              have hB9 := HWB.out.trans (hB8.mono HWB.out.size)
              have hcap : hs.length ≤ cu := (Kd.R_reads' HU.out).2.1
              have hC : ∀ W', Keep (fun k => wb.heap.size ≤ k ∧ k < w.heap.size) W7 W' → Below wb.heap.size wb W' ∧ entK.C W' Au hs.length (hs.map Eh.e) := fun W' hW' => by
                have hB10 := hB9.trans (hW'.to_below hB9.size (fun k hk => hk.1))
                exact ⟨hB10, (ehRow HU.out ((hkk.mono (G := fun k => k = g1 ∨ k = g2 ∨ k < w.heap.size) (fun k h _ => h.elim .inl (fun h => .inr (.inl h)))).trans (hW'.mono (G := fun k => k = g1 ∨ k = g2 ∨ k < w.heap.size) (fun k h _ => .inr (.inr h.2))) (fun b h => .inl h)) (fun k hk hg => by have h1 := HS2.out; have h2 := HB2.out.size; rcases hg with e | e | e <;> omega) (fun x hx => ⟨(HH.out x hx).2.2.2.1, ((HH.out x hx).2.2.2.2).below hB10⟩)).1⟩
              refine bodyPost_ret (v := .agg #[.int .i64 fr, .int .i64 tto, .int .i64 gen, .int .i64 kd1, .int .i64 term, .int .i64 index, .int .i64 last, .int .i64 commit, .bool yes, .slice At 64 ct, .slice Au hs.length cu, .slice Ao old.length co, .slice An new.length cn]) (by simp [results, Tryd.results13, go_sem, r0, r1, r2, r3, r4, r5, r6, r7, r8, r9, r10, r11, r12]) rfl ⟨⟨fr, tto, gen, kd1, term, index, last, commit, yes, (terms.take 64), hs.map Eh.e, old, new⟩, Au, cu, ?_, fun W' hW' => ⟨?_, by show entK.C W' Au (hs.map Eh.e).length _; rw [List.length_map]; exact (hC W' hW').2, ?_, ?_⟩, HK.out, by show (hs.map Eh.e).length ≤ 64; rw [List.length_map, HL.out]; omega, by show (hs.map Eh.e).length ≤ cu; rw [List.length_map]; exact hcap, ?_, ?_, ?_, ?_, hB8⟩
              · unfold msgV
                dsimp only
                rw [List.length_map, hxlt]
              · exact (show ReadsInt wb .i64 _ (terms.take 64).length (terms.take 64) from by rw [hxlt]; exact takeI (l := terms) HM.out.terms 64 (by omega)).below (hC W' hW').1
              · exact (HM.out.old).below (hC W' hW').1
              · exact (HM.out.new).below (hC W' hW').1
              · intro x hx
                obtain ⟨y, hy, rfl⟩ := List.mem_map.1 hx
                exact ⟨(HH.out y hy).1, (HH.out y hy).2.1, (HH.out y hy).2.2.1⟩
              · show ((terms.take 64)).length ≤ 64 ∧ ((terms.take 64)).length ≤ ct
                omega
              · show (old).length ≤ 9 ∧ (old).length ≤ co
                omega
              · show (new).length ≤ 9 ∧ (new).length ≤ cn
                omega
        · by_cases a2 : (9 : Int) < (old.length : Int)
          · by_cases a3 : (9 : Int) < (new.length : Int)
            · have hco : ∀ W, (Instr.slice 25 (.slice Ao old.length co) none (some (.int .i64 9)) none).run Tryd.prog W = .ok (.slice Ao 9 co) W := fun W => cut_i Ao old.length co 9 (by omega) W
              have hxlo : (old.take 9).length = 9 := by rw [List.length_take]; omega
              have hcn : ∀ W, (Instr.slice 25 (.slice An new.length cn) none (some (.int .i64 9)) none).run Tryd.prog W = .ok (.slice An 9 cn) W := fun W => cut_i An new.length cn 9 (by omega) W
              have hxln : (new.take 9).length = 9 := by rw [List.length_take]; omega
              go_wp2_with fail
              clear q0 q1 q2 q3 q4 q5 q6 q7 q8 q9 q10 q11 q12 f0 r0 r1 r2 r3 r4 r5 r6 r7 r8 r9 r10 r11 r12 r0f
              have hkg : Keep (fun k => k = g1) wr (((wr.setCell ⟨g1, 10, none⟩ (.slice Au hs.length cu)).setCell ⟨g1, 11, none⟩ (.slice Ao 9 co)).setCell ⟨g1, 12, none⟩ (.slice An 9 cn)) := (((Keep.refl (fun k => k = g1) wr).setCell ⟨g1, 10, none⟩ _ (.inl rfl)).setCell ⟨g1, 11, none⟩ _ (.inl rfl)).setCell ⟨g1, 12, none⟩ _ (.inl rfl)
              have hbg2 := hkg.blk Hb2r.out (fun e => h21 e)
              have hf : ((((((((((((((((wr.setCell ⟨g1, 10, none⟩ (.slice Au hs.length cu)).setCell ⟨g1, 11, none⟩ (.slice Ao 9 co)).setCell ⟨g1, 12, none⟩ (.slice An 9 cn)).setCell ⟨g2, 0, none⟩ (.int .i64 fr)).setCell ⟨g2, 1, none⟩ (.int .i64 tto)).setCell ⟨g2, 2, none⟩ (.int .i64 gen)).setCell ⟨g2, 3, none⟩ (.int .i64 kd1)).setCell ⟨g2, 4, none⟩ (.int .i64 term)).setCell ⟨g2, 5, none⟩ (.int .i64 index)).setCell ⟨g2, 6, none⟩ (.int .i64 last)).setCell ⟨g2, 7, none⟩ (.int .i64 commit)).setCell ⟨g2, 8, none⟩ (.bool yes)).setCell ⟨g2, 9, none⟩ (.slice At terms.length ct)).setCell ⟨g2, 10, none⟩ (.slice Au hs.length cu)).setCell ⟨g2, 11, none⟩ (.slice Ao 9 co)).setCell ⟨g2, 12, none⟩ (.slice An 9 cn)) = (((wr.setCell ⟨g1, 10, none⟩ (.slice Au hs.length cu)).setCell ⟨g1, 11, none⟩ (.slice Ao 9 co)).setCell ⟨g1, 12, none⟩ (.slice An 9 cn)).setCells g2 0 [.int .i64 fr, .int .i64 tto, .int .i64 gen, .int .i64 kd1, .int .i64 term, .int .i64 index, .int .i64 last, .int .i64 commit, .bool yes, .slice At terms.length ct, .slice Au hs.length cu, .slice Ao 9 co, .slice An 9 cn] := rfl
              rw [hf]
              clear hf
              have hkr := Keep.setCells (F := fun k => k = g2) g2 [.int .i64 fr, .int .i64 tto, .int .i64 gen, .int .i64 kd1, .int .i64 term, .int .i64 index, .int .i64 last, .int .i64 commit, .bool yes, .slice At terms.length ct, .slice Au hs.length cu, .slice Ao 9 co, .slice An 9 cn] 0 _ (Keep.refl (fun k => k = g2) (((wr.setCell ⟨g1, 10, none⟩ (.slice Au hs.length cu)).setCell ⟨g1, 11, none⟩ (.slice Ao 9 co)).setCell ⟨g1, 12, none⟩ (.slice An 9 cn))) (.inl rfl)
              obtain ⟨cur, hc1, hc2, hc3⟩ := setCells_blk [.int .i64 fr, .int .i64 tto, .int .i64 gen, .int .i64 kd1, .int .i64 term, .int .i64 index, .int .i64 last, .int .i64 commit, .bool yes, .slice At terms.length ct, .slice Au hs.length cu, .slice Ao 9 co, .slice An 9 cn] 0 (((wr.setCell ⟨g1, 10, none⟩ (.slice Au hs.length cu)).setCell ⟨g1, 11, none⟩ (.slice Ao 9 co)).setCell ⟨g1, 12, none⟩ (.slice An 9 cn)) zeroMsg hbg2 (Nat.le_refl 13)
              have hcur : cur = #[.int .i64 fr, .int .i64 tto, .int .i64 gen, .int .i64 kd1, .int .i64 term, .int .i64 index, .int .i64 last, .int .i64 commit, .bool yes, .slice At terms.length ct, .slice Au hs.length cu, .slice Ao 9 co, .slice An 9 cn] := by
                apply Array.toList_inj.1
                rw [hc3]
                rfl
              subst hcur
              generalize (((wr.setCell ⟨g1, 10, none⟩ (.slice Au hs.length cu)).setCell ⟨g1, 11, none⟩ (.slice Ao 9 co)).setCell ⟨g1, 12, none⟩ (.slice An 9 cn)).setCells g2 0 [.int .i64 fr, .int .i64 tto, .int .i64 gen, .int .i64 kd1, .int .i64 term, .int .i64 index, .int .i64 last, .int .i64 commit, .bool yes, .slice At terms.length ct, .slice Au hs.length cu, .slice Ao 9 co, .slice An 9 cn] = W7 at *
              have r0 := blk_cell hc1 0
              have r1 := blk_cell hc1 1
              have r2 := blk_cell hc1 2
              have r3 := blk_cell hc1 3
              have r4 := blk_cell hc1 4
              have r5 := blk_cell hc1 5
              have r6 := blk_cell hc1 6
              have r7 := blk_cell hc1 7
              have r8 := blk_cell hc1 8
              have r9 := blk_cell hc1 9
              have r10 := blk_cell hc1 10
              have r11 := blk_cell hc1 11
              have r12 := blk_cell hc1 12
              simp only [List.getElem?_toArray, List.getElem?_cons_zero, List.getElem?_cons_succ] at r0 r1 r2 r3 r4 r5 r6 r7 r8 r9 r10 r11 r12
              have hB7 := HBW.out.trans (hkg.to_below HBW.out.size (fun k hk => by have e : k = g1 := hk; rw [e, HG1.out]; exact Nat.le_refl _))
              have hB8 := hB7.trans (hkr.to_below hB7.size (fun k hk => by have e : k = g2 := hk; rw [e, HG2.out]; omega))
              have hkk : Keep (fun k => k = g1 ∨ k = g2) wr W7 := (hkg.mono (G := fun k => k = g1 ∨ k = g2) (fun k h _ => .inl h)).trans (hkr.mono (G := fun k => k = g1 ∨ k = g2) (fun k h _ => .inr h)) (fun b h => .inl h)
              have hB9 := HWB.out.trans (hB8.mono HWB.out.size)
              have hcap : hs.length ≤ cu := (Kd.R_reads' HU.out).2.1
              have hC : ∀ W', Keep (fun k => wb.heap.size ≤ k ∧ k < w.heap.size) W7 W' → Below wb.heap.size wb W' ∧ entK.C W' Au hs.length (hs.map Eh.e) := fun W' hW' => by
                have hB10 := hB9.trans (hW'.to_below hB9.size (fun k hk => hk.1))
                exact ⟨hB10, (ehRow HU.out ((hkk.mono (G := fun k => k = g1 ∨ k = g2 ∨ k < w.heap.size) (fun k h _ => h.elim .inl (fun h => .inr (.inl h)))).trans (hW'.mono (G := fun k => k = g1 ∨ k = g2 ∨ k < w.heap.size) (fun k h _ => .inr (.inr h.2))) (fun b h => .inl h)) (fun k hk hg => by have h1 := HS2.out; have h2 := HB2.out.size; rcases hg with e | e | e <;> omega) (fun x hx => ⟨(HH.out x hx).2.2.2.1, ((HH.out x hx).2.2.2.2).below hB10⟩)).1⟩
              refine bodyPost_ret (v := .agg #[.int .i64 fr, .int .i64 tto, .int .i64 gen, .int .i64 kd1, .int .i64 term, .int .i64 index, .int .i64 last, .int .i64 commit, .bool yes, .slice At terms.length ct, .slice Au hs.length cu, .slice Ao 9 co, .slice An 9 cn]) (by simp [results, Tryd.results13, go_sem, r0, r1, r2, r3, r4, r5, r6, r7, r8, r9, r10, r11, r12]) rfl ⟨⟨fr, tto, gen, kd1, term, index, last, commit, yes, terms, hs.map Eh.e, (old.take 9), (new.take 9)⟩, Au, cu, ?_, fun W' hW' => ⟨?_, by show entK.C W' Au (hs.map Eh.e).length _; rw [List.length_map]; exact (hC W' hW').2, ?_, ?_⟩, HK.out, by show (hs.map Eh.e).length ≤ 64; rw [List.length_map, HL.out]; omega, by show (hs.map Eh.e).length ≤ cu; rw [List.length_map]; exact hcap, ?_, ?_, ?_, ?_, hB8⟩
              · unfold msgV
                dsimp only
                rw [List.length_map, hxlo, hxln]
              · exact (HM.out.terms).below (hC W' hW').1
              · exact (show ReadsInt wb .i64 _ (old.take 9).length (old.take 9) from by rw [hxlo]; exact takeI (l := old) HM.out.old 9 (by omega)).below (hC W' hW').1
              · exact (show ReadsInt wb .i64 _ (new.take 9).length (new.take 9) from by rw [hxln]; exact takeI (l := new) HM.out.new 9 (by omega)).below (hC W' hW').1
              · intro x hx
                obtain ⟨y, hy, rfl⟩ := List.mem_map.1 hx
                exact ⟨(HH.out y hy).1, (HH.out y hy).2.1, (HH.out y hy).2.2.1⟩
              · show (terms).length ≤ 64 ∧ (terms).length ≤ ct
                omega
              · show ((old.take 9)).length ≤ 9 ∧ ((old.take 9)).length ≤ co
                omega
              · show ((new.take 9)).length ≤ 9 ∧ ((new.take 9)).length ≤ cn
                omega
            · have hco : ∀ W, (Instr.slice 25 (.slice Ao old.length co) none (some (.int .i64 9)) none).run Tryd.prog W = .ok (.slice Ao 9 co) W := fun W => cut_i Ao old.length co 9 (by omega) W
              have hxlo : (old.take 9).length = 9 := by rw [List.length_take]; omega
              go_wp2_with fail
              clear q0 q1 q2 q3 q4 q5 q6 q7 q8 q9 q10 q11 q12 f0 r0 r1 r2 r3 r4 r5 r6 r7 r8 r9 r10 r11 r12 r0f
              have hkg : Keep (fun k => k = g1) wr ((wr.setCell ⟨g1, 10, none⟩ (.slice Au hs.length cu)).setCell ⟨g1, 11, none⟩ (.slice Ao 9 co)) := ((Keep.refl (fun k => k = g1) wr).setCell ⟨g1, 10, none⟩ _ (.inl rfl)).setCell ⟨g1, 11, none⟩ _ (.inl rfl)
              have hbg2 := hkg.blk Hb2r.out (fun e => h21 e)
              have hf : (((((((((((((((wr.setCell ⟨g1, 10, none⟩ (.slice Au hs.length cu)).setCell ⟨g1, 11, none⟩ (.slice Ao 9 co)).setCell ⟨g2, 0, none⟩ (.int .i64 fr)).setCell ⟨g2, 1, none⟩ (.int .i64 tto)).setCell ⟨g2, 2, none⟩ (.int .i64 gen)).setCell ⟨g2, 3, none⟩ (.int .i64 kd1)).setCell ⟨g2, 4, none⟩ (.int .i64 term)).setCell ⟨g2, 5, none⟩ (.int .i64 index)).setCell ⟨g2, 6, none⟩ (.int .i64 last)).setCell ⟨g2, 7, none⟩ (.int .i64 commit)).setCell ⟨g2, 8, none⟩ (.bool yes)).setCell ⟨g2, 9, none⟩ (.slice At terms.length ct)).setCell ⟨g2, 10, none⟩ (.slice Au hs.length cu)).setCell ⟨g2, 11, none⟩ (.slice Ao 9 co)).setCell ⟨g2, 12, none⟩ (.slice An new.length cn)) = ((wr.setCell ⟨g1, 10, none⟩ (.slice Au hs.length cu)).setCell ⟨g1, 11, none⟩ (.slice Ao 9 co)).setCells g2 0 [.int .i64 fr, .int .i64 tto, .int .i64 gen, .int .i64 kd1, .int .i64 term, .int .i64 index, .int .i64 last, .int .i64 commit, .bool yes, .slice At terms.length ct, .slice Au hs.length cu, .slice Ao 9 co, .slice An new.length cn] := rfl
              rw [hf]
              clear hf
              have hkr := Keep.setCells (F := fun k => k = g2) g2 [.int .i64 fr, .int .i64 tto, .int .i64 gen, .int .i64 kd1, .int .i64 term, .int .i64 index, .int .i64 last, .int .i64 commit, .bool yes, .slice At terms.length ct, .slice Au hs.length cu, .slice Ao 9 co, .slice An new.length cn] 0 _ (Keep.refl (fun k => k = g2) ((wr.setCell ⟨g1, 10, none⟩ (.slice Au hs.length cu)).setCell ⟨g1, 11, none⟩ (.slice Ao 9 co))) (.inl rfl)
              obtain ⟨cur, hc1, hc2, hc3⟩ := setCells_blk [.int .i64 fr, .int .i64 tto, .int .i64 gen, .int .i64 kd1, .int .i64 term, .int .i64 index, .int .i64 last, .int .i64 commit, .bool yes, .slice At terms.length ct, .slice Au hs.length cu, .slice Ao 9 co, .slice An new.length cn] 0 ((wr.setCell ⟨g1, 10, none⟩ (.slice Au hs.length cu)).setCell ⟨g1, 11, none⟩ (.slice Ao 9 co)) zeroMsg hbg2 (Nat.le_refl 13)
              have hcur : cur = #[.int .i64 fr, .int .i64 tto, .int .i64 gen, .int .i64 kd1, .int .i64 term, .int .i64 index, .int .i64 last, .int .i64 commit, .bool yes, .slice At terms.length ct, .slice Au hs.length cu, .slice Ao 9 co, .slice An new.length cn] := by
                apply Array.toList_inj.1
                rw [hc3]
                rfl
              subst hcur
              generalize ((wr.setCell ⟨g1, 10, none⟩ (.slice Au hs.length cu)).setCell ⟨g1, 11, none⟩ (.slice Ao 9 co)).setCells g2 0 [.int .i64 fr, .int .i64 tto, .int .i64 gen, .int .i64 kd1, .int .i64 term, .int .i64 index, .int .i64 last, .int .i64 commit, .bool yes, .slice At terms.length ct, .slice Au hs.length cu, .slice Ao 9 co, .slice An new.length cn] = W7 at *
              have r0 := blk_cell hc1 0
              have r1 := blk_cell hc1 1
              have r2 := blk_cell hc1 2
              have r3 := blk_cell hc1 3
              have r4 := blk_cell hc1 4
              have r5 := blk_cell hc1 5
              have r6 := blk_cell hc1 6
              have r7 := blk_cell hc1 7
              have r8 := blk_cell hc1 8
              have r9 := blk_cell hc1 9
              have r10 := blk_cell hc1 10
              have r11 := blk_cell hc1 11
              have r12 := blk_cell hc1 12
              simp only [List.getElem?_toArray, List.getElem?_cons_zero, List.getElem?_cons_succ] at r0 r1 r2 r3 r4 r5 r6 r7 r8 r9 r10 r11 r12
              have hB7 := HBW.out.trans (hkg.to_below HBW.out.size (fun k hk => by have e : k = g1 := hk; rw [e, HG1.out]; exact Nat.le_refl _))
              have hB8 := hB7.trans (hkr.to_below hB7.size (fun k hk => by have e : k = g2 := hk; rw [e, HG2.out]; omega))
              have hkk : Keep (fun k => k = g1 ∨ k = g2) wr W7 := (hkg.mono (G := fun k => k = g1 ∨ k = g2) (fun k h _ => .inl h)).trans (hkr.mono (G := fun k => k = g1 ∨ k = g2) (fun k h _ => .inr h)) (fun b h => .inl h)
              have hB9 := HWB.out.trans (hB8.mono HWB.out.size)
              have hcap : hs.length ≤ cu := (Kd.R_reads' HU.out).2.1
              have hC : ∀ W', Keep (fun k => wb.heap.size ≤ k ∧ k < w.heap.size) W7 W' → Below wb.heap.size wb W' ∧ entK.C W' Au hs.length (hs.map Eh.e) := fun W' hW' => by
                have hB10 := hB9.trans (hW'.to_below hB9.size (fun k hk => hk.1))
                exact ⟨hB10, (ehRow HU.out ((hkk.mono (G := fun k => k = g1 ∨ k = g2 ∨ k < w.heap.size) (fun k h _ => h.elim .inl (fun h => .inr (.inl h)))).trans (hW'.mono (G := fun k => k = g1 ∨ k = g2 ∨ k < w.heap.size) (fun k h _ => .inr (.inr h.2))) (fun b h => .inl h)) (fun k hk hg => by have h1 := HS2.out; have h2 := HB2.out.size; rcases hg with e | e | e <;> omega) (fun x hx => ⟨(HH.out x hx).2.2.2.1, ((HH.out x hx).2.2.2.2).below hB10⟩)).1⟩
              refine bodyPost_ret (v := .agg #[.int .i64 fr, .int .i64 tto, .int .i64 gen, .int .i64 kd1, .int .i64 term, .int .i64 index, .int .i64 last, .int .i64 commit, .bool yes, .slice At terms.length ct, .slice Au hs.length cu, .slice Ao 9 co, .slice An new.length cn]) (by simp [results, Tryd.results13, go_sem, r0, r1, r2, r3, r4, r5, r6, r7, r8, r9, r10, r11, r12]) rfl ⟨⟨fr, tto, gen, kd1, term, index, last, commit, yes, terms, hs.map Eh.e, (old.take 9), new⟩, Au, cu, ?_, fun W' hW' => ⟨?_, by show entK.C W' Au (hs.map Eh.e).length _; rw [List.length_map]; exact (hC W' hW').2, ?_, ?_⟩, HK.out, by show (hs.map Eh.e).length ≤ 64; rw [List.length_map, HL.out]; omega, by show (hs.map Eh.e).length ≤ cu; rw [List.length_map]; exact hcap, ?_, ?_, ?_, ?_, hB8⟩
              · unfold msgV
                dsimp only
                rw [List.length_map, hxlo]
              · exact (HM.out.terms).below (hC W' hW').1
              · exact (show ReadsInt wb .i64 _ (old.take 9).length (old.take 9) from by rw [hxlo]; exact takeI (l := old) HM.out.old 9 (by omega)).below (hC W' hW').1
              · exact (HM.out.new).below (hC W' hW').1
              · intro x hx
                obtain ⟨y, hy, rfl⟩ := List.mem_map.1 hx
                exact ⟨(HH.out y hy).1, (HH.out y hy).2.1, (HH.out y hy).2.2.1⟩
              · show (terms).length ≤ 64 ∧ (terms).length ≤ ct
                omega
              · show ((old.take 9)).length ≤ 9 ∧ ((old.take 9)).length ≤ co
                omega
              · show (new).length ≤ 9 ∧ (new).length ≤ cn
                omega
          · by_cases a3 : (9 : Int) < (new.length : Int)
            · have hcn : ∀ W, (Instr.slice 25 (.slice An new.length cn) none (some (.int .i64 9)) none).run Tryd.prog W = .ok (.slice An 9 cn) W := fun W => cut_i An new.length cn 9 (by omega) W
              have hxln : (new.take 9).length = 9 := by rw [List.length_take]; omega
              go_wp2_with fail
              clear q0 q1 q2 q3 q4 q5 q6 q7 q8 q9 q10 q11 q12 f0 r0 r1 r2 r3 r4 r5 r6 r7 r8 r9 r10 r11 r12 r0f
              have hkg : Keep (fun k => k = g1) wr ((wr.setCell ⟨g1, 10, none⟩ (.slice Au hs.length cu)).setCell ⟨g1, 12, none⟩ (.slice An 9 cn)) := ((Keep.refl (fun k => k = g1) wr).setCell ⟨g1, 10, none⟩ _ (.inl rfl)).setCell ⟨g1, 12, none⟩ _ (.inl rfl)
              have hbg2 := hkg.blk Hb2r.out (fun e => h21 e)
              have hf : (((((((((((((((wr.setCell ⟨g1, 10, none⟩ (.slice Au hs.length cu)).setCell ⟨g1, 12, none⟩ (.slice An 9 cn)).setCell ⟨g2, 0, none⟩ (.int .i64 fr)).setCell ⟨g2, 1, none⟩ (.int .i64 tto)).setCell ⟨g2, 2, none⟩ (.int .i64 gen)).setCell ⟨g2, 3, none⟩ (.int .i64 kd1)).setCell ⟨g2, 4, none⟩ (.int .i64 term)).setCell ⟨g2, 5, none⟩ (.int .i64 index)).setCell ⟨g2, 6, none⟩ (.int .i64 last)).setCell ⟨g2, 7, none⟩ (.int .i64 commit)).setCell ⟨g2, 8, none⟩ (.bool yes)).setCell ⟨g2, 9, none⟩ (.slice At terms.length ct)).setCell ⟨g2, 10, none⟩ (.slice Au hs.length cu)).setCell ⟨g2, 11, none⟩ (.slice Ao old.length co)).setCell ⟨g2, 12, none⟩ (.slice An 9 cn)) = ((wr.setCell ⟨g1, 10, none⟩ (.slice Au hs.length cu)).setCell ⟨g1, 12, none⟩ (.slice An 9 cn)).setCells g2 0 [.int .i64 fr, .int .i64 tto, .int .i64 gen, .int .i64 kd1, .int .i64 term, .int .i64 index, .int .i64 last, .int .i64 commit, .bool yes, .slice At terms.length ct, .slice Au hs.length cu, .slice Ao old.length co, .slice An 9 cn] := rfl
              rw [hf]
              clear hf
              have hkr := Keep.setCells (F := fun k => k = g2) g2 [.int .i64 fr, .int .i64 tto, .int .i64 gen, .int .i64 kd1, .int .i64 term, .int .i64 index, .int .i64 last, .int .i64 commit, .bool yes, .slice At terms.length ct, .slice Au hs.length cu, .slice Ao old.length co, .slice An 9 cn] 0 _ (Keep.refl (fun k => k = g2) ((wr.setCell ⟨g1, 10, none⟩ (.slice Au hs.length cu)).setCell ⟨g1, 12, none⟩ (.slice An 9 cn))) (.inl rfl)
              obtain ⟨cur, hc1, hc2, hc3⟩ := setCells_blk [.int .i64 fr, .int .i64 tto, .int .i64 gen, .int .i64 kd1, .int .i64 term, .int .i64 index, .int .i64 last, .int .i64 commit, .bool yes, .slice At terms.length ct, .slice Au hs.length cu, .slice Ao old.length co, .slice An 9 cn] 0 ((wr.setCell ⟨g1, 10, none⟩ (.slice Au hs.length cu)).setCell ⟨g1, 12, none⟩ (.slice An 9 cn)) zeroMsg hbg2 (Nat.le_refl 13)
              have hcur : cur = #[.int .i64 fr, .int .i64 tto, .int .i64 gen, .int .i64 kd1, .int .i64 term, .int .i64 index, .int .i64 last, .int .i64 commit, .bool yes, .slice At terms.length ct, .slice Au hs.length cu, .slice Ao old.length co, .slice An 9 cn] := by
                apply Array.toList_inj.1
                rw [hc3]
                rfl
              subst hcur
              generalize ((wr.setCell ⟨g1, 10, none⟩ (.slice Au hs.length cu)).setCell ⟨g1, 12, none⟩ (.slice An 9 cn)).setCells g2 0 [.int .i64 fr, .int .i64 tto, .int .i64 gen, .int .i64 kd1, .int .i64 term, .int .i64 index, .int .i64 last, .int .i64 commit, .bool yes, .slice At terms.length ct, .slice Au hs.length cu, .slice Ao old.length co, .slice An 9 cn] = W7 at *
              have r0 := blk_cell hc1 0
              have r1 := blk_cell hc1 1
              have r2 := blk_cell hc1 2
              have r3 := blk_cell hc1 3
              have r4 := blk_cell hc1 4
              have r5 := blk_cell hc1 5
              have r6 := blk_cell hc1 6
              have r7 := blk_cell hc1 7
              have r8 := blk_cell hc1 8
              have r9 := blk_cell hc1 9
              have r10 := blk_cell hc1 10
              have r11 := blk_cell hc1 11
              have r12 := blk_cell hc1 12
              simp only [List.getElem?_toArray, List.getElem?_cons_zero, List.getElem?_cons_succ] at r0 r1 r2 r3 r4 r5 r6 r7 r8 r9 r10 r11 r12
              have hB7 := HBW.out.trans (hkg.to_below HBW.out.size (fun k hk => by have e : k = g1 := hk; rw [e, HG1.out]; exact Nat.le_refl _))
              have hB8 := hB7.trans (hkr.to_below hB7.size (fun k hk => by have e : k = g2 := hk; rw [e, HG2.out]; omega))
              have hkk : Keep (fun k => k = g1 ∨ k = g2) wr W7 := (hkg.mono (G := fun k => k = g1 ∨ k = g2) (fun k h _ => .inl h)).trans (hkr.mono (G := fun k => k = g1 ∨ k = g2) (fun k h _ => .inr h)) (fun b h => .inl h)
              have hB9 := HWB.out.trans (hB8.mono HWB.out.size)
              have hcap : hs.length ≤ cu := (Kd.R_reads' HU.out).2.1
              have hC : ∀ W', Keep (fun k => wb.heap.size ≤ k ∧ k < w.heap.size) W7 W' → Below wb.heap.size wb W' ∧ entK.C W' Au hs.length (hs.map Eh.e) := fun W' hW' => by
                have hB10 := hB9.trans (hW'.to_below hB9.size (fun k hk => hk.1))
                exact ⟨hB10, (ehRow HU.out ((hkk.mono (G := fun k => k = g1 ∨ k = g2 ∨ k < w.heap.size) (fun k h _ => h.elim .inl (fun h => .inr (.inl h)))).trans (hW'.mono (G := fun k => k = g1 ∨ k = g2 ∨ k < w.heap.size) (fun k h _ => .inr (.inr h.2))) (fun b h => .inl h)) (fun k hk hg => by have h1 := HS2.out; have h2 := HB2.out.size; rcases hg with e | e | e <;> omega) (fun x hx => ⟨(HH.out x hx).2.2.2.1, ((HH.out x hx).2.2.2.2).below hB10⟩)).1⟩
              refine bodyPost_ret (v := .agg #[.int .i64 fr, .int .i64 tto, .int .i64 gen, .int .i64 kd1, .int .i64 term, .int .i64 index, .int .i64 last, .int .i64 commit, .bool yes, .slice At terms.length ct, .slice Au hs.length cu, .slice Ao old.length co, .slice An 9 cn]) (by simp [results, Tryd.results13, go_sem, r0, r1, r2, r3, r4, r5, r6, r7, r8, r9, r10, r11, r12]) rfl ⟨⟨fr, tto, gen, kd1, term, index, last, commit, yes, terms, hs.map Eh.e, old, (new.take 9)⟩, Au, cu, ?_, fun W' hW' => ⟨?_, by show entK.C W' Au (hs.map Eh.e).length _; rw [List.length_map]; exact (hC W' hW').2, ?_, ?_⟩, HK.out, by show (hs.map Eh.e).length ≤ 64; rw [List.length_map, HL.out]; omega, by show (hs.map Eh.e).length ≤ cu; rw [List.length_map]; exact hcap, ?_, ?_, ?_, ?_, hB8⟩
              · unfold msgV
                dsimp only
                rw [List.length_map, hxln]
              · exact (HM.out.terms).below (hC W' hW').1
              · exact (HM.out.old).below (hC W' hW').1
              · exact (show ReadsInt wb .i64 _ (new.take 9).length (new.take 9) from by rw [hxln]; exact takeI (l := new) HM.out.new 9 (by omega)).below (hC W' hW').1
              · intro x hx
                obtain ⟨y, hy, rfl⟩ := List.mem_map.1 hx
                exact ⟨(HH.out y hy).1, (HH.out y hy).2.1, (HH.out y hy).2.2.1⟩
              · show (terms).length ≤ 64 ∧ (terms).length ≤ ct
                omega
              · show (old).length ≤ 9 ∧ (old).length ≤ co
                omega
              · show ((new.take 9)).length ≤ 9 ∧ ((new.take 9)).length ≤ cn
                omega
            · go_wp2_with fail
              clear q0 q1 q2 q3 q4 q5 q6 q7 q8 q9 q10 q11 q12 f0 r0 r1 r2 r3 r4 r5 r6 r7 r8 r9 r10 r11 r12 r0f
              have hkg : Keep (fun k => k = g1) wr (wr.setCell ⟨g1, 10, none⟩ (.slice Au hs.length cu)) := (Keep.refl (fun k => k = g1) wr).setCell ⟨g1, 10, none⟩ _ (.inl rfl)
              have hbg2 := hkg.blk Hb2r.out (fun e => h21 e)
              have hf : ((((((((((((((wr.setCell ⟨g1, 10, none⟩ (.slice Au hs.length cu)).setCell ⟨g2, 0, none⟩ (.int .i64 fr)).setCell ⟨g2, 1, none⟩ (.int .i64 tto)).setCell ⟨g2, 2, none⟩ (.int .i64 gen)).setCell ⟨g2, 3, none⟩ (.int .i64 kd1)).setCell ⟨g2, 4, none⟩ (.int .i64 term)).setCell ⟨g2, 5, none⟩ (.int .i64 index)).setCell ⟨g2, 6, none⟩ (.int .i64 last)).setCell ⟨g2, 7, none⟩ (.int .i64 commit)).setCell ⟨g2, 8, none⟩ (.bool yes)).setCell ⟨g2, 9, none⟩ (.slice At terms.length ct)).setCell ⟨g2, 10, none⟩ (.slice Au hs.length cu)).setCell ⟨g2, 11, none⟩ (.slice Ao old.length co)).setCell ⟨g2, 12, none⟩ (.slice An new.length cn)) = (wr.setCell ⟨g1, 10, none⟩ (.slice Au hs.length cu)).setCells g2 0 [.int .i64 fr, .int .i64 tto, .int .i64 gen, .int .i64 kd1, .int .i64 term, .int .i64 index, .int .i64 last, .int .i64 commit, .bool yes, .slice At terms.length ct, .slice Au hs.length cu, .slice Ao old.length co, .slice An new.length cn] := rfl
              rw [hf]
              clear hf
              have hkr := Keep.setCells (F := fun k => k = g2) g2 [.int .i64 fr, .int .i64 tto, .int .i64 gen, .int .i64 kd1, .int .i64 term, .int .i64 index, .int .i64 last, .int .i64 commit, .bool yes, .slice At terms.length ct, .slice Au hs.length cu, .slice Ao old.length co, .slice An new.length cn] 0 _ (Keep.refl (fun k => k = g2) (wr.setCell ⟨g1, 10, none⟩ (.slice Au hs.length cu))) (.inl rfl)
              obtain ⟨cur, hc1, hc2, hc3⟩ := setCells_blk [.int .i64 fr, .int .i64 tto, .int .i64 gen, .int .i64 kd1, .int .i64 term, .int .i64 index, .int .i64 last, .int .i64 commit, .bool yes, .slice At terms.length ct, .slice Au hs.length cu, .slice Ao old.length co, .slice An new.length cn] 0 (wr.setCell ⟨g1, 10, none⟩ (.slice Au hs.length cu)) zeroMsg hbg2 (Nat.le_refl 13)
              have hcur : cur = #[.int .i64 fr, .int .i64 tto, .int .i64 gen, .int .i64 kd1, .int .i64 term, .int .i64 index, .int .i64 last, .int .i64 commit, .bool yes, .slice At terms.length ct, .slice Au hs.length cu, .slice Ao old.length co, .slice An new.length cn] := by
                apply Array.toList_inj.1
                rw [hc3]
                rfl
              subst hcur
              generalize (wr.setCell ⟨g1, 10, none⟩ (.slice Au hs.length cu)).setCells g2 0 [.int .i64 fr, .int .i64 tto, .int .i64 gen, .int .i64 kd1, .int .i64 term, .int .i64 index, .int .i64 last, .int .i64 commit, .bool yes, .slice At terms.length ct, .slice Au hs.length cu, .slice Ao old.length co, .slice An new.length cn] = W7 at *
              have r0 := blk_cell hc1 0
              have r1 := blk_cell hc1 1
              have r2 := blk_cell hc1 2
              have r3 := blk_cell hc1 3
              have r4 := blk_cell hc1 4
              have r5 := blk_cell hc1 5
              have r6 := blk_cell hc1 6
              have r7 := blk_cell hc1 7
              have r8 := blk_cell hc1 8
              have r9 := blk_cell hc1 9
              have r10 := blk_cell hc1 10
              have r11 := blk_cell hc1 11
              have r12 := blk_cell hc1 12
              simp only [List.getElem?_toArray, List.getElem?_cons_zero, List.getElem?_cons_succ] at r0 r1 r2 r3 r4 r5 r6 r7 r8 r9 r10 r11 r12
              have hB7 := HBW.out.trans (hkg.to_below HBW.out.size (fun k hk => by have e : k = g1 := hk; rw [e, HG1.out]; exact Nat.le_refl _))
              have hB8 := hB7.trans (hkr.to_below hB7.size (fun k hk => by have e : k = g2 := hk; rw [e, HG2.out]; omega))
              have hkk : Keep (fun k => k = g1 ∨ k = g2) wr W7 := (hkg.mono (G := fun k => k = g1 ∨ k = g2) (fun k h _ => .inl h)).trans (hkr.mono (G := fun k => k = g1 ∨ k = g2) (fun k h _ => .inr h)) (fun b h => .inl h)
              have hB9 := HWB.out.trans (hB8.mono HWB.out.size)
              have hcap : hs.length ≤ cu := (Kd.R_reads' HU.out).2.1
              have hC : ∀ W', Keep (fun k => wb.heap.size ≤ k ∧ k < w.heap.size) W7 W' → Below wb.heap.size wb W' ∧ entK.C W' Au hs.length (hs.map Eh.e) := fun W' hW' => by
                have hB10 := hB9.trans (hW'.to_below hB9.size (fun k hk => hk.1))
                exact ⟨hB10, (ehRow HU.out ((hkk.mono (G := fun k => k = g1 ∨ k = g2 ∨ k < w.heap.size) (fun k h _ => h.elim .inl (fun h => .inr (.inl h)))).trans (hW'.mono (G := fun k => k = g1 ∨ k = g2 ∨ k < w.heap.size) (fun k h _ => .inr (.inr h.2))) (fun b h => .inl h)) (fun k hk hg => by have h1 := HS2.out; have h2 := HB2.out.size; rcases hg with e | e | e <;> omega) (fun x hx => ⟨(HH.out x hx).2.2.2.1, ((HH.out x hx).2.2.2.2).below hB10⟩)).1⟩
              refine bodyPost_ret (v := .agg #[.int .i64 fr, .int .i64 tto, .int .i64 gen, .int .i64 kd1, .int .i64 term, .int .i64 index, .int .i64 last, .int .i64 commit, .bool yes, .slice At terms.length ct, .slice Au hs.length cu, .slice Ao old.length co, .slice An new.length cn]) (by simp [results, Tryd.results13, go_sem, r0, r1, r2, r3, r4, r5, r6, r7, r8, r9, r10, r11, r12]) rfl ⟨⟨fr, tto, gen, kd1, term, index, last, commit, yes, terms, hs.map Eh.e, old, new⟩, Au, cu, ?_, fun W' hW' => ⟨?_, by show entK.C W' Au (hs.map Eh.e).length _; rw [List.length_map]; exact (hC W' hW').2, ?_, ?_⟩, HK.out, by show (hs.map Eh.e).length ≤ 64; rw [List.length_map, HL.out]; omega, by show (hs.map Eh.e).length ≤ cu; rw [List.length_map]; exact hcap, ?_, ?_, ?_, ?_, hB8⟩
              · unfold msgV
                dsimp only
                rw [List.length_map]
              · exact (HM.out.terms).below (hC W' hW').1
              · exact (HM.out.old).below (hC W' hW').1
              · exact (HM.out.new).below (hC W' hW').1
              · intro x hx
                obtain ⟨y, hy, rfl⟩ := List.mem_map.1 hx
                exact ⟨(HH.out y hy).1, (HH.out y hy).2.1, (HH.out y hy).2.2.1⟩
              · show (terms).length ≤ 64 ∧ (terms).length ≤ ct
                omega
              · show (old).length ≤ 9 ∧ (old).length ≤ co
                omega
              · show (new).length ≤ 9 ∧ (new).length ≤ cn
                omega
      · clear hgo
        by_cases a1 : (64 : Int) < (terms.length : Int)
        · by_cases a2 : (9 : Int) < (old.length : Int)
          · by_cases a3 : (9 : Int) < (new.length : Int)
            · have hct : ∀ W, (Instr.slice 25 (.slice At terms.length ct) none (some (.int .i64 64)) none).run Tryd.prog W = .ok (.slice At 64 ct) W := fun W => cut_i At terms.length ct 64 (by omega) W
              have hxlt : (terms.take 64).length = 64 := by rw [List.length_take]; omega
              have hco : ∀ W, (Instr.slice 25 (.slice Ao old.length co) none (some (.int .i64 9)) none).run Tryd.prog W = .ok (.slice Ao 9 co) W := fun W => cut_i Ao old.length co 9 (by omega) W
              have hxlo : (old.take 9).length = 9 := by rw [List.length_take]; omega
              have hcn : ∀ W, (Instr.slice 25 (.slice An new.length cn) none (some (.int .i64 9)) none).run Tryd.prog W = .ok (.slice An 9 cn) W := fun W => cut_i An new.length cn 9 (by omega) W
              have hxln : (new.take 9).length = 9 := by rw [List.length_take]; omega
              go_wp2_with fail
              clear q0 q1 q2 q3 q4 q5 q6 q7 q8 q9 q10 q11 q12 f0 r0 r1 r2 r3 r4 r5 r6 r7 r8 r9 r10 r11 r12 r0f
              have hkg : Keep (fun k => k = g1) wr ((((wr.setCell ⟨g1, 10, none⟩ (.slice Au hs.length cu)).setCell ⟨g1, 9, none⟩ (.slice At 64 ct)).setCell ⟨g1, 11, none⟩ (.slice Ao 9 co)).setCell ⟨g1, 12, none⟩ (.slice An 9 cn)) := ((((Keep.refl (fun k => k = g1) wr).setCell ⟨g1, 10, none⟩ _ (.inl rfl)).setCell ⟨g1, 9, none⟩ _ (.inl rfl)).setCell ⟨g1, 11, none⟩ _ (.inl rfl)).setCell ⟨g1, 12, none⟩ _ (.inl rfl)
              have hbg2 := hkg.blk Hb2r.out (fun e => h21 e)
              have hf : (((((((((((((((((wr.setCell ⟨g1, 10, none⟩ (.slice Au hs.length cu)).setCell ⟨g1, 9, none⟩ (.slice At 64 ct)).setCell ⟨g1, 11, none⟩ (.slice Ao 9 co)).setCell ⟨g1, 12, none⟩ (.slice An 9 cn)).setCell ⟨g2, 0, none⟩ (.int .i64 fr)).setCell ⟨g2, 1, none⟩ (.int .i64 tto)).setCell ⟨g2, 2, none⟩ (.int .i64 gen)).setCell ⟨g2, 3, none⟩ (.int .i64 kd1)).setCell ⟨g2, 4, none⟩ (.int .i64 term)).setCell ⟨g2, 5, none⟩ (.int .i64 index)).setCell ⟨g2, 6, none⟩ (.int .i64 last)).setCell ⟨g2, 7, none⟩ (.int .i64 commit)).setCell ⟨g2, 8, none⟩ (.bool yes)).setCell ⟨g2, 9, none⟩ (.slice At 64 ct)).setCell ⟨g2, 10, none⟩ (.slice Au hs.length cu)).setCell ⟨g2, 11, none⟩ (.slice Ao 9 co)).setCell ⟨g2, 12, none⟩ (.slice An 9 cn)) = ((((wr.setCell ⟨g1, 10, none⟩ (.slice Au hs.length cu)).setCell ⟨g1, 9, none⟩ (.slice At 64 ct)).setCell ⟨g1, 11, none⟩ (.slice Ao 9 co)).setCell ⟨g1, 12, none⟩ (.slice An 9 cn)).setCells g2 0 [.int .i64 fr, .int .i64 tto, .int .i64 gen, .int .i64 kd1, .int .i64 term, .int .i64 index, .int .i64 last, .int .i64 commit, .bool yes, .slice At 64 ct, .slice Au hs.length cu, .slice Ao 9 co, .slice An 9 cn] := rfl
              rw [hf]
              clear hf
              have hkr := Keep.setCells (F := fun k => k = g2) g2 [.int .i64 fr, .int .i64 tto, .int .i64 gen, .int .i64 kd1, .int .i64 term, .int .i64 index, .int .i64 last, .int .i64 commit, .bool yes, .slice At 64 ct, .slice Au hs.length cu, .slice Ao 9 co, .slice An 9 cn] 0 _ (Keep.refl (fun k => k = g2) ((((wr.setCell ⟨g1, 10, none⟩ (.slice Au hs.length cu)).setCell ⟨g1, 9, none⟩ (.slice At 64 ct)).setCell ⟨g1, 11, none⟩ (.slice Ao 9 co)).setCell ⟨g1, 12, none⟩ (.slice An 9 cn))) (.inl rfl)
              obtain ⟨cur, hc1, hc2, hc3⟩ := setCells_blk [.int .i64 fr, .int .i64 tto, .int .i64 gen, .int .i64 kd1, .int .i64 term, .int .i64 index, .int .i64 last, .int .i64 commit, .bool yes, .slice At 64 ct, .slice Au hs.length cu, .slice Ao 9 co, .slice An 9 cn] 0 ((((wr.setCell ⟨g1, 10, none⟩ (.slice Au hs.length cu)).setCell ⟨g1, 9, none⟩ (.slice At 64 ct)).setCell ⟨g1, 11, none⟩ (.slice Ao 9 co)).setCell ⟨g1, 12, none⟩ (.slice An 9 cn)) zeroMsg hbg2 (Nat.le_refl 13)
              have hcur : cur = #[.int .i64 fr, .int .i64 tto, .int .i64 gen, .int .i64 kd1, .int .i64 term, .int .i64 index, .int .i64 last, .int .i64 commit, .bool yes, .slice At 64 ct, .slice Au hs.length cu, .slice Ao 9 co, .slice An 9 cn] := by
                apply Array.toList_inj.1
                rw [hc3]
                rfl
              subst hcur
              generalize ((((wr.setCell ⟨g1, 10, none⟩ (.slice Au hs.length cu)).setCell ⟨g1, 9, none⟩ (.slice At 64 ct)).setCell ⟨g1, 11, none⟩ (.slice Ao 9 co)).setCell ⟨g1, 12, none⟩ (.slice An 9 cn)).setCells g2 0 [.int .i64 fr, .int .i64 tto, .int .i64 gen, .int .i64 kd1, .int .i64 term, .int .i64 index, .int .i64 last, .int .i64 commit, .bool yes, .slice At 64 ct, .slice Au hs.length cu, .slice Ao 9 co, .slice An 9 cn] = W7 at *
              have r0 := blk_cell hc1 0
              have r1 := blk_cell hc1 1
              have r2 := blk_cell hc1 2
              have r3 := blk_cell hc1 3
              have r4 := blk_cell hc1 4
              have r5 := blk_cell hc1 5
              have r6 := blk_cell hc1 6
              have r7 := blk_cell hc1 7
              have r8 := blk_cell hc1 8
              have r9 := blk_cell hc1 9
              have r10 := blk_cell hc1 10
              have r11 := blk_cell hc1 11
              have r12 := blk_cell hc1 12
              simp only [List.getElem?_toArray, List.getElem?_cons_zero, List.getElem?_cons_succ] at r0 r1 r2 r3 r4 r5 r6 r7 r8 r9 r10 r11 r12
              have hB7 := HBW.out.trans (hkg.to_below HBW.out.size (fun k hk => by have e : k = g1 := hk; rw [e, HG1.out]; exact Nat.le_refl _))
              have hB8 := hB7.trans (hkr.to_below hB7.size (fun k hk => by have e : k = g2 := hk; rw [e, HG2.out]; omega))
              have hkk : Keep (fun k => k = g1 ∨ k = g2) wr W7 := (hkg.mono (G := fun k => k = g1 ∨ k = g2) (fun k h _ => .inl h)).trans (hkr.mono (G := fun k => k = g1 ∨ k = g2) (fun k h _ => .inr h)) (fun b h => .inl h)
              have hB9 := HWB.out.trans (hB8.mono HWB.out.size)
              have hcap : hs.length ≤ cu := (Kd.R_reads' HU.out).2.1
              have hC : ∀ W', Keep (fun k => wb.heap.size ≤ k ∧ k < w.heap.size) W7 W' → Below wb.heap.size wb W' ∧ entK.C W' Au hs.length (hs.map Eh.e) := fun W' hW' => by
                have hB10 := hB9.trans (hW'.to_below hB9.size (fun k hk => hk.1))
                exact ⟨hB10, (ehRow HU.out ((hkk.mono (G := fun k => k = g1 ∨ k = g2 ∨ k < w.heap.size) (fun k h _ => h.elim .inl (fun h => .inr (.inl h)))).trans (hW'.mono (G := fun k => k = g1 ∨ k = g2 ∨ k < w.heap.size) (fun k h _ => .inr (.inr h.2))) (fun b h => .inl h)) (fun k hk hg => by have h1 := HS2.out; have h2 := HB2.out.size; rcases hg with e | e | e <;> omega) (fun x hx => ⟨(HH.out x hx).2.2.2.1, ((HH.out x hx).2.2.2.2).below hB10⟩)).1⟩
              refine bodyPost_ret (v := .agg #[.int .i64 fr, .int .i64 tto, .int .i64 gen, .int .i64 kd1, .int .i64 term, .int .i64 index, .int .i64 last, .int .i64 commit, .bool yes, .slice At 64 ct, .slice Au hs.length cu, .slice Ao 9 co, .slice An 9 cn]) (by simp [results, Tryd.results13, go_sem, r0, r1, r2, r3, r4, r5, r6, r7, r8, r9, r10, r11, r12]) rfl ⟨⟨fr, tto, gen, kd1, term, index, last, commit, yes, (terms.take 64), hs.map Eh.e, (old.take 9), (new.take 9)⟩, Au, cu, ?_, fun W' hW' => ⟨?_, by show entK.C W' Au (hs.map Eh.e).length _; rw [List.length_map]; exact (hC W' hW').2, ?_, ?_⟩, HK.out, by show (hs.map Eh.e).length ≤ 64; rw [List.length_map, HL.out]; omega, by show (hs.map Eh.e).length ≤ cu; rw [List.length_map]; exact hcap, ?_, ?_, ?_, ?_, hB8⟩
              · unfold msgV
                dsimp only
                rw [List.length_map, hxlt, hxlo, hxln]
              · exact (show ReadsInt wb .i64 _ (terms.take 64).length (terms.take 64) from by rw [hxlt]; exact takeI (l := terms) HM.out.terms 64 (by omega)).below (hC W' hW').1
              · exact (show ReadsInt wb .i64 _ (old.take 9).length (old.take 9) from by rw [hxlo]; exact takeI (l := old) HM.out.old 9 (by omega)).below (hC W' hW').1
              · exact (show ReadsInt wb .i64 _ (new.take 9).length (new.take 9) from by rw [hxln]; exact takeI (l := new) HM.out.new 9 (by omega)).below (hC W' hW').1
              · intro x hx
                obtain ⟨y, hy, rfl⟩ := List.mem_map.1 hx
                exact ⟨(HH.out y hy).1, (HH.out y hy).2.1, (HH.out y hy).2.2.1⟩
              · show ((terms.take 64)).length ≤ 64 ∧ ((terms.take 64)).length ≤ ct
                omega
              · show ((old.take 9)).length ≤ 9 ∧ ((old.take 9)).length ≤ co
                omega
              · show ((new.take 9)).length ≤ 9 ∧ ((new.take 9)).length ≤ cn
                omega
            · have hct : ∀ W, (Instr.slice 25 (.slice At terms.length ct) none (some (.int .i64 64)) none).run Tryd.prog W = .ok (.slice At 64 ct) W := fun W => cut_i At terms.length ct 64 (by omega) W
              have hxlt : (terms.take 64).length = 64 := by rw [List.length_take]; omega
              have hco : ∀ W, (Instr.slice 25 (.slice Ao old.length co) none (some (.int .i64 9)) none).run Tryd.prog W = .ok (.slice Ao 9 co) W := fun W => cut_i Ao old.length co 9 (by omega) W
              have hxlo : (old.take 9).length = 9 := by rw [List.length_take]; omega
              go_wp2_with fail
              clear q0 q1 q2 q3 q4 q5 q6 q7 q8 q9 q10 q11 q12 f0 r0 r1 r2 r3 r4 r5 r6 r7 r8 r9 r10 r11 r12 r0f
              have hkg : Keep (fun k => k = g1) wr (((wr.setCell ⟨g1, 10, none⟩ (.slice Au hs.length cu)).setCell ⟨g1, 9, none⟩ (.slice At 64 ct)).setCell ⟨g1, 11, none⟩ (.slice Ao 9 co)) := (((Keep.refl (fun k => k = g1) wr).setCell ⟨g1, 10, none⟩ _ (.inl rfl)).setCell ⟨g1, 9, none⟩ _ (.inl rfl)).setCell ⟨g1, 11, none⟩ _ (.inl rfl)
              have hbg2 := hkg.blk Hb2r.out (fun e => h21 e)
              have hf : ((((((((((((((((wr.setCell ⟨g1, 10, none⟩ (.slice Au hs.length cu)).setCell ⟨g1, 9, none⟩ (.slice At 64 ct)).setCell ⟨g1, 11, none⟩ (.slice Ao 9 co)).setCell ⟨g2, 0, none⟩ (.int .i64 fr)).setCell ⟨g2, 1, none⟩ (.int .i64 tto)).setCell ⟨g2, 2, none⟩ (.int .i64 gen)).setCell ⟨g2, 3, none⟩ (.int .i64 kd1)).setCell ⟨g2, 4, none⟩ (.int .i64 term)).setCell ⟨g2, 5, none⟩ (.int .i64 index)).setCell ⟨g2, 6, none⟩ (.int .i64 last)).setCell ⟨g2, 7, none⟩ (.int .i64 commit)).setCell ⟨g2, 8, none⟩ (.bool yes)).setCell ⟨g2, 9, none⟩ (.slice At 64 ct)).setCell ⟨g2, 10, none⟩ (.slice Au hs.length cu)).setCell ⟨g2, 11, none⟩ (.slice Ao 9 co)).setCell ⟨g2, 12, none⟩ (.slice An new.length cn)) = (((wr.setCell ⟨g1, 10, none⟩ (.slice Au hs.length cu)).setCell ⟨g1, 9, none⟩ (.slice At 64 ct)).setCell ⟨g1, 11, none⟩ (.slice Ao 9 co)).setCells g2 0 [.int .i64 fr, .int .i64 tto, .int .i64 gen, .int .i64 kd1, .int .i64 term, .int .i64 index, .int .i64 last, .int .i64 commit, .bool yes, .slice At 64 ct, .slice Au hs.length cu, .slice Ao 9 co, .slice An new.length cn] := rfl
              rw [hf]
              clear hf
              have hkr := Keep.setCells (F := fun k => k = g2) g2 [.int .i64 fr, .int .i64 tto, .int .i64 gen, .int .i64 kd1, .int .i64 term, .int .i64 index, .int .i64 last, .int .i64 commit, .bool yes, .slice At 64 ct, .slice Au hs.length cu, .slice Ao 9 co, .slice An new.length cn] 0 _ (Keep.refl (fun k => k = g2) (((wr.setCell ⟨g1, 10, none⟩ (.slice Au hs.length cu)).setCell ⟨g1, 9, none⟩ (.slice At 64 ct)).setCell ⟨g1, 11, none⟩ (.slice Ao 9 co))) (.inl rfl)
              obtain ⟨cur, hc1, hc2, hc3⟩ := setCells_blk [.int .i64 fr, .int .i64 tto, .int .i64 gen, .int .i64 kd1, .int .i64 term, .int .i64 index, .int .i64 last, .int .i64 commit, .bool yes, .slice At 64 ct, .slice Au hs.length cu, .slice Ao 9 co, .slice An new.length cn] 0 (((wr.setCell ⟨g1, 10, none⟩ (.slice Au hs.length cu)).setCell ⟨g1, 9, none⟩ (.slice At 64 ct)).setCell ⟨g1, 11, none⟩ (.slice Ao 9 co)) zeroMsg hbg2 (Nat.le_refl 13)
              have hcur : cur = #[.int .i64 fr, .int .i64 tto, .int .i64 gen, .int .i64 kd1, .int .i64 term, .int .i64 index, .int .i64 last, .int .i64 commit, .bool yes, .slice At 64 ct, .slice Au hs.length cu, .slice Ao 9 co, .slice An new.length cn] := by
                apply Array.toList_inj.1
                rw [hc3]
                rfl
              subst hcur
              generalize (((wr.setCell ⟨g1, 10, none⟩ (.slice Au hs.length cu)).setCell ⟨g1, 9, none⟩ (.slice At 64 ct)).setCell ⟨g1, 11, none⟩ (.slice Ao 9 co)).setCells g2 0 [.int .i64 fr, .int .i64 tto, .int .i64 gen, .int .i64 kd1, .int .i64 term, .int .i64 index, .int .i64 last, .int .i64 commit, .bool yes, .slice At 64 ct, .slice Au hs.length cu, .slice Ao 9 co, .slice An new.length cn] = W7 at *
              have r0 := blk_cell hc1 0
              have r1 := blk_cell hc1 1
              have r2 := blk_cell hc1 2
              have r3 := blk_cell hc1 3
              have r4 := blk_cell hc1 4
              have r5 := blk_cell hc1 5
              have r6 := blk_cell hc1 6
              have r7 := blk_cell hc1 7
              have r8 := blk_cell hc1 8
              have r9 := blk_cell hc1 9
              have r10 := blk_cell hc1 10
              have r11 := blk_cell hc1 11
              have r12 := blk_cell hc1 12
              simp only [List.getElem?_toArray, List.getElem?_cons_zero, List.getElem?_cons_succ] at r0 r1 r2 r3 r4 r5 r6 r7 r8 r9 r10 r11 r12
              have hB7 := HBW.out.trans (hkg.to_below HBW.out.size (fun k hk => by have e : k = g1 := hk; rw [e, HG1.out]; exact Nat.le_refl _))
              have hB8 := hB7.trans (hkr.to_below hB7.size (fun k hk => by have e : k = g2 := hk; rw [e, HG2.out]; omega))
              have hkk : Keep (fun k => k = g1 ∨ k = g2) wr W7 := (hkg.mono (G := fun k => k = g1 ∨ k = g2) (fun k h _ => .inl h)).trans (hkr.mono (G := fun k => k = g1 ∨ k = g2) (fun k h _ => .inr h)) (fun b h => .inl h)
              have hB9 := HWB.out.trans (hB8.mono HWB.out.size)
              have hcap : hs.length ≤ cu := (Kd.R_reads' HU.out).2.1
              have hC : ∀ W', Keep (fun k => wb.heap.size ≤ k ∧ k < w.heap.size) W7 W' → Below wb.heap.size wb W' ∧ entK.C W' Au hs.length (hs.map Eh.e) := fun W' hW' => by
                have hB10 := hB9.trans (hW'.to_below hB9.size (fun k hk => hk.1))
                exact ⟨hB10, (ehRow HU.out ((hkk.mono (G := fun k => k = g1 ∨ k = g2 ∨ k < w.heap.size) (fun k h _ => h.elim .inl (fun h => .inr (.inl h)))).trans (hW'.mono (G := fun k => k = g1 ∨ k = g2 ∨ k < w.heap.size) (fun k h _ => .inr (.inr h.2))) (fun b h => .inl h)) (fun k hk hg => by have h1 := HS2.out; have h2 := HB2.out.size; rcases hg with e | e | e <;> omega) (fun x hx => ⟨(HH.out x hx).2.2.2.1, ((HH.out x hx).2.2.2.2).below hB10⟩)).1⟩
              refine bodyPost_ret (v := .agg #[.int .i64 fr, .int .i64 tto, .int .i64 gen, .int .i64 kd1, .int .i64 term, .int .i64 index, .int .i64 last, .int .i64 commit, .bool yes, .slice At 64 ct, .slice Au hs.length cu, .slice Ao 9 co, .slice An new.length cn]) (by simp [results, Tryd.results13, go_sem, r0, r1, r2, r3, r4, r5, r6, r7, r8, r9, r10, r11, r12]) rfl ⟨⟨fr, tto, gen, kd1, term, index, last, commit, yes, (terms.take 64), hs.map Eh.e, (old.take 9), new⟩, Au, cu, ?_, fun W' hW' => ⟨?_, by show entK.C W' Au (hs.map Eh.e).length _; rw [List.length_map]; exact (hC W' hW').2, ?_, ?_⟩, HK.out, by show (hs.map Eh.e).length ≤ 64; rw [List.length_map, HL.out]; omega, by show (hs.map Eh.e).length ≤ cu; rw [List.length_map]; exact hcap, ?_, ?_, ?_, ?_, hB8⟩
              · unfold msgV
                dsimp only
                rw [List.length_map, hxlt, hxlo]
              · exact (show ReadsInt wb .i64 _ (terms.take 64).length (terms.take 64) from by rw [hxlt]; exact takeI (l := terms) HM.out.terms 64 (by omega)).below (hC W' hW').1
              · exact (show ReadsInt wb .i64 _ (old.take 9).length (old.take 9) from by rw [hxlo]; exact takeI (l := old) HM.out.old 9 (by omega)).below (hC W' hW').1
              · exact (HM.out.new).below (hC W' hW').1
              · intro x hx
                obtain ⟨y, hy, rfl⟩ := List.mem_map.1 hx
                exact ⟨(HH.out y hy).1, (HH.out y hy).2.1, (HH.out y hy).2.2.1⟩
              · show ((terms.take 64)).length ≤ 64 ∧ ((terms.take 64)).length ≤ ct
                omega
              · show ((old.take 9)).length ≤ 9 ∧ ((old.take 9)).length ≤ co
                omega
              · show (new).length ≤ 9 ∧ (new).length ≤ cn
                omega
          · by_cases a3 : (9 : Int) < (new.length : Int)
            · have hct : ∀ W, (Instr.slice 25 (.slice At terms.length ct) none (some (.int .i64 64)) none).run Tryd.prog W = .ok (.slice At 64 ct) W := fun W => cut_i At terms.length ct 64 (by omega) W
              have hxlt : (terms.take 64).length = 64 := by rw [List.length_take]; omega
              have hcn : ∀ W, (Instr.slice 25 (.slice An new.length cn) none (some (.int .i64 9)) none).run Tryd.prog W = .ok (.slice An 9 cn) W := fun W => cut_i An new.length cn 9 (by omega) W
              have hxln : (new.take 9).length = 9 := by rw [List.length_take]; omega
              go_wp2_with fail
              clear q0 q1 q2 q3 q4 q5 q6 q7 q8 q9 q10 q11 q12 f0 r0 r1 r2 r3 r4 r5 r6 r7 r8 r9 r10 r11 r12 r0f
              have hkg : Keep (fun k => k = g1) wr (((wr.setCell ⟨g1, 10, none⟩ (.slice Au hs.length cu)).setCell ⟨g1, 9, none⟩ (.slice At 64 ct)).setCell ⟨g1, 12, none⟩ (.slice An 9 cn)) := (((Keep.refl (fun k => k = g1) wr).setCell ⟨g1, 10, none⟩ _ (.inl rfl)).setCell ⟨g1, 9, none⟩ _ (.inl rfl)).setCell ⟨g1, 12, none⟩ _ (.inl rfl)
              have hbg2 := hkg.blk Hb2r.out (fun e => h21 e)
              have hf : ((((((((((((((((wr.setCell ⟨g1, 10, none⟩ (.slice Au hs.length cu)).setCell ⟨g1, 9, none⟩ (.slice At 64 ct)).setCell ⟨g1, 12, none⟩ (.slice An 9 cn)).setCell ⟨g2, 0, none⟩ (.int .i64 fr)).setCell ⟨g2, 1, none⟩ (.int .i64 tto)).setCell ⟨g2, 2, none⟩ (.int .i64 gen)).setCell ⟨g2, 3, none⟩ (.int .i64 kd1)).setCell ⟨g2, 4, none⟩ (.int .i64 term)).setCell ⟨g2, 5, none⟩ (.int .i64 index)).setCell ⟨g2, 6, none⟩ (.int .i64 last)).setCell ⟨g2, 7, none⟩ (.int .i64 commit)).setCell ⟨g2, 8, none⟩ (.bool yes)).setCell ⟨g2, 9, none⟩ (.slice At 64 ct)).setCell ⟨g2, 10, none⟩ (.slice Au hs.length cu)).setCell ⟨g2, 11, none⟩ (.slice Ao old.length co)).setCell ⟨g2, 12, none⟩ (.slice An 9 cn)) = (((wr.setCell ⟨g1, 10, none⟩ (.slice Au hs.length cu)).setCell ⟨g1, 9, none⟩ (.slice At 64 ct)).setCell ⟨g1, 12, none⟩ (.slice An 9 cn)).setCells g2 0 [.int .i64 fr, .int .i64 tto, .int .i64 gen, .int .i64 kd1, .int .i64 term, .int .i64 index, .int .i64 last, .int .i64 commit, .bool yes, .slice At 64 ct, .slice Au hs.length cu, .slice Ao old.length co, .slice An 9 cn] := rfl
              rw [hf]
              clear hf
              have hkr := Keep.setCells (F := fun k => k = g2) g2 [.int .i64 fr, .int .i64 tto, .int .i64 gen, .int .i64 kd1, .int .i64 term, .int .i64 index, .int .i64 last, .int .i64 commit, .bool yes, .slice At 64 ct, .slice Au hs.length cu, .slice Ao old.length co, .slice An 9 cn] 0 _ (Keep.refl (fun k => k = g2) (((wr.setCell ⟨g1, 10, none⟩ (.slice Au hs.length cu)).setCell ⟨g1, 9, none⟩ (.slice At 64 ct)).setCell ⟨g1, 12, none⟩ (.slice An 9 cn))) (.inl rfl)
              obtain ⟨cur, hc1, hc2, hc3⟩ := setCells_blk [.int .i64 fr, .int .i64 tto, .int .i64 gen, .int .i64 kd1, .int .i64 term, .int .i64 index, .int .i64 last, .int .i64 commit, .bool yes, .slice At 64 ct, .slice Au hs.length cu, .slice Ao old.length co, .slice An 9 cn] 0 (((wr.setCell ⟨g1, 10, none⟩ (.slice Au hs.length cu)).setCell ⟨g1, 9, none⟩ (.slice At 64 ct)).setCell ⟨g1, 12, none⟩ (.slice An 9 cn)) zeroMsg hbg2 (Nat.le_refl 13)
              have hcur : cur = #[.int .i64 fr, .int .i64 tto, .int .i64 gen, .int .i64 kd1, .int .i64 term, .int .i64 index, .int .i64 last, .int .i64 commit, .bool yes, .slice At 64 ct, .slice Au hs.length cu, .slice Ao old.length co, .slice An 9 cn] := by
                apply Array.toList_inj.1
                rw [hc3]
                rfl
              subst hcur
              generalize (((wr.setCell ⟨g1, 10, none⟩ (.slice Au hs.length cu)).setCell ⟨g1, 9, none⟩ (.slice At 64 ct)).setCell ⟨g1, 12, none⟩ (.slice An 9 cn)).setCells g2 0 [.int .i64 fr, .int .i64 tto, .int .i64 gen, .int .i64 kd1, .int .i64 term, .int .i64 index, .int .i64 last, .int .i64 commit, .bool yes, .slice At 64 ct, .slice Au hs.length cu, .slice Ao old.length co, .slice An 9 cn] = W7 at *
              have r0 := blk_cell hc1 0
              have r1 := blk_cell hc1 1
              have r2 := blk_cell hc1 2
              have r3 := blk_cell hc1 3
              have r4 := blk_cell hc1 4
              have r5 := blk_cell hc1 5
              have r6 := blk_cell hc1 6
              have r7 := blk_cell hc1 7
              have r8 := blk_cell hc1 8
              have r9 := blk_cell hc1 9
              have r10 := blk_cell hc1 10
              have r11 := blk_cell hc1 11
              have r12 := blk_cell hc1 12
              simp only [List.getElem?_toArray, List.getElem?_cons_zero, List.getElem?_cons_succ] at r0 r1 r2 r3 r4 r5 r6 r7 r8 r9 r10 r11 r12
              have hB7 := HBW.out.trans (hkg.to_below HBW.out.size (fun k hk => by have e : k = g1 := hk; rw [e, HG1.out]; exact Nat.le_refl _))
              have hB8 := hB7.trans (hkr.to_below hB7.size (fun k hk => by have e : k = g2 := hk; rw [e, HG2.out]; omega))
              have hkk : Keep (fun k => k = g1 ∨ k = g2) wr W7 := (hkg.mono (G := fun k => k = g1 ∨ k = g2) (fun k h _ => .inl h)).trans (hkr.mono (G := fun k => k = g1 ∨ k = g2) (fun k h _ => .inr h)) (fun b h => .inl h)
              have hB9 := HWB.out.trans (hB8.mono HWB.out.size)
              have hcap : hs.length ≤ cu := (Kd.R_reads' HU.out).2.1
              have hC : ∀ W', Keep (fun k => wb.heap.size ≤ k ∧ k < w.heap.size) W7 W' → Below wb.heap.size wb W' ∧ entK.C W' Au hs.length (hs.map Eh.e) := fun W' hW' => by
                have hB10 := hB9.trans (hW'.to_below hB9.size (fun k hk => hk.1))
                exact ⟨hB10, (ehRow HU.out ((hkk.mono (G := fun k => k = g1 ∨ k = g2 ∨ k < w.heap.size) (fun k h _ => h.elim .inl (fun h => .inr (.inl h)))).trans (hW'.mono (G := fun k => k = g1 ∨ k = g2 ∨ k < w.heap.size) (fun k h _ => .inr (.inr h.2))) (fun b h => .inl h)) (fun k hk hg => by have h1 := HS2.out; have h2 := HB2.out.size; rcases hg with e | e | e <;> omega) (fun x hx => ⟨(HH.out x hx).2.2.2.1, ((HH.out x hx).2.2.2.2).below hB10⟩)).1⟩
              refine bodyPost_ret (v := .agg #[.int .i64 fr, .int .i64 tto, .int .i64 gen, .int .i64 kd1, .int .i64 term, .int .i64 index, .int .i64 last, .int .i64 commit, .bool yes, .slice At 64 ct, .slice Au hs.length cu, .slice Ao old.length co, .slice An 9 cn]) (by simp [results, Tryd.results13, go_sem, r0, r1, r2, r3, r4, r5, r6, r7, r8, r9, r10, r11, r12]) rfl ⟨⟨fr, tto, gen, kd1, term, index, last, commit, yes, (terms.take 64), hs.map Eh.e, old, (new.take 9)⟩, Au, cu, ?_, fun W' hW' => ⟨?_, by show entK.C W' Au (hs.map Eh.e).length _; rw [List.length_map]; exact (hC W' hW').2, ?_, ?_⟩, HK.out, by show (hs.map Eh.e).length ≤ 64; rw [List.length_map, HL.out]; omega, by show (hs.map Eh.e).length ≤ cu; rw [List.length_map]; exact hcap, ?_, ?_, ?_, ?_, hB8⟩
              · unfold msgV
                dsimp only
                rw [List.length_map, hxlt, hxln]
              · exact (show ReadsInt wb .i64 _ (terms.take 64).length (terms.take 64) from by rw [hxlt]; exact takeI (l := terms) HM.out.terms 64 (by omega)).below (hC W' hW').1
              · exact (HM.out.old).below (hC W' hW').1
              · exact (show ReadsInt wb .i64 _ (new.take 9).length (new.take 9) from by rw [hxln]; exact takeI (l := new) HM.out.new 9 (by omega)).below (hC W' hW').1
              · intro x hx
                obtain ⟨y, hy, rfl⟩ := List.mem_map.1 hx
                exact ⟨(HH.out y hy).1, (HH.out y hy).2.1, (HH.out y hy).2.2.1⟩
              · show ((terms.take 64)).length ≤ 64 ∧ ((terms.take 64)).length ≤ ct
                omega
              · show (old).length ≤ 9 ∧ (old).length ≤ co
                omega
              · show ((new.take 9)).length ≤ 9 ∧ ((new.take 9)).length ≤ cn
                omega
            · have hct : ∀ W, (Instr.slice 25 (.slice At terms.length ct) none (some (.int .i64 64)) none).run Tryd.prog W = .ok (.slice At 64 ct) W := fun W => cut_i At terms.length ct 64 (by omega) W
              have hxlt : (terms.take 64).length = 64 := by rw [List.length_take]; omega
              go_wp2_with fail
              clear q0 q1 q2 q3 q4 q5 q6 q7 q8 q9 q10 q11 q12 f0 r0 r1 r2 r3 r4 r5 r6 r7 r8 r9 r10 r11 r12 r0f
              have hkg : Keep (fun k => k = g1) wr ((wr.setCell ⟨g1, 10, none⟩ (.slice Au hs.length cu)).setCell ⟨g1, 9, none⟩ (.slice At 64 ct)) := ((Keep.refl (fun k => k = g1) wr).setCell ⟨g1, 10, none⟩ _ (.inl rfl)).setCell ⟨g1, 9, none⟩ _ (.inl rfl)
              have hbg2 := hkg.blk Hb2r.out (fun e => h21 e)
              have hf : (((((((((((((((wr.setCell ⟨g1, 10, none⟩ (.slice Au hs.length cu)).setCell ⟨g1, 9, none⟩ (.slice At 64 ct)).setCell ⟨g2, 0, none⟩ (.int .i64 fr)).setCell ⟨g2, 1, none⟩ (.int .i64 tto)).setCell ⟨g2, 2, none⟩ (.int .i64 gen)).setCell ⟨g2, 3, none⟩ (.int .i64 kd1)).setCell ⟨g2, 4, none⟩ (.int .i64 term)).setCell ⟨g2, 5, none⟩ (.int .i64 index)).setCell ⟨g2, 6, none⟩ (.int .i64 last)).setCell ⟨g2, 7, none⟩ (.int .i64 commit)).setCell ⟨g2, 8, none⟩ (.bool yes)).setCell ⟨g2, 9, none⟩ (.slice At 64 ct)).setCell ⟨g2, 10, none⟩ (.slice Au hs.length cu)).setCell ⟨g2, 11, none⟩ (.slice Ao old.length co)).setCell ⟨g2, 12, none⟩ (.slice An new.length cn)) = ((wr.setCell ⟨g1, 10, none⟩ (.slice Au hs.length cu)).setCell ⟨g1, 9, none⟩ (.slice At 64 ct)).setCells g2 0 [.int .i64 fr, .int .i64 tto, .int .i64 gen, .int .i64 kd1, .int .i64 term, .int .i64 index, .int .i64 last, .int .i64 commit, .bool yes, .slice At 64 ct, .slice Au hs.length cu, .slice Ao old.length co, .slice An new.length cn] := rfl
              rw [hf]
              clear hf
              have hkr := Keep.setCells (F := fun k => k = g2) g2 [.int .i64 fr, .int .i64 tto, .int .i64 gen, .int .i64 kd1, .int .i64 term, .int .i64 index, .int .i64 last, .int .i64 commit, .bool yes, .slice At 64 ct, .slice Au hs.length cu, .slice Ao old.length co, .slice An new.length cn] 0 _ (Keep.refl (fun k => k = g2) ((wr.setCell ⟨g1, 10, none⟩ (.slice Au hs.length cu)).setCell ⟨g1, 9, none⟩ (.slice At 64 ct))) (.inl rfl)
              obtain ⟨cur, hc1, hc2, hc3⟩ := setCells_blk [.int .i64 fr, .int .i64 tto, .int .i64 gen, .int .i64 kd1, .int .i64 term, .int .i64 index, .int .i64 last, .int .i64 commit, .bool yes, .slice At 64 ct, .slice Au hs.length cu, .slice Ao old.length co, .slice An new.length cn] 0 ((wr.setCell ⟨g1, 10, none⟩ (.slice Au hs.length cu)).setCell ⟨g1, 9, none⟩ (.slice At 64 ct)) zeroMsg hbg2 (Nat.le_refl 13)
              have hcur : cur = #[.int .i64 fr, .int .i64 tto, .int .i64 gen, .int .i64 kd1, .int .i64 term, .int .i64 index, .int .i64 last, .int .i64 commit, .bool yes, .slice At 64 ct, .slice Au hs.length cu, .slice Ao old.length co, .slice An new.length cn] := by
                apply Array.toList_inj.1
                rw [hc3]
                rfl
              subst hcur
              generalize ((wr.setCell ⟨g1, 10, none⟩ (.slice Au hs.length cu)).setCell ⟨g1, 9, none⟩ (.slice At 64 ct)).setCells g2 0 [.int .i64 fr, .int .i64 tto, .int .i64 gen, .int .i64 kd1, .int .i64 term, .int .i64 index, .int .i64 last, .int .i64 commit, .bool yes, .slice At 64 ct, .slice Au hs.length cu, .slice Ao old.length co, .slice An new.length cn] = W7 at *
              have r0 := blk_cell hc1 0
              have r1 := blk_cell hc1 1
              have r2 := blk_cell hc1 2
              have r3 := blk_cell hc1 3
              have r4 := blk_cell hc1 4
              have r5 := blk_cell hc1 5
              have r6 := blk_cell hc1 6
              have r7 := blk_cell hc1 7
              have r8 := blk_cell hc1 8
              have r9 := blk_cell hc1 9
              have r10 := blk_cell hc1 10
              have r11 := blk_cell hc1 11
              have r12 := blk_cell hc1 12
              simp only [List.getElem?_toArray, List.getElem?_cons_zero, List.getElem?_cons_succ] at r0 r1 r2 r3 r4 r5 r6 r7 r8 r9 r10 r11 r12
              have hB7 := HBW.out.trans (hkg.to_below HBW.out.size (fun k hk => by have e : k = g1 := hk; rw [e, HG1.out]; exact Nat.le_refl _))
              have hB8 := hB7.trans (hkr.to_below hB7.size (fun k hk => by have e : k = g2 := hk; rw [e, HG2.out]; omega))
              have hkk : Keep (fun k => k = g1 ∨ k = g2) wr W7 := (hkg.mono (G := fun k => k = g1 ∨ k = g2) (fun k h _ => .inl h)).trans (hkr.mono (G := fun k => k = g1 ∨ k = g2) (fun k h _ => .inr h)) (fun b h => .inl h)
              have hB9 := HWB.out.trans (hB8.mono HWB.out.size)
              have hcap : hs.length ≤ cu := (Kd.R_reads' HU.out).2.1
              have hC : ∀ W', Keep (fun k => wb.heap.size ≤ k ∧ k < w.heap.size) W7 W' → Below wb.heap.size wb W' ∧ entK.C W' Au hs.length (hs.map Eh.e) := fun W' hW' => by
                have hB10 := hB9.trans (hW'.to_below hB9.size (fun k hk => hk.1))
                exact ⟨hB10, (ehRow HU.out ((hkk.mono (G := fun k => k = g1 ∨ k = g2 ∨ k < w.heap.size) (fun k h _ => h.elim .inl (fun h => .inr (.inl h)))).trans (hW'.mono (G := fun k => k = g1 ∨ k = g2 ∨ k < w.heap.size) (fun k h _ => .inr (.inr h.2))) (fun b h => .inl h)) (fun k hk hg => by have h1 := HS2.out; have h2 := HB2.out.size; rcases hg with e | e | e <;> omega) (fun x hx => ⟨(HH.out x hx).2.2.2.1, ((HH.out x hx).2.2.2.2).below hB10⟩)).1⟩
              refine bodyPost_ret (v := .agg #[.int .i64 fr, .int .i64 tto, .int .i64 gen, .int .i64 kd1, .int .i64 term, .int .i64 index, .int .i64 last, .int .i64 commit, .bool yes, .slice At 64 ct, .slice Au hs.length cu, .slice Ao old.length co, .slice An new.length cn]) (by simp [results, Tryd.results13, go_sem, r0, r1, r2, r3, r4, r5, r6, r7, r8, r9, r10, r11, r12]) rfl ⟨⟨fr, tto, gen, kd1, term, index, last, commit, yes, (terms.take 64), hs.map Eh.e, old, new⟩, Au, cu, ?_, fun W' hW' => ⟨?_, by show entK.C W' Au (hs.map Eh.e).length _; rw [List.length_map]; exact (hC W' hW').2, ?_, ?_⟩, HK.out, by show (hs.map Eh.e).length ≤ 64; rw [List.length_map, HL.out]; omega, by show (hs.map Eh.e).length ≤ cu; rw [List.length_map]; exact hcap, ?_, ?_, ?_, ?_, hB8⟩
              · unfold msgV
                dsimp only
                rw [List.length_map, hxlt]
              · exact (show ReadsInt wb .i64 _ (terms.take 64).length (terms.take 64) from by rw [hxlt]; exact takeI (l := terms) HM.out.terms 64 (by omega)).below (hC W' hW').1
              · exact (HM.out.old).below (hC W' hW').1
              · exact (HM.out.new).below (hC W' hW').1
              · intro x hx
                obtain ⟨y, hy, rfl⟩ := List.mem_map.1 hx
                exact ⟨(HH.out y hy).1, (HH.out y hy).2.1, (HH.out y hy).2.2.1⟩
              · show ((terms.take 64)).length ≤ 64 ∧ ((terms.take 64)).length ≤ ct
                omega
              · show (old).length ≤ 9 ∧ (old).length ≤ co
                omega
              · show (new).length ≤ 9 ∧ (new).length ≤ cn
                omega
        · by_cases a2 : (9 : Int) < (old.length : Int)
          · by_cases a3 : (9 : Int) < (new.length : Int)
            · have hco : ∀ W, (Instr.slice 25 (.slice Ao old.length co) none (some (.int .i64 9)) none).run Tryd.prog W = .ok (.slice Ao 9 co) W := fun W => cut_i Ao old.length co 9 (by omega) W
              have hxlo : (old.take 9).length = 9 := by rw [List.length_take]; omega
              have hcn : ∀ W, (Instr.slice 25 (.slice An new.length cn) none (some (.int .i64 9)) none).run Tryd.prog W = .ok (.slice An 9 cn) W := fun W => cut_i An new.length cn 9 (by omega) W
              have hxln : (new.take 9).length = 9 := by rw [List.length_take]; omega
              go_wp2_with fail
              clear q0 q1 q2 q3 q4 q5 q6 q7 q8 q9 q10 q11 q12 f0 r0 r1 r2 r3 r4 r5 r6 r7 r8 r9 r10 r11 r12 r0f
              have hkg : Keep (fun k => k = g1) wr (((wr.setCell ⟨g1, 10, none⟩ (.slice Au hs.length cu)).setCell ⟨g1, 11, none⟩ (.slice Ao 9 co)).setCell ⟨g1, 12, none⟩ (.slice An 9 cn)) := (((Keep.refl (fun k => k = g1) wr).setCell ⟨g1, 10, none⟩ _ (.inl rfl)).setCell ⟨g1, 11, none⟩ _ (.inl rfl)).setCell ⟨g1, 12, none⟩ _ (.inl rfl)
              have hbg2 := hkg.blk Hb2r.out (fun e => h21 e)
              have hf : ((((((((((((((((wr.setCell ⟨g1, 10, none⟩ (.slice Au hs.length cu)).setCell ⟨g1, 11, none⟩ (.slice Ao 9 co)).setCell ⟨g1, 12, none⟩ (.slice An 9 cn)).setCell ⟨g2, 0, none⟩ (.int .i64 fr)).setCell ⟨g2, 1, none⟩ (.int .i64 tto)).setCell ⟨g2, 2, none⟩ (.int .i64 gen)).setCell ⟨g2, 3, none⟩ (.int .i64 kd1)).setCell ⟨g2, 4, none⟩ (.int .i64 term)).setCell ⟨g2, 5, none⟩ (.int .i64 index)).setCell ⟨g2, 6, none⟩ (.int .i64 last)).setCell ⟨g2, 7, none⟩ (.int .i64 commit)).setCell ⟨g2, 8, none⟩ (.bool yes)).setCell ⟨g2, 9, none⟩ (.slice At terms.length ct)).setCell ⟨g2, 10, none⟩ (.slice Au hs.length cu)).setCell ⟨g2, 11, none⟩ (.slice Ao 9 co)).setCell ⟨g2, 12, none⟩ (.slice An 9 cn)) = (((wr.setCell ⟨g1, 10, none⟩ (.slice Au hs.length cu)).setCell ⟨g1, 11, none⟩ (.slice Ao 9 co)).setCell ⟨g1, 12, none⟩ (.slice An 9 cn)).setCells g2 0 [.int .i64 fr, .int .i64 tto, .int .i64 gen, .int .i64 kd1, .int .i64 term, .int .i64 index, .int .i64 last, .int .i64 commit, .bool yes, .slice At terms.length ct, .slice Au hs.length cu, .slice Ao 9 co, .slice An 9 cn] := rfl
              rw [hf]
              clear hf
              have hkr := Keep.setCells (F := fun k => k = g2) g2 [.int .i64 fr, .int .i64 tto, .int .i64 gen, .int .i64 kd1, .int .i64 term, .int .i64 index, .int .i64 last, .int .i64 commit, .bool yes, .slice At terms.length ct, .slice Au hs.length cu, .slice Ao 9 co, .slice An 9 cn] 0 _ (Keep.refl (fun k => k = g2) (((wr.setCell ⟨g1, 10, none⟩ (.slice Au hs.length cu)).setCell ⟨g1, 11, none⟩ (.slice Ao 9 co)).setCell ⟨g1, 12, none⟩ (.slice An 9 cn))) (.inl rfl)
              obtain ⟨cur, hc1, hc2, hc3⟩ := setCells_blk [.int .i64 fr, .int .i64 tto, .int .i64 gen, .int .i64 kd1, .int .i64 term, .int .i64 index, .int .i64 last, .int .i64 commit, .bool yes, .slice At terms.length ct, .slice Au hs.length cu, .slice Ao 9 co, .slice An 9 cn] 0 (((wr.setCell ⟨g1, 10, none⟩ (.slice Au hs.length cu)).setCell ⟨g1, 11, none⟩ (.slice Ao 9 co)).setCell ⟨g1, 12, none⟩ (.slice An 9 cn)) zeroMsg hbg2 (Nat.le_refl 13)
              have hcur : cur = #[.int .i64 fr, .int .i64 tto, .int .i64 gen, .int .i64 kd1, .int .i64 term, .int .i64 index, .int .i64 last, .int .i64 commit, .bool yes, .slice At terms.length ct, .slice Au hs.length cu, .slice Ao 9 co, .slice An 9 cn] := by
                apply Array.toList_inj.1
                rw [hc3]
                rfl
              subst hcur
              generalize (((wr.setCell ⟨g1, 10, none⟩ (.slice Au hs.length cu)).setCell ⟨g1, 11, none⟩ (.slice Ao 9 co)).setCell ⟨g1, 12, none⟩ (.slice An 9 cn)).setCells g2 0 [.int .i64 fr, .int .i64 tto, .int .i64 gen, .int .i64 kd1, .int .i64 term, .int .i64 index, .int .i64 last, .int .i64 commit, .bool yes, .slice At terms.length ct, .slice Au hs.length cu, .slice Ao 9 co, .slice An 9 cn] = W7 at *
              have r0 := blk_cell hc1 0
              have r1 := blk_cell hc1 1
              have r2 := blk_cell hc1 2
              have r3 := blk_cell hc1 3
              have r4 := blk_cell hc1 4
              have r5 := blk_cell hc1 5
              have r6 := blk_cell hc1 6
              have r7 := blk_cell hc1 7
              have r8 := blk_cell hc1 8
              have r9 := blk_cell hc1 9
              have r10 := blk_cell hc1 10
              have r11 := blk_cell hc1 11
              have r12 := blk_cell hc1 12
              simp only [List.getElem?_toArray, List.getElem?_cons_zero, List.getElem?_cons_succ] at r0 r1 r2 r3 r4 r5 r6 r7 r8 r9 r10 r11 r12
              have hB7 := HBW.out.trans (hkg.to_below HBW.out.size (fun k hk => by have e : k = g1 := hk; rw [e, HG1.out]; exact Nat.le_refl _))
              have hB8 := hB7.trans (hkr.to_below hB7.size (fun k hk => by have e : k = g2 := hk; rw [e, HG2.out]; omega))
              have hkk : Keep (fun k => k = g1 ∨ k = g2) wr W7 := (hkg.mono (G := fun k => k = g1 ∨ k = g2) (fun k h _ => .inl h)).trans (hkr.mono (G := fun k => k = g1 ∨ k = g2) (fun k h _ => .inr h)) (fun b h => .inl h)
              have hB9 := HWB.out.trans (hB8.mono HWB.out.size)
              have hcap : hs.length ≤ cu := (Kd.R_reads' HU.out).2.1
              have hC : ∀ W', Keep (fun k => wb.heap.size ≤ k ∧ k < w.heap.size) W7 W' → Below wb.heap.size wb W' ∧ entK.C W' Au hs.length (hs.map Eh.e) := fun W' hW' => by
                have hB10 := hB9.trans (hW'.to_below hB9.size (fun k hk => hk.1))
                exact ⟨hB10, (ehRow HU.out ((hkk.mono (G := fun k => k = g1 ∨ k = g2 ∨ k < w.heap.size) (fun k h _ => h.elim .inl (fun h => .inr (.inl h)))).trans (hW'.mono (G := fun k => k = g1 ∨ k = g2 ∨ k < w.heap.size) (fun k h _ => .inr (.inr h.2))) (fun b h => .inl h)) (fun k hk hg => by have h1 := HS2.out; have h2 := HB2.out.size; rcases hg with e | e | e <;> omega) (fun x hx => ⟨(HH.out x hx).2.2.2.1, ((HH.out x hx).2.2.2.2).below hB10⟩)).1⟩
              refine bodyPost_ret (v := .agg #[.int .i64 fr, .int .i64 tto, .int .i64 gen, .int .i64 kd1, .int .i64 term, .int .i64 index, .int .i64 last, .int .i64 commit, .bool yes, .slice At terms.length ct, .slice Au hs.length cu, .slice Ao 9 co, .slice An 9 cn]) (by simp [results, Tryd.results13, go_sem, r0, r1, r2, r3, r4, r5, r6, r7, r8, r9, r10, r11, r12]) rfl ⟨⟨fr, tto, gen, kd1, term, index, last, commit, yes, terms, hs.map Eh.e, (old.take 9), (new.take 9)⟩, Au, cu, ?_, fun W' hW' => ⟨?_, by show entK.C W' Au (hs.map Eh.e).length _; rw [List.length_map]; exact (hC W' hW').2, ?_, ?_⟩, HK.out, by show (hs.map Eh.e).length ≤ 64; rw [List.length_map, HL.out]; omega, by show (hs.map Eh.e).length ≤ cu; rw [List.length_map]; exact hcap, ?_, ?_, ?_, ?_, hB8⟩
              · unfold msgV
                dsimp only
                rw [List.length_map, hxlo, hxln]
              · exact (HM.out.terms).below (hC W' hW').1
              · exact (show ReadsInt wb .i64 _ (old.take 9).length (old.take 9) from by rw [hxlo]; exact takeI (l := old) HM.out.old 9 (by omega)).below (hC W' hW').1
              · exact (show ReadsInt wb .i64 _ (new.take 9).length (new.take 9) from by rw [hxln]; exact takeI (l := new) HM.out.new 9 (by omega)).below (hC W' hW').1
              · intro x hx
                obtain ⟨y, hy, rfl⟩ := List.mem_map.1 hx
                exact ⟨(HH.out y hy).1, (HH.out y hy).2.1, (HH.out y hy).2.2.1⟩
              · show (terms).length ≤ 64 ∧ (terms).length ≤ ct
                omega
              · show ((old.take 9)).length ≤ 9 ∧ ((old.take 9)).length ≤ co
                omega
              · show ((new.take 9)).length ≤ 9 ∧ ((new.take 9)).length ≤ cn
                omega
            · have hco : ∀ W, (Instr.slice 25 (.slice Ao old.length co) none (some (.int .i64 9)) none).run Tryd.prog W = .ok (.slice Ao 9 co) W := fun W => cut_i Ao old.length co 9 (by omega) W
              have hxlo : (old.take 9).length = 9 := by rw [List.length_take]; omega
              go_wp2_with fail
              clear q0 q1 q2 q3 q4 q5 q6 q7 q8 q9 q10 q11 q12 f0 r0 r1 r2 r3 r4 r5 r6 r7 r8 r9 r10 r11 r12 r0f
              have hkg : Keep (fun k => k = g1) wr ((wr.setCell ⟨g1, 10, none⟩ (.slice Au hs.length cu)).setCell ⟨g1, 11, none⟩ (.slice Ao 9 co)) := ((Keep.refl (fun k => k = g1) wr).setCell ⟨g1, 10, none⟩ _ (.inl rfl)).setCell ⟨g1, 11, none⟩ _ (.inl rfl)
              have hbg2 := hkg.blk Hb2r.out (fun e => h21 e)
              have hf : (((((((((((((((wr.setCell ⟨g1, 10, none⟩ (.slice Au hs.length cu)).setCell ⟨g1, 11, none⟩ (.slice Ao 9 co)).setCell ⟨g2, 0, none⟩ (.int .i64 fr)).setCell ⟨g2, 1, none⟩ (.int .i64 tto)).setCell ⟨g2, 2, none⟩ (.int .i64 gen)).setCell ⟨g2, 3, none⟩ (.int .i64 kd1)).setCell ⟨g2, 4, none⟩ (.int .i64 term)).setCell ⟨g2, 5, none⟩ (.int .i64 index)).setCell ⟨g2, 6, none⟩ (.int .i64 last)).setCell ⟨g2, 7, none⟩ (.int .i64 commit)).setCell ⟨g2, 8, none⟩ (.bool yes)).setCell ⟨g2, 9, none⟩ (.slice At terms.length ct)).setCell ⟨g2, 10, none⟩ (.slice Au hs.length cu)).setCell ⟨g2, 11, none⟩ (.slice Ao 9 co)).setCell ⟨g2, 12, none⟩ (.slice An new.length cn)) = ((wr.setCell ⟨g1, 10, none⟩ (.slice Au hs.length cu)).setCell ⟨g1, 11, none⟩ (.slice Ao 9 co)).setCells g2 0 [.int .i64 fr, .int .i64 tto, .int .i64 gen, .int .i64 kd1, .int .i64 term, .int .i64 index, .int .i64 last, .int .i64 commit, .bool yes, .slice At terms.length ct, .slice Au hs.length cu, .slice Ao 9 co, .slice An new.length cn] := rfl
              rw [hf]
              clear hf
              have hkr := Keep.setCells (F := fun k => k = g2) g2 [.int .i64 fr, .int .i64 tto, .int .i64 gen, .int .i64 kd1, .int .i64 term, .int .i64 index, .int .i64 last, .int .i64 commit, .bool yes, .slice At terms.length ct, .slice Au hs.length cu, .slice Ao 9 co, .slice An new.length cn] 0 _ (Keep.refl (fun k => k = g2) ((wr.setCell ⟨g1, 10, none⟩ (.slice Au hs.length cu)).setCell ⟨g1, 11, none⟩ (.slice Ao 9 co))) (.inl rfl)
              obtain ⟨cur, hc1, hc2, hc3⟩ := setCells_blk [.int .i64 fr, .int .i64 tto, .int .i64 gen, .int .i64 kd1, .int .i64 term, .int .i64 index, .int .i64 last, .int .i64 commit, .bool yes, .slice At terms.length ct, .slice Au hs.length cu, .slice Ao 9 co, .slice An new.length cn] 0 ((wr.setCell ⟨g1, 10, none⟩ (.slice Au hs.length cu)).setCell ⟨g1, 11, none⟩ (.slice Ao 9 co)) zeroMsg hbg2 (Nat.le_refl 13)
              have hcur : cur = #[.int .i64 fr, .int .i64 tto, .int .i64 gen, .int .i64 kd1, .int .i64 term, .int .i64 index, .int .i64 last, .int .i64 commit, .bool yes, .slice At terms.length ct, .slice Au hs.length cu, .slice Ao 9 co, .slice An new.length cn] := by
                apply Array.toList_inj.1
                rw [hc3]
                rfl
              subst hcur
              generalize ((wr.setCell ⟨g1, 10, none⟩ (.slice Au hs.length cu)).setCell ⟨g1, 11, none⟩ (.slice Ao 9 co)).setCells g2 0 [.int .i64 fr, .int .i64 tto, .int .i64 gen, .int .i64 kd1, .int .i64 term, .int .i64 index, .int .i64 last, .int .i64 commit, .bool yes, .slice At terms.length ct, .slice Au hs.length cu, .slice Ao 9 co, .slice An new.length cn] = W7 at *
              have r0 := blk_cell hc1 0
              have r1 := blk_cell hc1 1
              have r2 := blk_cell hc1 2
              have r3 := blk_cell hc1 3
              have r4 := blk_cell hc1 4
              have r5 := blk_cell hc1 5
              have r6 := blk_cell hc1 6
              have r7 := blk_cell hc1 7
              have r8 := blk_cell hc1 8
              have r9 := blk_cell hc1 9
              have r10 := blk_cell hc1 10
              have r11 := blk_cell hc1 11
              have r12 := blk_cell hc1 12
              simp only [List.getElem?_toArray, List.getElem?_cons_zero, List.getElem?_cons_succ] at r0 r1 r2 r3 r4 r5 r6 r7 r8 r9 r10 r11 r12
              have hB7 := HBW.out.trans (hkg.to_below HBW.out.size (fun k hk => by have e : k = g1 := hk; rw [e, HG1.out]; exact Nat.le_refl _))
              have hB8 := hB7.trans (hkr.to_below hB7.size (fun k hk => by have e : k = g2 := hk; rw [e, HG2.out]; omega))
              have hkk : Keep (fun k => k = g1 ∨ k = g2) wr W7 := (hkg.mono (G := fun k => k = g1 ∨ k = g2) (fun k h _ => .inl h)).trans (hkr.mono (G := fun k => k = g1 ∨ k = g2) (fun k h _ => .inr h)) (fun b h => .inl h)
              have hB9 := HWB.out.trans (hB8.mono HWB.out.size)
              have hcap : hs.length ≤ cu := (Kd.R_reads' HU.out).2.1
              have hC : ∀ W', Keep (fun k => wb.heap.size ≤ k ∧ k < w.heap.size) W7 W' → Below wb.heap.size wb W' ∧ entK.C W' Au hs.length (hs.map Eh.e) := fun W' hW' => by
                have hB10 := hB9.trans (hW'.to_below hB9.size (fun k hk => hk.1))
                exact ⟨hB10, (ehRow HU.out ((hkk.mono (G := fun k => k = g1 ∨ k = g2 ∨ k < w.heap.size) (fun k h _ => h.elim .inl (fun h => .inr (.inl h)))).trans (hW'.mono (G := fun k => k = g1 ∨ k = g2 ∨ k < w.heap.size) (fun k h _ => .inr (.inr h.2))) (fun b h => .inl h)) (fun k hk hg => by have h1 := HS2.out; have h2 := HB2.out.size; rcases hg with e | e | e <;> omega) (fun x hx => ⟨(HH.out x hx).2.2.2.1, ((HH.out x hx).2.2.2.2).below hB10⟩)).1⟩
              refine bodyPost_ret (v := .agg #[.int .i64 fr, .int .i64 tto, .int .i64 gen, .int .i64 kd1, .int .i64 term, .int .i64 index, .int .i64 last, .int .i64 commit, .bool yes, .slice At terms.length ct, .slice Au hs.length cu, .slice Ao 9 co, .slice An new.length cn]) (by simp [results, Tryd.results13, go_sem, r0, r1, r2, r3, r4, r5, r6, r7, r8, r9, r10, r11, r12]) rfl ⟨⟨fr, tto, gen, kd1, term, index, last, commit, yes, terms, hs.map Eh.e, (old.take 9), new⟩, Au, cu, ?_, fun W' hW' => ⟨?_, by show entK.C W' Au (hs.map Eh.e).length _; rw [List.length_map]; exact (hC W' hW').2, ?_, ?_⟩, HK.out, by show (hs.map Eh.e).length ≤ 64; rw [List.length_map, HL.out]; omega, by show (hs.map Eh.e).length ≤ cu; rw [List.length_map]; exact hcap, ?_, ?_, ?_, ?_, hB8⟩
              · unfold msgV
                dsimp only
                rw [List.length_map, hxlo]
              · exact (HM.out.terms).below (hC W' hW').1
              · exact (show ReadsInt wb .i64 _ (old.take 9).length (old.take 9) from by rw [hxlo]; exact takeI (l := old) HM.out.old 9 (by omega)).below (hC W' hW').1
              · exact (HM.out.new).below (hC W' hW').1
              · intro x hx
                obtain ⟨y, hy, rfl⟩ := List.mem_map.1 hx
                exact ⟨(HH.out y hy).1, (HH.out y hy).2.1, (HH.out y hy).2.2.1⟩
              · show (terms).length ≤ 64 ∧ (terms).length ≤ ct
                omega
              · show ((old.take 9)).length ≤ 9 ∧ ((old.take 9)).length ≤ co
                omega
              · show (new).length ≤ 9 ∧ (new).length ≤ cn
                omega
          · by_cases a3 : (9 : Int) < (new.length : Int)
            · have hcn : ∀ W, (Instr.slice 25 (.slice An new.length cn) none (some (.int .i64 9)) none).run Tryd.prog W = .ok (.slice An 9 cn) W := fun W => cut_i An new.length cn 9 (by omega) W
              have hxln : (new.take 9).length = 9 := by rw [List.length_take]; omega
              go_wp2_with fail
              clear q0 q1 q2 q3 q4 q5 q6 q7 q8 q9 q10 q11 q12 f0 r0 r1 r2 r3 r4 r5 r6 r7 r8 r9 r10 r11 r12 r0f
              have hkg : Keep (fun k => k = g1) wr ((wr.setCell ⟨g1, 10, none⟩ (.slice Au hs.length cu)).setCell ⟨g1, 12, none⟩ (.slice An 9 cn)) := ((Keep.refl (fun k => k = g1) wr).setCell ⟨g1, 10, none⟩ _ (.inl rfl)).setCell ⟨g1, 12, none⟩ _ (.inl rfl)
              have hbg2 := hkg.blk Hb2r.out (fun e => h21 e)
              have hf : (((((((((((((((wr.setCell ⟨g1, 10, none⟩ (.slice Au hs.length cu)).setCell ⟨g1, 12, none⟩ (.slice An 9 cn)).setCell ⟨g2, 0, none⟩ (.int .i64 fr)).setCell ⟨g2, 1, none⟩ (.int .i64 tto)).setCell ⟨g2, 2, none⟩ (.int .i64 gen)).setCell ⟨g2, 3, none⟩ (.int .i64 kd1)).setCell ⟨g2, 4, none⟩ (.int .i64 term)).setCell ⟨g2, 5, none⟩ (.int .i64 index)).setCell ⟨g2, 6, none⟩ (.int .i64 last)).setCell ⟨g2, 7, none⟩ (.int .i64 commit)).setCell ⟨g2, 8, none⟩ (.bool yes)).setCell ⟨g2, 9, none⟩ (.slice At terms.length ct)).setCell ⟨g2, 10, none⟩ (.slice Au hs.length cu)).setCell ⟨g2, 11, none⟩ (.slice Ao old.length co)).setCell ⟨g2, 12, none⟩ (.slice An 9 cn)) = ((wr.setCell ⟨g1, 10, none⟩ (.slice Au hs.length cu)).setCell ⟨g1, 12, none⟩ (.slice An 9 cn)).setCells g2 0 [.int .i64 fr, .int .i64 tto, .int .i64 gen, .int .i64 kd1, .int .i64 term, .int .i64 index, .int .i64 last, .int .i64 commit, .bool yes, .slice At terms.length ct, .slice Au hs.length cu, .slice Ao old.length co, .slice An 9 cn] := rfl
              rw [hf]
              clear hf
              have hkr := Keep.setCells (F := fun k => k = g2) g2 [.int .i64 fr, .int .i64 tto, .int .i64 gen, .int .i64 kd1, .int .i64 term, .int .i64 index, .int .i64 last, .int .i64 commit, .bool yes, .slice At terms.length ct, .slice Au hs.length cu, .slice Ao old.length co, .slice An 9 cn] 0 _ (Keep.refl (fun k => k = g2) ((wr.setCell ⟨g1, 10, none⟩ (.slice Au hs.length cu)).setCell ⟨g1, 12, none⟩ (.slice An 9 cn))) (.inl rfl)
              obtain ⟨cur, hc1, hc2, hc3⟩ := setCells_blk [.int .i64 fr, .int .i64 tto, .int .i64 gen, .int .i64 kd1, .int .i64 term, .int .i64 index, .int .i64 last, .int .i64 commit, .bool yes, .slice At terms.length ct, .slice Au hs.length cu, .slice Ao old.length co, .slice An 9 cn] 0 ((wr.setCell ⟨g1, 10, none⟩ (.slice Au hs.length cu)).setCell ⟨g1, 12, none⟩ (.slice An 9 cn)) zeroMsg hbg2 (Nat.le_refl 13)
              have hcur : cur = #[.int .i64 fr, .int .i64 tto, .int .i64 gen, .int .i64 kd1, .int .i64 term, .int .i64 index, .int .i64 last, .int .i64 commit, .bool yes, .slice At terms.length ct, .slice Au hs.length cu, .slice Ao old.length co, .slice An 9 cn] := by
                apply Array.toList_inj.1
                rw [hc3]
                rfl
              subst hcur
              generalize ((wr.setCell ⟨g1, 10, none⟩ (.slice Au hs.length cu)).setCell ⟨g1, 12, none⟩ (.slice An 9 cn)).setCells g2 0 [.int .i64 fr, .int .i64 tto, .int .i64 gen, .int .i64 kd1, .int .i64 term, .int .i64 index, .int .i64 last, .int .i64 commit, .bool yes, .slice At terms.length ct, .slice Au hs.length cu, .slice Ao old.length co, .slice An 9 cn] = W7 at *
              have r0 := blk_cell hc1 0
              have r1 := blk_cell hc1 1
              have r2 := blk_cell hc1 2
              have r3 := blk_cell hc1 3
              have r4 := blk_cell hc1 4
              have r5 := blk_cell hc1 5
              have r6 := blk_cell hc1 6
              have r7 := blk_cell hc1 7
              have r8 := blk_cell hc1 8
              have r9 := blk_cell hc1 9
              have r10 := blk_cell hc1 10
              have r11 := blk_cell hc1 11
              have r12 := blk_cell hc1 12
              simp only [List.getElem?_toArray, List.getElem?_cons_zero, List.getElem?_cons_succ] at r0 r1 r2 r3 r4 r5 r6 r7 r8 r9 r10 r11 r12
              have hB7 := HBW.out.trans (hkg.to_below HBW.out.size (fun k hk => by have e : k = g1 := hk; rw [e, HG1.out]; exact Nat.le_refl _))
              have hB8 := hB7.trans (hkr.to_below hB7.size (fun k hk => by have e : k = g2 := hk; rw [e, HG2.out]; omega))
              have hkk : Keep (fun k => k = g1 ∨ k = g2) wr W7 := (hkg.mono (G := fun k => k = g1 ∨ k = g2) (fun k h _ => .inl h)).trans (hkr.mono (G := fun k => k = g1 ∨ k = g2) (fun k h _ => .inr h)) (fun b h => .inl h)
              have hB9 := HWB.out.trans (hB8.mono HWB.out.size)
              have hcap : hs.length ≤ cu := (Kd.R_reads' HU.out).2.1
              have hC : ∀ W', Keep (fun k => wb.heap.size ≤ k ∧ k < w.heap.size) W7 W' → Below wb.heap.size wb W' ∧ entK.C W' Au hs.length (hs.map Eh.e) := fun W' hW' => by
                have hB10 := hB9.trans (hW'.to_below hB9.size (fun k hk => hk.1))
                exact ⟨hB10, (ehRow HU.out ((hkk.mono (G := fun k => k = g1 ∨ k = g2 ∨ k < w.heap.size) (fun k h _ => h.elim .inl (fun h => .inr (.inl h)))).trans (hW'.mono (G := fun k => k = g1 ∨ k = g2 ∨ k < w.heap.size) (fun k h _ => .inr (.inr h.2))) (fun b h => .inl h)) (fun k hk hg => by have h1 := HS2.out; have h2 := HB2.out.size; rcases hg with e | e | e <;> omega) (fun x hx => ⟨(HH.out x hx).2.2.2.1, ((HH.out x hx).2.2.2.2).below hB10⟩)).1⟩
              refine bodyPost_ret (v := .agg #[.int .i64 fr, .int .i64 tto, .int .i64 gen, .int .i64 kd1, .int .i64 term, .int .i64 index, .int .i64 last, .int .i64 commit, .bool yes, .slice At terms.length ct, .slice Au hs.length cu, .slice Ao old.length co, .slice An 9 cn]) (by simp [results, Tryd.results13, go_sem, r0, r1, r2, r3, r4, r5, r6, r7, r8, r9, r10, r11, r12]) rfl ⟨⟨fr, tto, gen, kd1, term, index, last, commit, yes, terms, hs.map Eh.e, old, (new.take 9)⟩, Au, cu, ?_, fun W' hW' => ⟨?_, by show entK.C W' Au (hs.map Eh.e).length _; rw [List.length_map]; exact (hC W' hW').2, ?_, ?_⟩, HK.out, by show (hs.map Eh.e).length ≤ 64; rw [List.length_map, HL.out]; omega, by show (hs.map Eh.e).length ≤ cu; rw [List.length_map]; exact hcap, ?_, ?_, ?_, ?_, hB8⟩
              · unfold msgV
                dsimp only
                rw [List.length_map, hxln]
              · exact (HM.out.terms).below (hC W' hW').1
              · exact (HM.out.old).below (hC W' hW').1
              · exact (show ReadsInt wb .i64 _ (new.take 9).length (new.take 9) from by rw [hxln]; exact takeI (l := new) HM.out.new 9 (by omega)).below (hC W' hW').1
              · intro x hx
                obtain ⟨y, hy, rfl⟩ := List.mem_map.1 hx
                exact ⟨(HH.out y hy).1, (HH.out y hy).2.1, (HH.out y hy).2.2.1⟩
              · show (terms).length ≤ 64 ∧ (terms).length ≤ ct
                omega
              · show (old).length ≤ 9 ∧ (old).length ≤ co
                omega
              · show ((new.take 9)).length ≤ 9 ∧ ((new.take 9)).length ≤ cn
                omega
            · go_wp2_with fail
              clear q0 q1 q2 q3 q4 q5 q6 q7 q8 q9 q10 q11 q12 f0 r0 r1 r2 r3 r4 r5 r6 r7 r8 r9 r10 r11 r12 r0f
              have hkg : Keep (fun k => k = g1) wr (wr.setCell ⟨g1, 10, none⟩ (.slice Au hs.length cu)) := (Keep.refl (fun k => k = g1) wr).setCell ⟨g1, 10, none⟩ _ (.inl rfl)
              have hbg2 := hkg.blk Hb2r.out (fun e => h21 e)
              have hf : ((((((((((((((wr.setCell ⟨g1, 10, none⟩ (.slice Au hs.length cu)).setCell ⟨g2, 0, none⟩ (.int .i64 fr)).setCell ⟨g2, 1, none⟩ (.int .i64 tto)).setCell ⟨g2, 2, none⟩ (.int .i64 gen)).setCell ⟨g2, 3, none⟩ (.int .i64 kd1)).setCell ⟨g2, 4, none⟩ (.int .i64 term)).setCell ⟨g2, 5, none⟩ (.int .i64 index)).setCell ⟨g2, 6, none⟩ (.int .i64 last)).setCell ⟨g2, 7, none⟩ (.int .i64 commit)).setCell ⟨g2, 8, none⟩ (.bool yes)).setCell ⟨g2, 9, none⟩ (.slice At terms.length ct)).setCell ⟨g2, 10, none⟩ (.slice Au hs.length cu)).setCell ⟨g2, 11, none⟩ (.slice Ao old.length co)).setCell ⟨g2, 12, none⟩ (.slice An new.length cn)) = (wr.setCell ⟨g1, 10, none⟩ (.slice Au hs.length cu)).setCells g2 0 [.int .i64 fr, .int .i64 tto, .int .i64 gen, .int .i64 kd1, .int .i64 term, .int .i64 index, .int .i64 last, .int .i64 commit, .bool yes, .slice At terms.length ct, .slice Au hs.length cu, .slice Ao old.length co, .slice An new.length cn] := rfl
              rw [hf]
              clear hf
              have hkr := Keep.setCells (F := fun k => k = g2) g2 [.int .i64 fr, .int .i64 tto, .int .i64 gen, .int .i64 kd1, .int .i64 term, .int .i64 index, .int .i64 last, .int .i64 commit, .bool yes, .slice At terms.length ct, .slice Au hs.length cu, .slice Ao old.length co, .slice An new.length cn] 0 _ (Keep.refl (fun k => k = g2) (wr.setCell ⟨g1, 10, none⟩ (.slice Au hs.length cu))) (.inl rfl)
              obtain ⟨cur, hc1, hc2, hc3⟩ := setCells_blk [.int .i64 fr, .int .i64 tto, .int .i64 gen, .int .i64 kd1, .int .i64 term, .int .i64 index, .int .i64 last, .int .i64 commit, .bool yes, .slice At terms.length ct, .slice Au hs.length cu, .slice Ao old.length co, .slice An new.length cn] 0 (wr.setCell ⟨g1, 10, none⟩ (.slice Au hs.length cu)) zeroMsg hbg2 (Nat.le_refl 13)
              have hcur : cur = #[.int .i64 fr, .int .i64 tto, .int .i64 gen, .int .i64 kd1, .int .i64 term, .int .i64 index, .int .i64 last, .int .i64 commit, .bool yes, .slice At terms.length ct, .slice Au hs.length cu, .slice Ao old.length co, .slice An new.length cn] := by
                apply Array.toList_inj.1
                rw [hc3]
                rfl
              subst hcur
              generalize (wr.setCell ⟨g1, 10, none⟩ (.slice Au hs.length cu)).setCells g2 0 [.int .i64 fr, .int .i64 tto, .int .i64 gen, .int .i64 kd1, .int .i64 term, .int .i64 index, .int .i64 last, .int .i64 commit, .bool yes, .slice At terms.length ct, .slice Au hs.length cu, .slice Ao old.length co, .slice An new.length cn] = W7 at *
              have r0 := blk_cell hc1 0
              have r1 := blk_cell hc1 1
              have r2 := blk_cell hc1 2
              have r3 := blk_cell hc1 3
              have r4 := blk_cell hc1 4
              have r5 := blk_cell hc1 5
              have r6 := blk_cell hc1 6
              have r7 := blk_cell hc1 7
              have r8 := blk_cell hc1 8
              have r9 := blk_cell hc1 9
              have r10 := blk_cell hc1 10
              have r11 := blk_cell hc1 11
              have r12 := blk_cell hc1 12
              simp only [List.getElem?_toArray, List.getElem?_cons_zero, List.getElem?_cons_succ] at r0 r1 r2 r3 r4 r5 r6 r7 r8 r9 r10 r11 r12
              have hB7 := HBW.out.trans (hkg.to_below HBW.out.size (fun k hk => by have e : k = g1 := hk; rw [e, HG1.out]; exact Nat.le_refl _))
              have hB8 := hB7.trans (hkr.to_below hB7.size (fun k hk => by have e : k = g2 := hk; rw [e, HG2.out]; omega))
              have hkk : Keep (fun k => k = g1 ∨ k = g2) wr W7 := (hkg.mono (G := fun k => k = g1 ∨ k = g2) (fun k h _ => .inl h)).trans (hkr.mono (G := fun k => k = g1 ∨ k = g2) (fun k h _ => .inr h)) (fun b h => .inl h)
              have hB9 := HWB.out.trans (hB8.mono HWB.out.size)
              have hcap : hs.length ≤ cu := (Kd.R_reads' HU.out).2.1
              have hC : ∀ W', Keep (fun k => wb.heap.size ≤ k ∧ k < w.heap.size) W7 W' → Below wb.heap.size wb W' ∧ entK.C W' Au hs.length (hs.map Eh.e) := fun W' hW' => by
                have hB10 := hB9.trans (hW'.to_below hB9.size (fun k hk => hk.1))
                exact ⟨hB10, (ehRow HU.out ((hkk.mono (G := fun k => k = g1 ∨ k = g2 ∨ k < w.heap.size) (fun k h _ => h.elim .inl (fun h => .inr (.inl h)))).trans (hW'.mono (G := fun k => k = g1 ∨ k = g2 ∨ k < w.heap.size) (fun k h _ => .inr (.inr h.2))) (fun b h => .inl h)) (fun k hk hg => by have h1 := HS2.out; have h2 := HB2.out.size; rcases hg with e | e | e <;> omega) (fun x hx => ⟨(HH.out x hx).2.2.2.1, ((HH.out x hx).2.2.2.2).below hB10⟩)).1⟩
              refine bodyPost_ret (v := .agg #[.int .i64 fr, .int .i64 tto, .int .i64 gen, .int .i64 kd1, .int .i64 term, .int .i64 index, .int .i64 last, .int .i64 commit, .bool yes, .slice At terms.length ct, .slice Au hs.length cu, .slice Ao old.length co, .slice An new.length cn]) (by simp [results, Tryd.results13, go_sem, r0, r1, r2, r3, r4, r5, r6, r7, r8, r9, r10, r11, r12]) rfl ⟨⟨fr, tto, gen, kd1, term, index, last, commit, yes, terms, hs.map Eh.e, old, new⟩, Au, cu, ?_, fun W' hW' => ⟨?_, by show entK.C W' Au (hs.map Eh.e).length _; rw [List.length_map]; exact (hC W' hW').2, ?_, ?_⟩, HK.out, by show (hs.map Eh.e).length ≤ 64; rw [List.length_map, HL.out]; omega, by show (hs.map Eh.e).length ≤ cu; rw [List.length_map]; exact hcap, ?_, ?_, ?_, ?_, hB8⟩
              · unfold msgV
                dsimp only
                rw [List.length_map]
              · exact (HM.out.terms).below (hC W' hW').1
              · exact (HM.out.old).below (hC W' hW').1
              · exact (HM.out.new).below (hC W' hW').1
              · intro x hx
                obtain ⟨y, hy, rfl⟩ := List.mem_map.1 hx
                exact ⟨(HH.out y hy).1, (HH.out y hy).2.1, (HH.out y hy).2.2.1⟩
              · show (terms).length ≤ 64 ∧ (terms).length ≤ ct
                omega
              · show (old).length ≤ 9 ∧ (old).length ≤ co
                omega
              · show (new).length ≤ 9 ∧ (new).length ≤ cn
                omega
end Go.Proofs.YtkdlghbfplhkpaaDoor
