/- Entries as they lie; few, fewMsg. -/
import Derived.Test.YtkdlghbfplhkpaaDoorMsgW
import Derived.Test.YtkdlghbfplhkpaaDoorBoundsP
set_option linter.unusedVariables false
set_option linter.unusedSimpArgs false
namespace Go.Proofs.YtkdlghbfplhkpaaDoor
open Go.RowKit Go.Proofs.YtkdlghbfplhkpaaDoorW.PrintWords Go.Proofs.Mine

theorem cut_s (s : ByteArray) (k : Nat) (h : k ≤ s.size) (W : World) : (Instr.slice 9 (.string s) none (some (.int .i64 (k : Int))) none).run Tryd.prog W = .ok (.string (s.extract 0 k)) W := by
  have h1 : ¬ ((s.size : Int) < (k : Int)) := by omega
  simp [Instr.slice, run_underlying Tryd.underlying9, Instr.sliceBounds, Instr.sliceBound, asIntOf, h1, h]
theorem cut_i (A : Option Addr) (L c k : Nat) (h : k ≤ c) (W : World) : (Instr.slice 25 (.slice A L c) none (some (.int .i64 (k : Int))) none).run Tryd.prog W = .ok (.slice A k c) W := by
  have h1 : ¬ ((c : Int) < (k : Int)) := by omega
  simp [Instr.slice, run_underlying Tryd.underlying25, Instr.sliceBounds, Instr.sliceBound, asIntOf, h1, h]
  intro _
  cases A <;> simp [Addr.add]
theorem cut_e (A : Option Addr) (L c k : Nat) (h : k ≤ c) (W : World) : (Instr.slice 28 (.slice A L c) none (some (.int .i64 (k : Int))) none).run Tryd.prog W = .ok (.slice A k c) W := by
  have h1 : ¬ ((c : Int) < (k : Int)) := by omega
  simp [Instr.slice, run_underlying Tryd.underlying28, Instr.sliceBounds, Instr.sliceBound, asIntOf, h1, h]
  intro _
  cases A <;> simp [Addr.add]
theorem takeI {W : World} {A : Option Addr} {l : List Int} (h : ReadsInt W .i64 A l.length l) (k : Nat) (hk : k ≤ l.length) : ReadsInt W .i64 A k (l.take k) := by
  refine ⟨by rw [List.length_take]; omega, by have := h.2.1; omega, fun hp => ?_⟩
  obtain ⟨ad, ha, hc⟩ := h.2.2 (by omega)
  refine ⟨ad, ha, fun i hi => ?_⟩
  rw [hc i (by omega)]
  have : (l.take k).getD i 0 = l.getD i 0 := by simp [List.getD_eq_getElem?_getD, hi]
  rw [this]
set_option maxRecDepth 100000 in
set_option maxHeartbeats 1000000 in
theorem few_lit (kd c q : Int) (data : ByteArray) (n : Nat) (dst : Int) (A1 : Option Addr) (c1 : Nat) (w : World) :
    Calls Tryd.prog 12 #[.agg #[.int .i64 kd, .int .i64 c, .int .i64 q, .string data, .slice A1 n c1, .int .i64 dst]] w fun e w' => e = .returned (.bool (decide ((data.size : Int) < 300) && decide ((n : Int) < 100))) ∧ Below w.heap.size w w' := by
  cases h1 : decide ((data.size : Int) < 300) <;> cases h2 : decide ((n : Int) < 100)
  all_goals
    go_enter Tryd.func12, Tryd.ntmps12
    go_wp2
    go_ret
    exact ⟨rfl, (Below.refl _ _).alloc (Nat.le_refl _) _⟩
/-- A message as it is read, however long its rows are. -/
structure MsgR (w : World) (m : Msg) (At Ae Ao An : Option Addr) : Prop where
  terms : ReadsInt w .i64 At m.terms.length m.terms
  ents : entK.C w Ae m.ents.length m.ents
  old : ReadsInt w .i64 Ao m.old.length m.old
  new : ReadsInt w .i64 An m.new.length m.new
theorem MsgR.below {w w1 : World} {m : Msg} {At Ae Ao An : Option Addr} (h : MsgR w m At Ae Ao An) (hB : Below w.heap.size w w1) : MsgR w1 m At Ae Ao An := ⟨h.terms.below hB, Kd.C_below h.ents hB, h.old.below hB, h.new.below hB⟩
/-- What fewMsg asks. -/
def FewM (m : Msg) : Prop := m.ents.length < 100 ∧ m.terms.length < 100 ∧ m.old.length < 100 ∧ m.new.length < 100 ∧ ∀ x ∈ m.ents, x.data.size < 300 ∧ x.mem.length < 100
def FewR (m : Msg) (r : Ending) : Prop := (r = .returned (.bool true) ∧ FewM m) ∨ (r = .returned (.bool false) ∧ ¬ FewM m)
set_option maxRecDepth 100000 in
set_option maxHeartbeats 4000000 in
theorem fewMsg_any (m : Msg) (At Ae Ao An : Option Addr) (ct ce co cn : Nat) (w : World) (hm : MsgR w m At Ae Ao An) :
    Calls Tryd.prog 11 #[msgV m At Ae Ao An ct ce co cn] w fun r w' => FewR m r ∧ Below w.heap.size w w' := by
  have HM := Lib.hid hm
  have hmx := hm.ents.2.1
  clear hm
  obtain ⟨fr, tto, gen, kd, term, index, last, commit, yes, terms, ents, old, new⟩ := m
  unfold msgV
  dsimp only at *
  obtain ⟨W1, hW⟩ : ∃ W1, W1 = w.alloc (.cells #[.int .i64 fr, .int .i64 tto, .int .i64 gen, .int .i64 kd, .int .i64 term, .int .i64 index, .int .i64 last, .int .i64 commit, .bool yes, .slice At terms.length ct, .slice Ae ents.length ce, .slice Ao old.length co, .slice An new.length cn] 32 (0, 0)) := ⟨_, rfl⟩
  obtain ⟨g1, hg1⟩ : ∃ g, g = w.heap.size := ⟨_, rfl⟩
  have hB1 : Below w.heap.size w W1 := by rw [hW]; exact (Below.refl _ w).alloc (Nat.le_refl _) _
  have hb1 : W1.heap[g1]? = some (.cells #[.int .i64 fr, .int .i64 tto, .int .i64 gen, .int .i64 kd, .int .i64 term, .int .i64 index, .int .i64 last, .int .i64 commit, .bool yes, .slice At terms.length ct, .slice Ae ents.length ce, .slice Ao old.length co, .slice An new.length cn] 32 (0, 0)) := by rw [hW, hg1]; exact heap_alloc_new w _
  have HB1 := Lib.hid hB1
  have Hb1 := Lib.hid hb1
  have HG1 := Lib.hid hg1
  have HW := Lib.hid hW
  have HMW := Lib.hid (HM.out.below hB1)
  clear hB1 hb1 hg1 hW
  go_enter Tryd.func11, Tryd.ntmps11
  go_wp2_with fail
  rw [← HW.out, ← HG1.out]
  go_loopw [3] (fun iv wr => ∃ (k : Nat), k ≤ ents.length ∧ k ≤ 100 ∧ iv = .int .i64 (k : Int) ∧ RowKit.Hid (∀ x ∈ ents.take k, x.data.size < 300 ∧ x.mem.length < 100) ∧ RowKit.Hid (Below W1.heap.size W1 wr)) (fun iv _ => ents.length - (intOf iv).toNat)
  case atStart => exact ⟨0, Nat.zero_le _, by omega, rfl, Lib.hid (fun x hx => by simp at hx), Lib.hid (Below.refl _ _)⟩
  case round =>
    obtain ⟨k, hk, hk1, rfl, HF, HB⟩ := hrel
    have hk0 : (0 : Int) ≤ (k : Int) := by omega
    have hbr := blk_below Hb1.out HB.out
    have q9 := blk_cell hbr 9
    have q10 := blk_cell hbr 10
    have q11 := blk_cell hbr 11
    have q12 := blk_cell hbr 12
    have HBW := Lib.hid (HB1.out.trans (HB.out.mono HB1.out.size))
    clear hbr
    by_cases hlt : (k : Int) < (ents.length : Int)
    · by_cases hlt2 : (k : Int) < 100
      · obtain ⟨x, hx⟩ : ∃ x, ents[k]? = some x := ⟨_, List.getElem?_eq_getElem (by omega)⟩
        obtain ⟨ad, rfl, hE⟩ := entAt_of HMW.out.ents hx
        obtain ⟨Ax, cx, v0, v1, v2, v3, v4, v5, hcap, hrd⟩ := hE.below HB.out
        obtain ⟨ea, hea⟩ : ∃ ea, ea = ad.add (k * 6) := ⟨_, rfl⟩
        rw [← hea] at v0 v1 v2 v3 v4 v5
        have hea2 := hea.symm
        obtain ⟨fw, hfw⟩ : ∃ b, b = (decide ((x.data.size : Int) < 300) && decide ((x.mem.length : Int) < 100)) := ⟨_, rfl⟩
        have HFW := Lib.hid hfw
        have hfew := few_lit x.kd x.c x.q x.data x.mem.length x.dst Ax cx wr
        rw [← hfw] at hfew
        have HFEW := Lib.hid hfew
        have HT := Lib.hid (show ents.take (k + 1) = ents.take k ++ [x] from take_get hx)
        have HMEM := Lib.hid (List.mem_of_getElem? hx)
        clear hea hE hfw hfew hx
        cases fw with
        | false =>
          go_wp2_with (go_at_call 12; refine HFEW.out.mono ?_; rintro r w1 ⟨rfl, hB1⟩; have HB2 := Lib.hid (HBW.out.trans (hB1.mono HBW.out.size)); clear hB1)
          go_ret
          exact ⟨.inr ⟨rfl, fun h => by have h1 := h.2.2.2.2 x HMEM.out; have h2 := HFW.out; simp at h2; omega⟩, HB2.out⟩
        | true =>
          have HX := Lib.hid (show x.data.size < 300 ∧ x.mem.length < 100 from by have := HFW.out; simp at this; omega)
          go_wp2_with (go_at_call 12; refine HFEW.out.mono ?_; rintro r w1 ⟨rfl, hB1⟩; have HB2 := Lib.hid (HB.out.trans (hB1.mono HB.out.size)); clear hB1)
          exact ⟨⟨k + 1, by omega, by omega, by simp, Lib.hid (fun y hy => by
            rw [HT.out] at hy
            rcases List.mem_append.1 hy with hy | hy
            · exact HF.out y hy
            · rw [List.mem_singleton.1 hy]; exact HX.out), HB2⟩, by simp [intOf]; omega⟩
      · have a1 : ¬ ((ents.length : Int) < 100) := by omega
        go_wp2_with fail
        go_ret
        exact ⟨.inr ⟨rfl, fun h => by have h1 : ents.length < 100 := h.1; omega⟩, HBW.out⟩
    · have hke : k = ents.length := by omega
      subst hke
      have HALL := Lib.hid (show ∀ x ∈ ents, x.data.size < 300 ∧ x.mem.length < 100 from by have := HF.out; rwa [List.take_length] at this)
      clear HF hlt
      by_cases a1 : (ents.length : Int) < 100
      · by_cases a2 : (terms.length : Int) < 100
        · by_cases a3 : (old.length : Int) < 100
          · by_cases a4 : (new.length : Int) < 100
            · go_wp2_with fail
              go_ret
              have b1 : ents.length < 100 := by omega
              have b2 : terms.length < 100 := by omega
              have b3 : old.length < 100 := by omega
              have b4 : new.length < 100 := by omega
              exact ⟨.inl ⟨rfl, b1, b2, b3, b4, HALL.out⟩, HBW.out⟩
            · go_wp2_with fail
              go_ret
              exact ⟨.inr ⟨rfl, fun h => by have h1 : new.length < 100 := h.2.2.2.1; omega⟩, HBW.out⟩
          · go_wp2_with fail
            go_ret
            exact ⟨.inr ⟨rfl, fun h => by have h1 : old.length < 100 := h.2.2.1; omega⟩, HBW.out⟩
        · go_wp2_with fail
          go_ret
          exact ⟨.inr ⟨rfl, fun h => by have h1 : terms.length < 100 := h.2.1; omega⟩, HBW.out⟩
      · go_wp2_with fail
        go_ret
        exact ⟨.inr ⟨rfl, fun h => by have h1 : ents.length < 100 := h.1; omega⟩, HBW.out⟩
end Go.Proofs.YtkdlghbfplhkpaaDoor
