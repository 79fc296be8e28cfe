/- The walks of find, Ask. -/
import Derived.Test.YtacbebkaammcnaaDoorPutW
import Derived.Test.YtacbebkaammcnaaDoorKindW
import Derived.Outline
set_option linter.unusedVariables false
set_option linter.unusedSimpArgs false
namespace Go.Proofs.YtacbebkaammcnaaDoor
open Go.RowKit Go.Proofs.YtacbebkaammcnaaDoorW.PrintWords Go.Proofs.Mine

/-- What find tells beside a place: none, or an error of a number. -/
def FindE (w : World) (v : Value) (n : Int) : Prop := (n = 0 ∧ v = .nilIface) ∨ (n ≠ 0 ∧ ∃ b, v = .iface 68 (.pointer (some ⟨b, 0, none⟩)) ∧ w.cell? ⟨b, 1, none⟩ = some (.iface 32 (.int .i64 n)))
def reqS : ByteArray := { data := #[114, 101, 113, 117, 101, 115, 116] }
def seqS : ByteArray := { data := #[115, 101, 113] }
theorem new_find (s : ByteArray) (n : Int) (w : World) (hn : n ≠ 0) : Calls Tryd.prog 22 #[.string s, .int .i64 n] w fun e w' => ∃ v, e = .returned v ∧ FindE w' v n ∧ Below w.heap.size w w' := by
  refine (new_any s n w hn).mono ?_
  rintro e w' ⟨b, rfl, ha, hB⟩
  exact ⟨_, rfl, .inr ⟨hn, b, rfl, ha.err⟩, hB⟩
set_option maxRecDepth 100000 in
set_option maxHeartbeats 2000000 in
theorem find_any (w : World) (base : Nat) (F : Nat → Prop) (b : Nat) (s : TSt) (c q : Int) (h : TableAt w base F b s) :
    Calls Tryd.prog 17 #[.pointer (some ⟨b, 0, none⟩), .int .i64 c, .int .i64 q] w fun e w' => ∃ v, e = .returned (.tuple #[.int .i64 (askN s c q), v]) ∧ FindE w' v (askE s c q) ∧ Below w.heap.size w w' := by
  obtain ⟨_, _, vl, B1, B2, hb, hR, hM1, hM2, _⟩ := h
  have hc1 := blk_cell hb 1
  have hc2 := blk_cell hb 2
  have hl1 := pl_look hM1 c q
  have hl2 := gr_look hM2 c
  have hE : askE s c q = if c < 1 ∨ q < 1 then 1 else if 0 < plN s c q then 0 else if q < grN s c then 19 else 2 := rfl
  have hN : askN s c q = if askE s c q = 0 then plN s c q else 0 := rfl
  generalize askN s c q = N at *
  generalize askE s c q = E at *
  generalize plN s c q = p at *
  generalize grN s c = g at *
  clear hb hR hM1 hM2
  by_cases k1 : c < 1
  · rw [if_pos (.inl k1)] at hE
    subst hE
    rw [if_neg (by decide)] at hN
    subst hN
    go_enter Tryd.func17, Tryd.ntmps17
    go_wp2_with (go_at_call 22; refine (new_find reqS 1 _ (by decide)).mono ?_; rintro e w1 ⟨v, rfl, hF, hB⟩; have HF := Lib.hid hF; have HB := Lib.hid hB; clear hF hB)
    go_ret2
    exact ⟨_, rfl, HF.out, HB.out⟩
  · by_cases k2 : q < 1
    · rw [if_pos (.inr k2)] at hE
      subst hE
      rw [if_neg (by decide)] at hN
      subst hN
      go_enter Tryd.func17, Tryd.ntmps17
      go_wp2_with (go_at_call 22; refine (new_find reqS 1 _ (by decide)).mono ?_; rintro e w1 ⟨v, rfl, hF, hB⟩; have HF := Lib.hid hF; have HB := Lib.hid hB; clear hF hB)
      go_ret2
      exact ⟨_, rfl, HF.out, HB.out⟩
    · rw [if_neg (by omega)] at hE
      by_cases k3 : 0 < p
      · rw [if_pos k3] at hE
        subst hE
        rw [if_pos rfl] at hN
        subst hN
        go_enter Tryd.func17, Tryd.ntmps17
        go_wp2
        go_ret2
        exact ⟨_, rfl, .inl ⟨rfl, rfl⟩, Below.refl _ _⟩
      · rw [if_neg k3] at hE
        by_cases k4 : q < g
        · rw [if_pos k4] at hE
          subst hE
          rw [if_neg (by decide)] at hN
          subst hN
          go_enter Tryd.func17, Tryd.ntmps17
          go_wp2_with (go_at_call 22; refine (new_find seqS 19 _ (by decide)).mono ?_; rintro e w1 ⟨v, rfl, hF, hB⟩; have HF := Lib.hid hF; have HB := Lib.hid hB; clear hF hB)
          go_ret2
          exact ⟨_, rfl, HF.out, HB.out⟩
        · rw [if_neg k4] at hE
          subst hE
          rw [if_neg (by decide)] at hN
          subst hN
          go_enter Tryd.func17, Tryd.ntmps17
          go_wp2_with (go_at_call 22; refine (new_find seqS 2 _ (by decide)).mono ?_; rintro e w1 ⟨v, rfl, hF, hB⟩; have HF := Lib.hid hF; have HB := Lib.hid hB; clear hF hB)
          go_ret2
          exact ⟨_, rfl, HF.out, HB.out⟩
set_option maxRecDepth 100000 in
set_option maxHeartbeats 400000 in
theorem is_nil (m : Int) (w : World) : Calls Tryd.prog 18 #[.nilIface, .iface 32 (.int .i64 m)] w fun ev w' => ev = .returned (.bool false) ∧ w = w' := by
  have h1 : ∀ W, (binOp .eql 54 .nilIface (.iface 32 (.int .i64 m))).run Tryd.prog W = .ok (.bool false) W := fun _ => by kernel_rfl
  have h2 : ∀ W, (binOp .eql 54 .nilIface .nilIface).run Tryd.prog W = .ok (.bool true) W := fun _ => by kernel_rfl
  have h3 : ∀ W, (binOp .eql 54 (.iface 32 (.int .i64 m)) .nilIface).run Tryd.prog W = .ok (.bool false) W := fun _ => by kernel_rfl
  go_enter Tryd.func18, Tryd.ntmps18
  go_wp2
  go_outline
  go_ret
  exact ⟨rfl, rfl⟩
theorem is_find (w : World) (v : Value) (n m : Int) (h : FindE w v n) (hm : m ≠ 0) : Calls Tryd.prog 18 #[v, .iface 32 (.int .i64 m)] w fun ev w' => ev = .returned (.bool (n == m)) ∧ w = w' := by
  rcases h with ⟨rfl, rfl⟩ | ⟨_, b, rfl, hb⟩
  · refine (is_nil m w).mono ?_
    rintro e w' ⟨rfl, rfl⟩
    exact ⟨by rw [show ((0 : Int) == m) = false from beq_eq_false_iff_ne.mpr (fun h => hm h.symm)], rfl⟩
  · exact is_at_num b n m w hb
theorem kind_find (w : World) (v : Value) (n : Int) (hg : Laid w) (h : FindE w v n) : Calls Tryd.prog 19 #[v] w fun ev w' => ev = .returned (.int .i64 n) ∧ Below w.heap.size w w' := by
  rcases h with ⟨rfl, rfl⟩ | ⟨hn, b, rfl, hb⟩
  · refine (kind_nil w).mono ?_
    rintro e w' ⟨rfl, rfl⟩
    exact ⟨rfl, Below.refl _ _⟩
  · exact kind_at_num b n w hg hb hn
set_option maxRecDepth 100000 in
set_option maxHeartbeats 2000000 in
theorem ask_any (w : World) (base : Nat) (F : Nat → Prop) (b : Nat) (s : TSt) (c q : Int) (hg : Laid w) (h : TableAt w base F b s) :
    Calls Tryd.prog 11 #[.pointer (some ⟨b, 0, none⟩), .int .i64 c, .int .i64 q] w fun e w' => e = .returned (.tuple #[.int .i64 (askN s c q), .int .i64 (askE s c q)]) ∧ Below w.heap.size w w' := by
  have H := Lib.hid h
  have HG := Lib.hid hg
  clear h hg
  cases h19 : (askE s c q == 19)
  · have H19 := Lib.hid h19
    clear h19
    go_enter Tryd.func11, Tryd.ntmps11
    go_wp2_with (first
      | (go_at_call 17; refine (find_any _ base F b s c q H.out).mono ?_; rintro e w1 ⟨v, rfl, hF, hB⟩; have HF := Lib.hid hF; have HB := Lib.hid hB; clear hF hB)
      | (go_at_call 18; refine (is_find _ v _ 19 HF.out (by decide)).mono ?_; rintro e w2 ⟨rfl, rfl⟩; rw [H19.out])
      | (go_at_call 19; refine (kind_find _ v _ (HG.out.below HB.out) HF.out).mono ?_; rintro e w3 ⟨rfl, hB2⟩; have HB2 := Lib.hid hB2; clear hB2))
    go_ret2
    exact ⟨rfl, below_then HB.out HB.out.size HB2.out⟩
  · have H19 := Lib.hid h19
    have e19 : askE s c q = 19 := by simpa using h19
    have en : askN s c q = 0 := by unfold askN; rw [e19]; rfl
    have E19 := Lib.hid e19
    have EN := Lib.hid en
    clear h19 e19 en
    go_enter Tryd.func11, Tryd.ntmps11
    go_wp2_with (first
      | (go_at_call 17; refine (find_any _ base F b s c q H.out).mono ?_; rintro e w1 ⟨v, rfl, hF, hB⟩; have HF := Lib.hid hF; have HB := Lib.hid hB; clear hF hB)
      | (go_at_call 18; refine (is_find _ v _ 19 HF.out (by decide)).mono ?_; rintro e w2 ⟨rfl, rfl⟩; rw [H19.out]))
    go_ret2
    exact ⟨by rw [E19.out, EN.out]; rfl, HB.out⟩
end Go.Proofs.YtacbebkaammcnaaDoor
