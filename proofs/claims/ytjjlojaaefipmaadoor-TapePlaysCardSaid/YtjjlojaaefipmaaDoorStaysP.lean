/- What holds between the rounds of TapeStays: plainly. -/
import Derived.Test.YtjjlojaaefipmaaDoorFrontsL
set_option linter.unusedVariables false
set_option linter.unusedSimpArgs false
namespace Go.Proofs.YtjjlojaaefipmaaDoor
open Go.RowKit Go.Proofs.YtjjlojaaefipmaaDoorW.PrintWords Go.Proofs.Mine

theorem reads_of_C8 {w : World} {A : Option Addr} {l : List Int} (h : (Kd.int .u8).C w A l.length l) : ReadsInt w .u8 A l.length l := by
  refine ⟨rfl, h.2.1, fun hp => ?_⟩
  obtain ⟨ad, ha, hR⟩ := h.2.2 hp
  refine ⟨ad, ha, fun i hi => ?_⟩
  obtain ⟨c, hc, hk, hcell⟩ := hR i l[i] (List.getElem?_eq_getElem hi)
  have hk' : c = [.int .u8 l[i]] := hk
  subst hk'
  have h0 := hcell 0 _ rfl
  have e : l.getD i 0 = l[i] := by simp [List.getD_eq_getElem?_getD, hi]
  have e1 : i * (Kd.int .u8).sz + 0 = i := by
    show i * 1 + 0 = i
    omega
  rw [e1] at h0
  rw [e]; exact h0
abbrev rowsK : Kd (List Int) := Kd.slice 5 (Kd.int .u8)
theorem row_at {w : World} {A : Option Addr} {n : Nat} {rs : List (List Int)} {k : Nat} {x : List Int} (h : rowsK.C w A n rs) (hx : rs[k]? = some x) :
    ∃ ad Ax cx, A = some ad ∧ w.cell? (ad.add k) = some (.slice Ax x.length cx) ∧ ReadsInt w .u8 Ax x.length x := by
  obtain ⟨hl, _⟩ := List.getElem?_eq_some_iff.1 hx
  obtain ⟨ad, hA, hc⟩ := h.2.2 (by have := h.1; omega)
  obtain ⟨cs, h2, ⟨Ax, cx, rfl, hle, hC⟩, h3⟩ := hc k x hx
  have h4 := h3 0 _ rfl
  have e1 : k * rowsK.sz + 0 = k := by
    show k * 1 + 0 = k
    omega
  rw [e1] at h4
  exact ⟨ad, Ax, cx, hA, h4, reads_of_C8 hC⟩
/-- Between the rounds. -/
structure StaysAt (w : World) (b : Nat) (l0 : List Int) (k : Nat) (allv : Value) (L : List Int) (n : Nat) (ops : Int) (F : Nat → Prop) (wr : World) : Prop where
  tp : TapeIn w b ⟨100000, L, n, 0, false, ops⟩ wr F
  buf : Buf .u8 5 wr w.heap.size allv L
  not : ∀ j, allv.ownBlock = some j → ¬ F j
  pre : L.take l0.length = l0
  syn : l0.length ≤ n
  len : L.length ≤ 500 + 300 * k
  op0 : 0 ≤ ops
  op1 : ops ≤ 2 + k
theorem all_kept {w1 w2 : World} {base : Nat} {allv : Value} {L : List Int} {F F2 : Nat → Prop} (hb : Buf .u8 5 w1 base allv L) (hn : ∀ j, allv.ownBlock = some j → ¬ F j) (hF2 : ∀ k, F2 k → F k ∨ w1.heap.size ≤ k) (hK : Keep F w1 w2) :
    Buf .u8 5 w2 base allv L ∧ ∀ j, allv.ownBlock = some j → ¬ F2 j :=
  ⟨hb.keep hK hn, fun j hj hf => (hF2 j hf).elim (hn j hj) (fun h => by have := (hb.lt j hj).2; omega)⟩
theorem all_grown {w w2 w3 : World} {b : Nat} {s : TS} {F2 : Nat → Prop} {allv v1 : Value} {L : List Int} (hT : TapeIn w b s w2 F2) (hb : Buf .u8 5 w2 w.heap.size allv L) (hn : ∀ j, allv.ownBlock = some j → ¬ F2 j)
    (hg : w2.grownBy w3 allv.ownBlock) (hat : v1.ownBlock = allv.ownBlock ∨ ∃ b, v1.ownBlock = some b ∧ w2.heap.size ≤ b) : TapeIn w b s w3 F2 ∧ ∀ j, v1.ownBlock = some j → ¬ F2 j := by
  have hk : Keep (fun k => allv.ownBlock = some k) w2 w3 := Keep.of_grown hg (fun k hk => hk)
  refine ⟨⟨hT.at_.keep hk (fun j hj e => hn j e hj), hT.below.trans (hk.to_below hT.below.size (fun k e => (hb.lt k e).1)), hT.laid, hT.ok⟩, fun j hj hf => ?_⟩
  rcases hat with e | ⟨b', e, hb'⟩
  · exact hn j (e ▸ hj) hf
  · rw [e] at hj
    injection hj with hj
    subst hj
    have := (hT.at_.2.1 _ hf).2
    omega
theorem pre_app {l0 L x : List Int} (h : L.take l0.length = l0) (hl : l0.length ≤ L.length) : (L ++ x).take l0.length = l0 := by
  rw [List.take_append_of_le_length hl]; exact h
theorem pre_cut {l0 L : List Int} {m : Nat} (h : L.take l0.length = l0) (hm : l0.length ≤ m) : (L.take m).take l0.length = l0 := by
  rw [List.take_take, Nat.min_eq_left hm]; exact h
theorem crash_of (room ops : Int) (L : List Int) (n : Nat) (hn : n ≤ L.length) (pick : Int) : ∃ m, n ≤ m ∧ m ≤ L.length ∧ crashS ⟨room, L, n, 0, false, ops⟩ pick = ⟨room, L.take m, m, 0, false, ops⟩ :=
  ⟨n + crashK ⟨room, L, n, 0, false, ops⟩ pick, by omega, crashK_le ⟨room, L, n, 0, false, ops⟩ hn pick, rfl⟩
theorem cap_ge {k : IntKind} {e : TypeId} {w : World} {base : Nat} {A : Option Addr} {n c : Nat} {l : List Int} (h : Buf k e w base (.slice A n c) l) : n = l.length ∧ l.length ≤ c := by
  rcases h with ⟨hv, rfl⟩ | ⟨g, cap, cur, hv, _, _, h3, _⟩
  · injection hv with _ h2 h3
    exact ⟨by simpa using h2, by simp⟩
  · injection hv with _ h2 hc
    exact ⟨h2, by omega⟩
end Go.Proofs.YtjjlojaaefipmaaDoor
