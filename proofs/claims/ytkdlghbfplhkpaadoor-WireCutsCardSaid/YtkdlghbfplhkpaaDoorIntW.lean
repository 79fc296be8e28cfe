/- The row that wire writes into: int. -/
import Derived.Test.YtkdlghbfplhkpaaDoorRowW
import Derived.Deep.RegionLaw
set_option linter.unusedVariables false
set_option linter.unusedSimpArgs false
namespace Go.Proofs.YtkdlghbfplhkpaaDoor
open Go.RowKit Go.Proofs.YtkdlghbfplhkpaaDoorW.PrintWords Go.Proofs.Mine

theorem add_block (a : Addr) (i : Nat) : (a.add i).block = a.block := by unfold Addr.add; split <;> rfl
/-- The eight bytes of a number. -/
def by8 (n : Int) (j : Nat) : Int := (n / 2 ^ (8 * (7 - j))) % 256
def int8 (n : Int) : List Int := (List.range 8).map (by8 n)
theorem int8_length (n : Int) : (int8 n).length = 8 := by simp [int8]
theorem int8_flat (l : List Int) : (l.flatMap int8).length = 8 * l.length := by
  induction l with
  | nil => rfl
  | cons x l ih => rw [List.flatMap_cons, List.length_append, int8_length, ih, List.length_cons]; omega
theorem int8_take (n : Int) (j : Nat) (hj : j < 8) : (int8 n).take (j + 1) = (int8 n).take j ++ [by8 n j] := by
  have h : (int8 n).length = 8 := by simp [int8]
  rw [List.take_succ_eq_append_getElem (by omega)]
  simp [int8]
theorem row_pushed {w w1 : World} {base b : Nat} {F : Nat → Prop} {cs : List Int} {y er : Int} {v ev v1 : Value} (h1 : F b) (h2 : ∀ k, F k → base ≤ k ∧ k < w.heap.size) (h3 : w.heap[b]? = some (.cells #[v, ev] 70 (0, 0)))
    (h5 : ∀ k, v.ownBlock = some k → F k ∧ k ≠ b) (h6 : ErrIs w F ev er) (hown : w1.ownsRow base 5 1 v1 (cs.length + 1) (nums .u8 cs ++ [.int .u8 y])) (hg : w.drew.grownBy w1 v.ownBlock) (hat : v1.ownBlock = v.ownBlock ∨ ∃ b, v1.ownBlock = some b ∧ w.drew.heap.size ≤ b) :
    Row' w base F b (cs ++ [y]) er (w1.setCell ⟨b, 0, none⟩ v1) :=
  row_grown (w := w) h1 h2 h3 h5 h6 (by rw [List.length_append, List.length_singleton]; simpa [nums] using hown) ⟨hg.os, hg.tape, hg.output, hg.size, hg.block⟩ hat
set_option maxRecDepth 100000 in
set_option maxHeartbeats 1000000 in
theorem int_any (A : Option Addr) (cap : Nat) (l : List Int) (w : World) (base b : Nat) (F : Nat → Prop) (bs : List Int) (er : Int) (h : RowAt w base F b bs er) (hr : ReadsInt w .i64 A l.length l) (hA : 0 < l.length → ∀ a, A = some a → ¬ F a.block) (hl : bs.length + 8 * l.length ≤ 1000000) :
    Calls Tryd.prog 29 #[.pointer (some ⟨b, 0, none⟩), .slice A l.length cap] w fun r w' => r = .returned (.tuple #[]) ∧ Row' w base F b (bs ++ l.flatMap int8) er w' := by
  have HR := Lib.hid hr
  have HH := Lib.hid h
  have HA := Lib.hid hA
  clear h hr hA
  go_enter Tryd.func29, Tryd.ntmps29
  go_wp2
  go_loopw [5, 6, 9] (fun _ _ kv wr => ∃ k : Nat, k ≤ l.length ∧ kv = .int .i64 k ∧ Row' w base F b (bs ++ (l.take k).flatMap int8) er wr) (fun _ _ kv _ => l.length - (intOf kv).toNat)
  case atStart => exact ⟨0, by omega, rfl, by simpa using Row'.refl HH.out⟩
  case round =>
    obtain ⟨k, hk, rfl, hrow⟩ := hrel
    have HW := Lib.hid hrow
    by_cases hlt : k < l.length
    · obtain ⟨ad, rfl, hc⟩ := HR.out.at_ k (by omega) (by omega)
      obtain ⟨F1, hrow1, hF1, hK1⟩ := hrow
      have hc := hK1.cell hc (by rw [add_block]; exact HA.out (by omega) ad rfl)
      rw [Int.toNat_natCast] at hc
      have hlt' : (k : Int) < (l.length : Int) := by omega
      have hk0 : (0 : Int) ≤ (k : Int) := by omega
      have HN := Lib.hid (show l.take (k + 1) = l.take k ++ [rd l k] by rw [List.take_succ_eq_append_getElem hlt]; simp [rd, List.getD_eq_getElem?_getD, hlt])
      generalize rd l k = n at *
      clear hrow1 hF1 hK1
      go_wp2_with fail
      go_loopw [6] (fun iv wq => ∃ j : Nat, j ≤ 8 ∧ iv = .int .i64 (7 - (j : Int)) ∧ Row' w base F b (bs ++ (l.take k).flatMap int8 ++ (int8 n).take j) er wq) (fun iv _ => (intOf iv + 1).toNat)
      case atStart => exact ⟨0, by omega, rfl, by simpa using HW.out⟩
      case round =>
        obtain ⟨j, hj, rfl, hrq⟩ := hrel
        by_cases hjt : j < 8
        · obtain ⟨F2, ⟨h1, h2, v, ev, h3, h4, h5, h6⟩, hF2, hK2⟩ := hrq
          have htk : (int8 n).take (j + 1) = (int8 n).take j ++ [by8 n j] := int8_take n j hjt
          have hlen : (bs ++ (l.take k).flatMap int8 ++ (int8 n).take j).length ≤ 2000000 := by rw [List.length_append, List.length_append, int8_flat, List.length_take, List.length_take, int8_length]; omega
          have HTK := Lib.hid htk
          clear htk
          generalize hcs : bs ++ (l.take k).flatMap int8 ++ (int8 n).take j = cs at *
          have HCS := Lib.hid hcs
          clear hcs
          obtain ⟨A1, c1, rfl⟩ := own_slice h4
          have hc2 : wr.cell? ⟨b, 0, none⟩ = some (.slice A1 cs.length c1) := blk_cell h3 0
          have hcd : wr.drew.cell? ⟨b, 0, none⟩ = some (.slice A1 cs.length c1) := blk_cell h3 0
          have ht : (0 : Int) ≤ 7 - (j : Int) := by omega
          obtain ⟨e8, he8⟩ : ∃ e : Nat, e = 8 * (7 - j) := ⟨_, rfl⟩
          have hw8 : IntKind.i64.wrap (8 * (7 - (j : Int))) = (e8 : Int) := (IntWalk.i64_in (8 * (7 - (j : Int))) (by omega)).trans (by omega)
          obtain ⟨y8, hy8⟩ : ∃ y : Int, y = n / 2 ^ e8 := ⟨_, rfl⟩
          have hsh : Op.shift .shr .i64 n .i64 (e8 : Int) = pure (.int .i64 y8) := by have h := shift_shr_i64 (yk := .i64) (x := n) (y := (e8 : Int)) (by omega) (by omega); rw [Int.toNat_natCast, ← hy8] at h; exact h
          have HY8 := Lib.hid hy8
          have HE8 := Lib.hid he8
          clear hy8 he8
          have hbs : (cs.length + 1) * 1 ≤ 140737488355328 := by omega
          have hbw : base ≤ wr.drew.heap.size := by show base ≤ wr.heap.size; have := (h2 b h1).1; have := (h2 b h1).2; omega
          have HD : RowKit.Hid (wr.drew.ownsRow base 5 1 (.slice A1 cs.length c1) cs.length (nums .u8 cs)) := Lib.hid h4
          have HBD : RowKit.Hid (Below base wr wr.drew) := Lib.hid ⟨rfl, rfl, rfl, Nat.le_refl _, fun _ _ => rfl⟩
          have NE := Lib.hid (show some b ≠ (Value.slice A1 cs.length c1).ownBlock from fun e => (h5 b e.symm).2 rfl)
          have HONE := Lib.hid (show ∀ u ∈ [Value.int .u8 (y8 % 256)], u.oneCell' = true from fun u hu => by simp only [List.mem_cons, List.not_mem_nil, or_false] at hu; subst hu; rfl)
          have hbase := (h2 b h1).1
          have hbl := (h2 b h1).2
          have H1 := Lib.hid h1
          have H2 := Lib.hid h2
          have H3 := Lib.hid h3
          have H4 := Lib.hid h4
          have H5 := Lib.hid h5
          have H6 := Lib.hid h6
          clear h1 h2 h3 h4 h5 h6
          go_wp2_with fail
          go_region_law (first
            | (refine step_append_cells (w0 := wr) (W := wr.drew) base (by rfl) _ _ 24 5 (.int .u8 0) 1 1 (by rfl) Tryd.underlying24 info5 (by rfl) (by decide) (by decide) (.slice A1 cs.length c1) cs.length (nums .u8 cs) [.int .u8 (y8 % 256)] (by rfl) (by rfl) (by rfl) HONE.out HD.out HBD.out hbw hbs ?_
               intro v1 w1 hown hB hg hat
               have HR1 := Lib.hid (row_pushed H1.out H2.out H3.out H5.out H6.out hown hg hat)
               have hc3 : w1.cell? ⟨b, 0, none⟩ = some (.slice A1 cs.length c1) := blk_cell (blk_grown (w := wr.drew) H3.out hg NE.out) 0
               have hf3 : w1.frozen? ⟨b, 0, none⟩ = false := blk_frozen (blk_grown (w := wr.drew) H3.out hg NE.out) 0
               obtain ⟨A2, c2, rfl⟩ := own_slice hown
               clear hown hB hg hat))
          all_goals
            have HFIN := Lib.hid (Row'.after hF2 hK2 HR1.out)
            clear HR1 hF2 hK2
            go_wp2
            exact ⟨⟨j + 1, by omega, by go_num, by rw [HTK.out, ← List.append_assoc, HCS.out]; have h := HFIN.out; rw [HY8.out, HE8.out] at h; exact h⟩, by simp [intOf]; omega⟩
        · obtain rfl : j = 8 := by omega
          have HQ := Lib.hid hrq
          clear hrq
          go_wp2_with fail
          exact ⟨⟨k + 1, by omega, by simp, by rw [HN.out, List.flatMap_append, ← List.append_assoc]; have h := HQ.out; rw [show (int8 n).take 8 = int8 n from List.take_of_length_le (by rw [int8_length]; omega)] at h; simpa using h⟩, by simp [intOf]; omega⟩
    · obtain rfl : k = l.length := by omega
      rw [List.take_length] at HW hrow
      clear hrow
      go_wp2
      go_end0
      exact ⟨rfl, HW.out⟩
end Go.Proofs.YtkdlghbfplhkpaaDoor
