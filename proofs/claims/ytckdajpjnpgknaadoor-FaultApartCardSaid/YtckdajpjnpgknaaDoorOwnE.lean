/- Wrap once more: what it makes lies in blocks of its own. -/
import Derived.Test.YtckdajpjnpgknaaDoorWrapsL
import Derived.Deep.RegionLaw
set_option linter.unusedVariables false
set_option linter.unusedSimpArgs false
namespace Go.Proofs.YtckdajpjnpgknaaDoor
open Go.RowKit Go.Proofs.Mine Go.Proofs.YtckdajpjnpgknaaDoorW.PrintWords

/-- An error with its places, its own block and its places' from base on. -/
def AtOwn (w : World) (base b : Nat) (ps : List ByteArray) (k : Bs) : Prop := base ≤ b ∧ ∃ A c, w.heap[b]? = some (.cells #[.slice A ps.length c, k.v] 46 (0, 0)) ∧ Kd.string.R 9 w base (fun j => base ≤ j) (.slice A ps.length c) ps ∧ k.fine
theorem AtOwn.is {w : World} {base b : Nat} {ps : List ByteArray} {k : Bs} (h : AtOwn w base b ps k) : AtIs w b ps k := by
  obtain ⟨_, A, c, h1, h2, h3⟩ := h
  exact ⟨A, c, h1, (Kd.R_reads' h2).2.2, h3⟩
theorem AtOwn.keep {w w1 : World} {base b : Nat} {ps : List ByteArray} {k : Bs} {G : Nat → Prop} (h : AtOwn w base b ps k) (hK : Keep G w w1) (hg : ∀ j, G j → j < base) : AtOwn w1 base b ps k := by
  obtain ⟨h0, A, c, h1, h2, h3⟩ := h
  exact ⟨h0, A, c, hK.blk h1 (fun hG => by have := hg b hG; omega), hK.R h2 (fun j hj hG => by have := hg j hG; omega), h3⟩
theorem own_made {w1 w2 : World} {base : Nat} {A2 : Option Addr} {c2 : Nat} {s : ByteArray} {ps : List ByteArray} {k : Bs} {T : TypeId} {u : Value} (hle : base ≤ w1.heap.size) (hR : Kd.string.R 9 w2 w1.heap.size (fun j => w1.heap.size ≤ j) (.slice A2 ([s] ++ ps).length c2) ([s] ++ ps)) (hk : k.v = .iface T u) (hf : k.fine) (hB : Below w1.heap.size w1 w2) :
    AtOwn (w2.alloc (.cells #[.slice A2 (ps.length + 1) c2, .iface T u] 46)) base w2.heap.size (s :: ps) k := by
  refine ⟨Nat.le_trans hle hB.size, A2, c2, ?_, Kd.R_mono (Kd.R_lower (Kd.R_below hR ((Below.refl _ _).alloc (Nat.le_refl _) _)) hle) (fun j hj => Nat.le_trans hle hj), hf⟩
  rw [hk]
  exact heap_alloc_new w2 _
set_option maxHeartbeats 4000000 in
theorem wrap_own (s : ByteArray) (b : Nat) (ps : List ByteArray) (k : Bs) (w : World) (hg0 : Laid w) (ha : AtIs w b ps k) (hl : ps.length < 16) : Calls Tryd.prog 12 #[.string s, .iface 44 (.pointer (some ⟨b, 0, none⟩))] w fun e w' => ∃ b', e = .returned (.iface 44 (.pointer (some ⟨b', 0, none⟩))) ∧ AtOwn w' w.heap.size b' (s :: ps) k ∧ Below w.heap.size w w' := by
  have hg := Lib.hid hg0
  have HA := Lib.hid ha
  clear hg0 ha
  go_enter Tryd.func12, Tryd.ntmps12
  go_wp2_with (go_at_call 16
               refine (as_at_at b w.heap.size (.pointer none) (w.alloc (.cells #[.pointer none] 44)) (hg.out.alloc _) (by simp) (by simp)).mono ?_
               rintro e w1 ⟨rfl, hK, ht, hf⟩
               have hK0 : Keep (fun _ => False) w w1 := ⟨hK.os, hK.tape, hK.output, by have := hK.size; simp at this; omega, fun k hk _ => (hK.block k (by simp; omega) (by show k ≠ w.heap.size; omega)).trans (Below.heap_alloc w _ k hk)⟩
               have HB1 := Lib.hid (hK0.to_below (Nat.le_refl _) (fun _ h => h.elim))
               have HA1 := Lib.hid (HA.out.below HB1.out)
               obtain ⟨Ap, cp, hb, hC, hfine⟩ := HA1.out
               obtain ⟨T, u, hkv⟩ : ∃ T u, k.v = .iface T u := by cases k <;> exact ⟨_, _, rfl⟩
               rw [hkv] at hb
               have HKV := Lib.hid hkv
               clear hkv
               have HC1 := Lib.hid hC
               have hb0 : w1.cell? ⟨b, 0, none⟩ = _ := blk_cell hb 0
               have hb1 : w1.cell? ⟨b, 1, none⟩ = _ := blk_cell hb 1
               have HBK := Lib.hid hb
               clear hK hK0 hC hb)
  have hle : w.heap.size ≤ w1.heap.size := HB1.out.size
  have hbl := blk_lt HBK.out
  have hlit : RowKit.Hid (Kd.string.R 9 (w1.alloc (.cells #[.string s] 9)).drew w1.heap.size (fun k => w1.heap.size ≤ k) (.slice (some ⟨w1.heap.size, 0, none⟩) 1 1) [s]) := lit_row w1 s
  have t0 : w1.drew.cell? ⟨w.heap.size, 0, none⟩ = some (.pointer (some ⟨b, 0, none⟩)) := ht
  have t1 : ∀ o, (w1.alloc o).cell? ⟨w.heap.size, 0, none⟩ = some (.pointer (some ⟨b, 0, none⟩)) := fun o => pw_cell_below (w := w1) ((Below.refl _ _).alloc (Nat.le_refl _) o) ht
  have p0 : w1.drew.cell? ⟨b, 0, none⟩ = _ := hb0
  have p1 : ∀ o, (w1.alloc o).cell? ⟨b, 0, none⟩ = _ := fun o => blk_cell (blk_alloc HBK.out o) 0
  have e0 : w1.drew.cell? ⟨b, 1, none⟩ = _ := hb1
  have e1 : ∀ o, (w1.alloc o).cell? ⟨b, 1, none⟩ = _ := fun o => blk_cell (blk_alloc HBK.out o) 1
  have HCL : RowKit.Hid (Kd.string.C (w1.alloc (.cells #[.string s] 9)).drew Ap ps.length ps) := Kd.C_below HC1.out ((Below.refl w1.heap.size w1).alloc (Nat.le_refl _) (.cells #[.string s] 9)).drew
  have ht1 := ht
  clear ht hb0 hb1
  go_region_law (refine isAppend _ _ 22 (by rfl) ?_
                 refine Kd.R_append_rows_step Kd.string (Rr := Kd.string.K (w1.alloc (.cells #[.string s] 9)).drew) (w0 := w1.drew.alloc (.cells #[.string s] 9)) w1.heap.size (by rfl) _ _ 22 9 (.string ByteArray.empty) 16 (by rfl) Tryd.underlying22 F.info9 (by rfl) (by decide) (by decide) (.slice (some ⟨w1.heap.size, 0, none⟩) 1 1) [s] ps Ap ps.length cp (fun k => w1.heap.size ≤ k) (fun _ => False) (by rfl) (by rfl) hlit.out HCL.out (fun _ _ h => h) (fun _ h => h.elim) (fun k hk => by simp at hk; omega) (Below.refl _ _) (by simp) (by simp; omega) ?_
                 intro v1 w2 hR1 hB2 hg1 hat1
                 obtain ⟨A2, c2, rfl⟩ := Kd.R_slice hR1
                 have hBB : Below w1.heap.size w1 w2 := ⟨hB2.os, hB2.tape, hB2.output, by have := hB2.size; simp at this; omega, fun k hk => (hB2.block k hk).trans (Below.heap_alloc w1 _ k hk)⟩
                 have HB2 := Lib.hid hBB
                 have HR2 := Lib.hid hR1
                 have x0 : w2.cell? ⟨w.heap.size, 0, none⟩ = some (.pointer (some ⟨b, 0, none⟩)) := pw_cell_below hBB ht1
                 have x1 : w2.cell? ⟨b, 1, none⟩ = _ := blk_cell (blk_below HBK.out hBB) 1
                 clear hR1 hB2 hg1 hat1 hBB)
  all_goals
    have HF := Lib.hid (own_made hle HR2.out HKV.out hfine HB2.out)
    have HBF := Lib.hid (HB1.out.trans ((HB2.out.alloc HB2.out.size (.cells #[.slice A2 (ps.length + 1) c2, .iface T u] 46)).mono hle))
    clear x0 x1 HR2 HB2 t0 t1 p0 p1 e0 e1 ht1 hlit HCL HBK HC1
    go_wp2
    go_ret
    exact ⟨_, rfl, HF.out, HBF.out⟩
end Go.Proofs.YtckdajpjnpgknaaDoor
