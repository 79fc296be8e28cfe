/- The walk of New. -/
import Derived.Test.YtjgdglbfnjjmmaaDoorGensW
set_option linter.unusedVariables false
set_option linter.unusedSimpArgs false
namespace Go.Proofs.YtjgdglbfnjjmmaaDoor
open Go.RowKit Go.Proofs.YtjgdglbfnjjmmaaDoorW.PrintWords Go.Proofs.Mine

theorem ri_of_C {w : World} {A : Option Addr} {n : Nat} {xs : List Int} (h : (Kd.int .i64).C w A n xs) : ReadsInt w .i64 A n xs := Kd.reads_of_C (enc := Value.int .i64) (d := (0 : Int)) (h1 := fun _ => rfl) h
theorem C_of_ri {w : World} {A : Option Addr} {n : Nat} {xs : List Int} (h : ReadsInt w .i64 A n xs) : (Kd.int .i64).C w A n xs := Kd.C_of_reads (enc := Value.int .i64) (d := (0 : Int)) (h1 := fun _ => rfl) h
/-- What members tells of members that are not joint. -/
def memE (l : List Int) : Int := if listE l = 1 then 4 else if listE l = 2 then 1 else if listE l = 3 then 2 else 0
theorem mem_plain (w : World) (B : Option Addr) (d : Nat) (l : List Int) (hn : ReadsInt w .i64 B l.length l) :
    Calls Tryd.prog 26 #[.agg #[.slice none 0 0, .slice B l.length d]] w fun e w' => e = .returned (.int .i64 (memE l)) ∧ Below w.heap.size w w' := by
  refine (members_any w none B 0 d [] l (ReadsInt.nil w .i64) hn).mono ?_
  rintro e w' ⟨rfl, hB⟩
  refine ⟨?_, hB⟩
  have : checkE [] l = memE l := by unfold checkE memE; rw [if_neg (by decide), if_neg (by decide)]
  rw [this]
  by_cases h : memE l = 0 <;> simp [h]
theorem memE_fine {l : List Int} (h : listE l = 0) : memE l = 0 := by unfold memE; rw [h]; rfl
/-- A row of one generation, at the block b2, and what points at it, at b2 + 1. -/
theorem gens_one {w W : World} {n en b : Int} {l : List Int} {A : Option Addr} {c : Nat} (hB : Below w.heap.size w W) (hR : (Kd.int .i64).R 3 W w.heap.size (fun k => w.heap.size ≤ k) (.slice A l.length c) l) (h0 : 0 < l.length) (h7 : l.length ≤ 7) :
    let W2 := (W.alloc (.cells #[.int .i64 n, .int .i64 en, .int .i64 b, .slice none 0 0, .slice A l.length c] 32)).alloc (.cells #[.slice (some ⟨W.heap.size, 0, none⟩) 1 1] 64)
    GensAt W2 w.heap.size (fun k => w.heap.size ≤ k ∧ k < W.heap.size + 2) (W.heap.size + 1) [⟨⟨n, en, b, l⟩, A, c⟩] ∧ Below w.heap.size w W2 := by
  intro W2
  have hs := hB.size
  have hsz : W2.heap.size = W.heap.size + 2 := by simp [W2]
  have hb1 := heap_alloc_new (W.alloc (.cells #[.int .i64 n, .int .i64 en, .int .i64 b, .slice none 0 0, .slice A l.length c] 32)) (.cells #[.slice (some ⟨W.heap.size, 0, none⟩) 1 1] 64)
  have hb0 := blk_alloc (heap_alloc_new W (.cells #[.int .i64 n, .int .i64 en, .int .i64 b, .slice none 0 0, .slice A l.length c] 32)) (.cells #[.slice (some ⟨W.heap.size, 0, none⟩) 1 1] 64)
  have hBB : Below W.heap.size W W2 := ((Below.refl W.heap.size W).alloc (Nat.le_refl _) _).alloc (by simp) _
  refine ⟨⟨⟨by omega, by omega⟩, fun k hk => ⟨hk.1, by omega⟩, .slice (some ⟨W.heap.size, 0, none⟩) 1 1, ?_, ?_, ?_⟩, hB.trans (hBB.mono hs)⟩
  · rw [show (W.alloc (.cells #[.int .i64 n, .int .i64 en, .int .i64 b, .slice none 0 0, .slice A l.length c] 32)).heap.size = W.heap.size + 1 from by simp] at hb1
    exact hb1
  · exact fixR_iff.2 (.inr ⟨W.heap.size, 1, #[.int .i64 n, .int .i64 en, .int .i64 b, .slice none 0 0, .slice A l.length c], rfl, ⟨hs, by omega⟩, hs, hb0, Nat.le_refl _, by decide, rfl, rfl⟩)
  · intro x hx
    rw [List.mem_singleton] at hx
    subst hx
    refine ⟨?_, h0, h7⟩
    have h1 := Kd.R_below hR hBB
    exact Kd.R_mono (Kd.R_bound (Kd.R_bound hR |> fun h => Kd.R_below h hBB)) (fun k hk => ⟨hk.1.1, by have := hk.1.2.2.1; omega⟩)
set_option maxRecDepth 100000 in
set_option maxHeartbeats 1000000 in
theorem new_any (w : World) (n en b : Int) (l : List Int) (ad : Addr) (c : Nat) (hn : 1 ≤ n) (he : kindB en = true) (hb : 0 ≤ b) (hl : listE l = 0) (hC : (Kd.int .i64).C w (some ad) l.length l) (h0 : 0 < l.length) (h7 : l.length ≤ 7) :
    Calls Tryd.prog 7 #[.agg #[.int .i64 n, .int .i64 en, .int .i64 b, .slice none 0 0, .slice (some ad) l.length c]] w fun e w' =>
      ∃ bk A' c', e = .returned (.tuple #[.pointer (some ⟨bk, 0, none⟩), .int .i64 0]) ∧ GensAt w' w.heap.size (fun k => w.heap.size ≤ k ∧ k < w'.heap.size) bk [⟨⟨n, en, b, l⟩, A', c'⟩] ∧ Below w.heap.size w w' := by
  have HC := Lib.hid hC
  have HM := Lib.hid (memE_fine hl)
  have HE := Lib.hid he
  have hn1 : ¬ n < 1 := by omega
  have hb1 : ¬ b < 0 := by omega
  have hB0 := (Below.refl w.heap.size w).alloc (Nat.le_refl _) (.cells #[.int .i64 n, .int .i64 en, .int .i64 b, .slice none 0 0, .slice (some ad) l.length c] 32)
  have HB0 := Lib.hid hB0
  have HBX := Lib.hid (heap_alloc_new w (.cells #[.int .i64 n, .int .i64 en, .int .i64 b, .slice none 0 0, .slice (some ad) l.length c] 32))
  clear hC hl he hB0
  go_enter Tryd.func7, Tryd.ntmps7
  go_wp2_with (go_at_call 25; refine (kind_any _ en).mono ?_; rintro e w1 ⟨rfl, rfl⟩; rw [HE.out])
  generalize hW : w.alloc _ = W at *
  go_wp2_with (go_at_call 26; refine (mem_plain _ (some ad) c l (ri_of_C (Kd.C_below HC.out HB0.out))).mono ?_; rintro e w2 ⟨rfl, hB2⟩; rw [HM.out]
               have HB2 := Lib.hid hB2
               have q0 : w2.cell? ⟨w.heap.size, 0, none⟩ = _ := blk_cell (blk_below HBX.out HB2.out) 0
               have q1 : w2.cell? ⟨w.heap.size, 1, none⟩ = _ := blk_cell (blk_below HBX.out HB2.out) 1
               have q2 : w2.cell? ⟨w.heap.size, 2, none⟩ = _ := blk_cell (blk_below HBX.out HB2.out) 2
               have q3 : w2.cell? ⟨w.heap.size, 3, none⟩ = _ := blk_cell (blk_below HBX.out HB2.out) 3
               have q4 : w2.cell? ⟨w.heap.size, 4, none⟩ = _ := blk_cell (blk_below HBX.out HB2.out) 4
               clear hB2)
  have HBA := Lib.hid (HB0.out.trans (HB2.out.mono HB0.out.size))
  go_wp2_with (go_at_call 27; refine (twin_lit _ n en b l ad l.length c (Kd.C_below HC.out HBA.out) (by omega)).mono ?_; rintro e w3 ⟨A1, c1, rfl, hR, hB⟩
               have HB3 := Lib.hid (HBA.out.trans (hB.mono HBA.out.size))
               have HR3 := Lib.hid (Kd.R_mono (Kd.R_lower hR HBA.out.size) (ok' := fun k => w.heap.size ≤ k) (fun k hk => Nat.le_trans HBA.out.size hk))
               clear hR hB)
  obtain ⟨f1, f2⟩ := gens_one (n := n) (en := en) (b := b) HB3.out HR3.out h0 h7
  have F1 := Lib.hid f1
  have F2 := Lib.hid f2
  clear f1 f2
  refine bodyPost_ret (v := .tuple #[.pointer (some ⟨w3.heap.size + 1, 0, none⟩), .int .i64 0]) (by simp [results, Tryd.results7, go_sem]) rfl ⟨_, A1, c1, rfl, ?_, F2.out⟩
  have hsz : ((w3.alloc (.cells #[.int .i64 n, .int .i64 en, .int .i64 b, .slice none 0 0, .slice A1 l.length c1] 32)).alloc (.cells #[.slice (some ⟨w3.heap.size, 0, none⟩) 1 1] 64)).heap.size = w3.heap.size + 2 := by simp
  rw [hsz]
  exact F1.out
end Go.Proofs.YtjgdglbfnjjmmaaDoor
