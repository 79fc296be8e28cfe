/- The walk of Put, where an entry is placed. -/
import Derived.Test.YtacbebkaammcnaaDoorPutW
set_option linter.unusedVariables false
set_option linter.unusedSimpArgs false
namespace Go.Proofs.YtacbebkaammcnaaDoor
open Go.RowKit Go.Proofs.YtacbebkaammcnaaDoorW.PrintWords Go.Proofs.Mine

theorem map_typed {w : World} {k t : Nat} {cells : Array Value} {es : Array MapEntry} {c : Nat} (hm : w.heap[k]? = some (.map es c)) (hb : w.heap[k]? = some (.cells cells t (0, 0))) : False := by
  rw [hm] at hb; cases hb
theorem mapG_blk {w : World} {B : Nat} {f : Int × Int → Option Int} (h : MapG reqV (Value.int .i64) w B f) : ∃ es c, w.heap[B]? = some (.map es c) := by
  obtain ⟨es, c, h, _⟩ := h; exact ⟨es, c, h⟩
theorem mapI_blk {w : World} {B : Nat} {f : Int → Option Int} (h : MapI (Value.int .i64) w B f) : ∃ es c, w.heap[B]? = some (.map es c) := by
  obtain ⟨es, c, h, _⟩ := h; exact ⟨es, c, h⟩
theorem row_no_map {α : Type} {d : Kd α} {e base : Nat} {ok : Nat → Prop} {w : World} {v : Value} {xs : List α} (h : d.R e w base ok v xs) {B : Nat} {es : Array MapEntry} {c : Nat} (hm : w.heap[B]? = some (.map es c)) : d.R e w base (fun k => ok k ∧ k ≠ B) v xs :=
  Kd.R_mono (Kd.R_bound h) (fun k hk => ⟨hk.1, by
    rintro rfl
    obtain ⟨_, _, _, q, _, cells, hc⟩ := hk
    exact map_typed hm hc⟩)
/-- The list has been appended to (at w', behind a call that makes memory alone), and stored back. -/
theorem tab_appended {W w' w1 : World} {base b : Nat} {F : Nat → Prop} {s : TSt} {vl v1 : Value} {B1 B2 : Nat} {l' : List Ent} (h1 : F b) (h2 : ∀ k, F k → base ≤ k ∧ k < W.heap.size) (hb : W.heap[b]? = some (.cells #[vl, .map (some B1), .map (some B2)] 49 (0, 0)))
    (hM1 : MapG reqV (Value.int .i64) W B1 s.pl) (hM2 : MapI (Value.int .i64) W B2 s.gr) (f1 : F B1) (f2 : F B2) (hne : B1 ≠ B2) (hRv : entK.R 31 W base F vl s.l) (hB : Below W.heap.size W w') (hR : entK.R 31 w1 base (fun k => F k ∨ W.heap.size ≤ k) v1 l') (hg : w'.grownBy w1 vl.ownBlock) :
    ∃ F', TableAt (w1.setCell ⟨b, 0, none⟩ v1) base F' b { s with l := l' } ∧ (∀ k, F' k → F k ∨ W.heap.size ≤ k) ∧ Keep F W (w1.setCell ⟨b, 0, none⟩ v1) ∧ (w1.setCell ⟨b, 0, none⟩ v1).heap[b]? = some (.cells #[v1, .map (some B1), .map (some B2)] 49 (0, 0)) ∧ F' B1 ∧ F' B2 := by
  have hbl := blk_lt hb
  obtain ⟨es1, c1, m1⟩ := mapG_blk hM1
  obtain ⟨es2, c2, m2⟩ := mapI_blk hM2
  have hneb : some b ≠ vl.ownBlock := Kd.R_ne hRv hb (by decide)
  have hown : ∀ k, vl.ownBlock = some k → ∃ cells, W.heap[k]? = some (.cells cells 31 (0, 0)) := fun k hk => by
    obtain ⟨inner, ho⟩ := Kd.R_own hRv
    exact own_typed ho k hk
  have n1 : some B1 ≠ vl.ownBlock := fun he => by obtain ⟨cells, hc⟩ := hown B1 he.symm; exact map_typed m1 hc
  have n2 : some B2 ≠ vl.ownBlock := fun he => by obtain ⟨cells, hc⟩ := hown B2 he.symm; exact map_typed m2 hc
  have b1 : B1 ≠ b := fun he => by subst he; exact map_typed m1 hb
  have b2 : B2 ≠ b := fun he => by subst he; exact map_typed m2 hb
  have hb1 : w1.heap[b]? = some (.cells #[vl, .map (some B1), .map (some B2)] 49 (0, 0)) := blk_grown (blk_below hb hB) hg hneb
  have hK1 : Keep F W w1 := (Keep.of_below hB F).trans (Keep.of_grown (F := fun k => vl.ownBlock = some k) hg (fun k hk => hk)) (fun k hk => .inl (hRv.1 k hk))
  have hK : Keep F W (w1.setCell ⟨b, 0, none⟩ v1) := hK1.setCell _ _ (.inl h1)
  have hsz : (w1.setCell ⟨b, 0, none⟩ v1).heap.size = w1.heap.size := by simp [World.setCell]
  have mv : ∀ B, B < W.heap.size → some B ≠ vl.ownBlock → B ≠ b → (w1.setCell ⟨b, 0, none⟩ v1).heap[B]? = W.heap[B]? := fun B hlt hn hnb =>
    ((Below.heap_setCell w1 ⟨b, 0, none⟩ v1 B hnb).trans (hg.block B (Nat.lt_of_lt_of_le hlt hB.size) hn)).trans (hB.block B hlt)
  have hset := blk_set hb1 0 v1
  refine ⟨fun k => (F k ∨ W.heap.size ≤ k) ∧ k < w1.heap.size, ⟨⟨.inl h1, Nat.lt_of_lt_of_le hbl hK1.size⟩, ?_, v1, B1, B2, hset, ?_, hM1.move (mv B1 hM1.lt n1 b1), hM2.move (mv B2 hM2.lt n2 b2), ⟨.inl f1, Nat.lt_of_lt_of_le hM1.lt hK1.size⟩, ⟨.inl f2, Nat.lt_of_lt_of_le hM2.lt hK1.size⟩, hne⟩, fun k hk => hk.1, hK, hset, ⟨.inl f1, Nat.lt_of_lt_of_le hM1.lt hK1.size⟩, ⟨.inl f2, Nat.lt_of_lt_of_le hM2.lt hK1.size⟩⟩
  · intro k hk
    refine ⟨?_, by rw [hsz]; exact hk.2⟩
    rcases hk.1 with h | h
    · exact (h2 k h).1
    · have := (h2 b h1).1; omega
  · have hR2 := Kd.R_mono (Kd.R_bound hR) (ok' := fun k => (F k ∨ W.heap.size ≤ k) ∧ k < w1.heap.size) (fun k hk => ⟨hk.1, hk.2.2.1⟩)
    exact Kd.R_set hR2 hb1 (by simp [entK]) 0 v1
theorem tab_maps {W : World} {base b : Nat} {F : Nat → Prop} {s : TSt} {vl : Value} {B1 B2 : Nat} (h : TableAt W base F b s) (hb : W.heap[b]? = some (.cells #[vl, .map (some B1), .map (some B2)] 49 (0, 0))) :
    MapG reqV (Value.int .i64) W B1 s.pl ∧ MapI (Value.int .i64) W B2 s.gr ∧ entK.R 31 W base F vl s.l ∧ F B1 ∧ F B2 := by
  obtain ⟨h1, h2, vl', B1', B2', hb', hR, hM1, hM2, f1, f2, hne⟩ := h
  rw [hb] at hb'
  obtain ⟨rfl, rfl, rfl⟩ : vl = vl' ∧ B1 = B1' ∧ B2 = B2' := by simpa using hb'
  exact ⟨hM1, hM2, hR, f1, f2⟩
/-- The map of places has been written. -/
theorem tab_places {W w1 : World} {base b : Nat} {F : Nat → Prop} {s : TSt} {vl : Value} {B1 B2 : Nat} {g : Int × Int → Option Int} (h : TableAt W base F b s) (hb : W.heap[b]? = some (.cells #[vl, .map (some B1), .map (some B2)] 49 (0, 0)))
    (hm : MapG reqV (Value.int .i64) w1 B1 g) (hk : Keep (fun k => k = B1) W w1) : TableAt w1 base F b { s with pl := g } ∧ w1.heap[b]? = some (.cells #[vl, .map (some B1), .map (some B2)] 49 (0, 0)) := by
  obtain ⟨h1, h2, vl', B1', B2', hb', hR, hM1, hM2, f1, f2, hne⟩ := h
  rw [hb] at hb'
  obtain ⟨rfl, rfl, rfl⟩ : vl = vl' ∧ B1 = B1' ∧ B2 = B2' := by simpa using hb'
  obtain ⟨es, c, hBm⟩ := mapG_blk hM1
  have hbn : b ≠ B1 := fun he => by subst he; exact map_typed hBm hb
  have hb1 := hk.blk hb hbn
  exact ⟨⟨h1, fun k hk' => ⟨(h2 k hk').1, Nat.lt_of_lt_of_le (h2 k hk').2 hk.size⟩, vl, B1, B2, hb1, Kd.R_mono (hk.R (row_no_map hR hBm) (fun k hk' => hk'.2)) (fun _ hk' => hk'.1), hm, hM2.move (hk.block B2 hM2.lt (fun he => hne he.symm)), f1, f2, hne⟩, hb1⟩
theorem tab_great {W w1 : World} {base b : Nat} {F : Nat → Prop} {s : TSt} {vl : Value} {B1 B2 : Nat} {g : Int → Option Int} (h : TableAt W base F b s) (hb : W.heap[b]? = some (.cells #[vl, .map (some B1), .map (some B2)] 49 (0, 0)))
    (hm : MapI (Value.int .i64) w1 B2 g) (hk : Keep (fun k => k = B2) W w1) : TableAt w1 base F b { s with gr := g } ∧ w1.heap[b]? = some (.cells #[vl, .map (some B1), .map (some B2)] 49 (0, 0)) := by
  obtain ⟨h1, h2, vl', B1', B2', hb', hR, hM1, hM2, f1, f2, hne⟩ := h
  rw [hb] at hb'
  obtain ⟨rfl, rfl, rfl⟩ : vl = vl' ∧ B1 = B1' ∧ B2 = B2' := by simpa using hb'
  obtain ⟨es, c, hBm⟩ := mapI_blk hM2
  have hbn : b ≠ B2 := fun he => by subst he; exact map_typed hBm hb
  have hb1 := hk.blk hb hbn
  exact ⟨⟨h1, fun k hk' => ⟨(h2 k hk').1, Nat.lt_of_lt_of_le (h2 k hk').2 hk.size⟩, vl, B1, B2, hb1, Kd.R_mono (hk.R (row_no_map hR hBm) (fun k hk' => hk'.2)) (fun _ hk' => hk'.1), hM1.move (hk.block B1 hM1.lt hne), hm, f1, f2, hne⟩, hb1⟩
end Go.Proofs.YtacbebkaammcnaaDoor
