/- Memory that a call writes: what it keeps; maps whose keys are whole numbers. No program in sight. -/
import Derived.Test.YtkdlghbfplhkpaaDoorWWords
import Derived.MapKept
set_option linter.unusedVariables false
set_option linter.unusedSimpArgs false
namespace Go.Proofs.Mine
open Go.RowKit Go.Proofs.YtkdlghbfplhkpaaDoorW.PrintWords

/-- Of the blocks that there were those that are not of F are as they were. -/
structure Keep (F : Nat → Prop) (w w' : World) : Prop where
  os : w'.os = w.os
  tape : w'.tape = w.tape
  output : w'.output = w.output
  size : w.heap.size ≤ w'.heap.size
  block : ∀ k, k < w.heap.size → ¬ F k → w'.heap[k]? = w.heap[k]?
namespace Keep
variable {F G : Nat → Prop} {w w1 w2 : World}
theorem refl (F : Nat → Prop) (w : World) : Keep F w w := ⟨rfl, rfl, rfl, Nat.le_refl _, fun _ _ _ => rfl⟩
theorem mono (h : Keep F w w1) (hf : ∀ k, F k → k < w.heap.size → G k) : Keep G w w1 := ⟨h.os, h.tape, h.output, h.size, fun k hk hn => h.block k hk fun hf' => hn (hf k hf' hk)⟩
/-- A second step, on what the first one left: its blocks are of F, or new. -/
theorem trans (h : Keep F w w1) (k : Keep G w1 w2) (hg : ∀ b, G b → F b ∨ w.heap.size ≤ b) : Keep F w w2 :=
  ⟨k.os.trans h.os, k.tape.trans h.tape, k.output.trans h.output, Nat.le_trans h.size k.size, fun b hb hn => (k.block b (Nat.lt_of_lt_of_le hb h.size) fun hG => by
    rcases hg b hG with h1 | h1
    · exact hn h1
    · omega).trans (h.block b hb hn)⟩
theorem of_below (h : Below w.heap.size w w1) (F : Nat → Prop) : Keep F w w1 := ⟨h.os, h.tape, h.output, h.size, fun k hk _ => h.block k hk⟩
theorem of_grown {row : Option Nat} (h : w.grownBy w1 row) (hr : ∀ k, row = some k → F k) : Keep F w w1 := ⟨h.os, h.tape, h.output, h.size, fun k hk hn => h.block k hk fun e => hn (hr k e.symm)⟩
theorem to_below {B : Nat} (h : Keep F w w1) (hB : B ≤ w.heap.size) (hF : ∀ k, F k → B ≤ k) : Below B w w1 := ⟨h.os, h.tape, h.output, h.size, fun k hk => h.block k (by omega) fun hf => by have := hF k hf; omega⟩
theorem drewN (h : Keep F w w1) (n : Nat) : Keep F w (w1.drewN n) := ⟨h.os, h.tape, h.output, h.size, h.block⟩
theorem drew (h : Keep F w w1) : Keep F w w1.drew := ⟨h.os, h.tape, h.output, h.size, h.block⟩
theorem alloc (h : Keep F w w1) (o : Obj) : Keep F w (w1.alloc o) := ⟨h.os, h.tape, h.output, by have := h.size; simp; omega, fun k hk hn => (Below.heap_alloc w1 o k (Nat.lt_of_lt_of_le hk h.size)).trans (h.block k hk hn)⟩
theorem setCell (h : Keep F w w1) (p : Addr) (u : Value) (hp : F p.block ∨ w.heap.size ≤ p.block) : Keep F w (w1.setCell p u) :=
  ⟨h.os, h.tape, h.output, by have := h.size; simp [World.setCell]; omega, fun k hk hn => (Below.heap_setCell w1 p u k fun e => by
    subst e
    rcases hp with hp | hp
    · exact hn hp
    · omega).trans (h.block k hk hn)⟩
theorem blk {o : Obj} {g : Nat} (h : Keep F w w1) (hb : w.heap[g]? = some o) (hg : ¬ F g) : w1.heap[g]? = some o := (h.block g (blk_lt hb) hg).trans hb
theorem cell {a : Addr} {v : Value} (h : Keep F w w1) (hc : w.cell? a = some v) (hg : ¬ F a.block) : w1.cell? a = some v :=
  (World.cell?_of_block (w := w) (h.block a.block (World.block_lt_of_cell? w a hc) hg)).trans hc
theorem own {base : Nat} {e : TypeId} {size n : Nat} {v : Value} {xs : List Value} (h : Keep F w w1) (ho : w.ownsRow base e size v n xs) (hg : ∀ k, v.ownBlock = some k → ¬ F k) : w1.ownsRow base e size v n xs :=
  own_move ho fun k hk => h.block k (own_lt ho k hk) (hg k hk)
theorem R {α : Type} {d : Kd α} {e base : Nat} {ok : Nat → Prop} {v : Value} {xs : List α} (h : Keep F w w1) (ho : d.R e w base ok v xs) (hg : ∀ k, ok k → ¬ F k) : d.R e w1 base ok v xs :=
  Kd.R_step ho fun k hk hlt => h.block k hlt (hg k hk)
end Keep

/-! ### Maps with whole numbers as keys -/
open Go.MapKept
/-- Block B is a map; under x stands f x. -/
def MapI {α : Type} (enc : α → Value) (w : World) (B : Nat) (f : Int → Option α) : Prop :=
  ∃ (es : Array MapEntry) (clock : Nat), w.heap[B]? = some (.map es clock) ∧ Stamped es clock ∧ (∀ e ∈ es.toList, ∃ x v, e.key = .int .i64 x ∧ e.val = enc v ∧ f x = some v) ∧ ∀ x v, f x = some v → ∃ e ∈ es.toList, e.key = .int .i64 x
section
variable {α : Type} {enc : α → Value} {w w1 : World} {B : Nat} {f : Int → Option α} {P : Program} {t k e : TypeId}
theorem MapI.move (h : MapI enc w B f) (hb : w1.heap[B]? = w.heap[B]?) : MapI enc w1 B f := by
  obtain ⟨es, c, h0, h1⟩ := h
  exact ⟨es, c, hb.trans h0, h1⟩
theorem MapI.lt (h : MapI enc w B f) : B < w.heap.size := by
  obtain ⟨es, c, h0, _⟩ := h
  exact (Array.getElem?_eq_some_iff.1 h0).1
theorem MapI.new (w : World) : MapI enc (w.alloc (.map #[] 0)) w.heap.size (fun _ => Option.none (α := α)) :=
  ⟨#[], 0, heap_alloc_new w _, stamped_empty 0, by simp, by simp⟩
theorem isKey_int (x : Int) : IsKey (.int .i64) (.int .i64 x) := rfl
theorem MapI.keys {es : Array MapEntry} (h : ∀ e ∈ es.toList, ∃ x v, e.key = .int .i64 x ∧ e.val = enc v ∧ f x = some v) : ∀ x ∈ es.toList, IsKey (.int .i64) x.key := by
  intro x hx
  obtain ⟨y, _, hk, _⟩ := h x hx
  rw [hk]; exact isKey_int y
theorem int_inj {x y : Int} (h : Value.int .i64 x = Value.int .i64 y) : x = y := by injection h
theorem MapI.lookup (h : MapI enc w B f) (ht : P.underlying t = some (.map k e)) (hk : P.underlying k = some (.int .i64)) {z : Value} (hz : (zeroValue e).run P w = .ok z w) (x : Int) :
    (Instr.lookup t (.map (some B)) (.int .i64 x) false).run P w = .ok (((f x).map enc).getD z) w := by
  obtain ⟨es, c, h0, hs, h1, h2⟩ := h
  rcases MapKept.findNow_spec (isKey_int x) es.toList 0 (MapI.keys h1) with ⟨hf, hn⟩ | ⟨j, en, hf, hj, hke⟩
  · have hfx : f x = Option.none := by
      cases hx : f x with
      | none => rfl
      | some v => obtain ⟨en, hm, hke⟩ := h2 x v hx; exact absurd hke (hn en hm)
    simp [Instr.lookup, run_underlying ht, MapKept.run_getObj_map h0, MapKept.run_checkKey hk (isKey_int x), MapKept.run_findKey hk hf, hz, hfx, Result.andThen]
  · obtain ⟨y, v, hy, hv, hfy⟩ := h1 en (List.mem_of_getElem? hj)
    obtain rfl := int_inj (hy.symm.trans hke)
    simp [Instr.lookup, run_underlying ht, MapKept.run_getObj_map h0, MapKept.run_checkKey hk (isKey_int y), MapKept.run_findKey hk hf, hv, hfy, Result.andThen]
theorem MapI.lookup_ok (h : MapI enc w B f) (ht : P.underlying t = some (.map k e)) (hk : P.underlying k = some (.int .i64)) {z : Value} (hz : (zeroValue e).run P w = .ok z w) (x : Int) :
    (Instr.lookup t (.map (some B)) (.int .i64 x) true).run P w = .ok (.tuple #[((f x).map enc).getD z, .bool (f x).isSome]) w := by
  obtain ⟨es, c, h0, hs, h1, h2⟩ := h
  rcases MapKept.findNow_spec (isKey_int x) es.toList 0 (MapI.keys h1) with ⟨hf, hn⟩ | ⟨j, en, hf, hj, hke⟩
  · have hfx : f x = Option.none := by
      cases hx : f x with
      | none => rfl
      | some v => obtain ⟨en, hm, hke⟩ := h2 x v hx; exact absurd hke (hn en hm)
    simp [Instr.lookup, run_underlying ht, MapKept.run_getObj_map h0, MapKept.run_checkKey hk (isKey_int x), MapKept.run_findKey hk hf, hz, hfx, Result.andThen]
  · obtain ⟨y, v, hy, hv, hfy⟩ := h1 en (List.mem_of_getElem? hj)
    obtain rfl := int_inj (hy.symm.trans hke)
    simp [Instr.lookup, run_underlying ht, MapKept.run_getObj_map h0, MapKept.run_checkKey hk (isKey_int y), MapKept.run_findKey hk hf, hv, hfy, Result.andThen]
theorem lookup_nil (ht : P.underlying t = some (.map k e)) (hk : P.underlying k = some (.int .i64)) {z : Value} (hz : (zeroValue e).run P w = .ok z w) (x : Int) :
    (Instr.lookup t (.map Option.none) (.int .i64 x) false).run P w = .ok z w := by
  have hf : Instr.findNow (.int .i64) (.int .i64 x) [] 0 = some Option.none := rfl
  simp [Instr.lookup, run_underlying ht, MapKept.run_checkKey hk (isKey_int x), MapKept.run_findKey hk hf, hz, Result.andThen]
def updI (f : Int → Option α) (x : Int) (v : α) : Int → Option α := fun y => if y = x then some v else f y
/-- A block set in place: all others are as they were. -/
theorem set_keep {o o' : Obj} (hb : w.heap[B]? = some o) : Keep (fun k => k = B) w { w with heap := w.heap.setIfInBounds B o' } :=
  ⟨rfl, rfl, rfl, by simp, fun k _ hn => (MapKept.heap_set hb).2 k hn⟩
theorem MapI.update (h : MapI enc w B f) (ht : P.underlying t = some (.map k e)) (hk : P.underlying k = some (.int .i64)) (x : Int) (v : α) :
    ∃ w1, (Instr.mapUpdate t (.map (some B)) (.int .i64 x) (enc v)).run P w = .ok () w1 ∧ MapI enc w1 B (updI f x v) ∧ Keep (fun k => k = B) w w1 ∧ w1.heap.size = w.heap.size := by
  obtain ⟨es, c, h0, hs, h1, h2⟩ := h
  rcases MapKept.findNow_spec (isKey_int x) es.toList 0 (MapI.keys h1) with ⟨hf, hn⟩ | ⟨j, en, hf, hj, hke⟩
  · refine ⟨_, by simp [Instr.mapUpdate, run_underlying ht, MapKept.run_getObj_map h0, MapKept.run_checkKey hk (isKey_int x), MapKept.run_findKey hk hf, MapKept.run_setObj_map _ h0, Result.andThen]; rfl, ⟨_, _, (MapKept.heap_set h0).1, stamped_push hs hn, ?_, ?_⟩, set_keep h0, by simp⟩
    · intro en hen
      simp only [Array.toList_push, List.mem_append, List.mem_singleton] at hen
      rcases hen with hen | rfl
      · obtain ⟨y, u, hy, hu, hfy⟩ := h1 en hen
        refine ⟨y, u, hy, hu, ?_⟩
        have : y ≠ x := fun hyx => hn en hen (by rw [hy, hyx])
        simp [updI, this, hfy]
      · exact ⟨x, v, rfl, rfl, by simp [updI]⟩
    · intro y u hyu
      by_cases hyx : y = x
      · subst hyx; exact ⟨⟨.int .i64 y, enc v, c⟩, by simp, rfl⟩
      · obtain ⟨en, hen, hke⟩ := h2 y u (by simpa [updI, hyx] using hyu)
        exact ⟨en, by simp [hen], hke⟩
  · have hj' : es[j]? = some en := by simpa using hj
    have hkey : ∀ e', es[j]? = some e' → ({ e' with key := Value.int .i64 x, val := enc v } : MapEntry).key = e'.key := fun e' he' => by rw [hj'] at he'; cases he'; exact hke.symm
    refine ⟨{ w with heap := w.heap.setIfInBounds B (.map (es.modify j fun e => { e with key := Value.int .i64 x, val := enc v }) c) }, by simp [Instr.mapUpdate, run_underlying ht, MapKept.run_getObj_map h0, MapKept.run_checkKey hk (isKey_int x), MapKept.run_findKey hk hf, hj', hke, MapKept.run_keyThatStays (isKey_int x), MapKept.run_setObj_map _ h0, Result.andThen],
      ⟨_, c, (MapKept.heap_set h0).1, stamped_modify hs _ _ (fun _ _ => rfl) (fun e' _ he' => hkey e' he'), ?_, ?_⟩, set_keep h0, by simp⟩
    · intro e1 he1
      obtain ⟨i, hi⟩ := List.mem_iff_getElem?.1 he1
      rw [Array.getElem?_toList, Array.getElem?_modify] at hi
      split at hi
      · rename_i hij
        subst hij
        rw [hj'] at hi
        injection hi with hi
        subst hi
        exact ⟨x, v, rfl, rfl, by simp [updI]⟩
      · rename_i hij
        have hm : e1 ∈ es.toList := List.mem_of_getElem? (by rw [Array.getElem?_toList]; exact hi)
        obtain ⟨y, u, hy, hu, hfy⟩ := h1 e1 hm
        refine ⟨y, u, hy, hu, ?_⟩
        have : y ≠ x := by
          intro hyx
          have hnd := hs.2.2
          have hi1 : (es.toList.map (·.key))[i]? = some (.int .i64 x) := by rw [List.getElem?_map, Array.getElem?_toList, hi]; simp [hy, hyx]
          have hj1 : (es.toList.map (·.key))[j]? = some (.int .i64 x) := by rw [List.getElem?_map, hj]; simp [hke]
          obtain ⟨li, gi⟩ := List.getElem?_eq_some_iff.1 hi1
          obtain ⟨lj, gj⟩ := List.getElem?_eq_some_iff.1 hj1
          exact hij (List.getElem_inj hnd |>.1 (gj.trans gi.symm))
        simp [updI, this, hfy]
    · intro y u hyu
      have hmem : ∀ e0 ∈ es.toList, ∃ e1 ∈ (es.modify j fun e => { e with key := Value.int .i64 x, val := enc v }).toList, e1.key = e0.key := by
        intro e0 he0
        have hmk := modify_keys j (fun e : MapEntry => { e with key := Value.int .i64 x, val := enc v }) hkey
        have : e0.key ∈ es.toList.map (·.key) := List.mem_map.2 ⟨e0, he0, rfl⟩
        rw [← hmk] at this
        obtain ⟨e1, h3, h4⟩ := List.mem_map.1 this
        exact ⟨e1, h3, h4⟩
      by_cases hyx : y = x
      · subst hyx
        obtain ⟨e1, h3, h4⟩ := hmem en (List.mem_of_getElem? hj)
        exact ⟨e1, h3, h4.trans hke⟩
      · obtain ⟨e0, he0, hk0⟩ := h2 y u (by simpa [updI, hyx] using hyu)
        obtain ⟨e1, h3, h4⟩ := hmem e0 he0
        exact ⟨e1, h3, h4.trans hk0⟩
end
end Go.Proofs.Mine
