/- Maps whose keys are structs, told by a key's own value: lookup, update. No program in sight. -/
import Derived.Test.YtacbebkaammcnaaDoorMem
set_option linter.unusedVariables false
set_option linter.unusedSimpArgs false
namespace Go.Proofs.Mine
open Go.RowKit Go.Proofs.YtacbebkaammcnaaDoorW.PrintWords Go.MapKept

/-- What a program's key type does: its keys may be hashed, are compared as they should be, and stay. -/
structure KeyOk {κ : Type} [DecidableEq κ] (P : Program) (kt : TypeId) (key : κ → Value) : Prop where
  str : ∃ fs, P.underlying kt = some (.struct fs)
  inj : ∀ x y, key x = key y → x = y
  chk : ∀ (e : Bool) (x : κ) (w : World), (Instr.checkKey e 10000 kt (key x)).run P w = .ok () w
  eq : ∀ (x y : κ) (w : World), (Op.equal kt (key x) (key y)).run P w = .ok (decide (x = y)) w
  stays : ∀ (x : κ) (w : World), (Instr.keyThatStays (key x) (key x)).run P w = .ok (key x) w
/-- Block B is a map; under key x stands f x. -/
def MapG {κ α : Type} (key : κ → Value) (enc : α → Value) (w : World) (B : Nat) (f : κ → Option α) : Prop :=
  ∃ (es : Array MapEntry) (clock : Nat), w.heap[B]? = some (.map es clock) ∧ Stamped es clock ∧ (∀ e ∈ es.toList, ∃ x v, e.key = key x ∧ e.val = enc v ∧ f x = some v) ∧ ∀ x v, f x = some v → ∃ e ∈ es.toList, e.key = key x
section
variable {κ α : Type} {key : κ → Value} {enc : α → Value} {w w1 : World} {B : Nat} {f : κ → Option α} {P : Program} {t k e : TypeId}
theorem MapG.move (h : MapG key enc w B f) (hb : w1.heap[B]? = w.heap[B]?) : MapG key enc w1 B f := by
  obtain ⟨es, c, h0, h1⟩ := h
  exact ⟨es, c, hb.trans h0, h1⟩
theorem MapG.lt (h : MapG key enc w B f) : B < w.heap.size := by
  obtain ⟨es, c, h0, _⟩ := h
  exact (Array.getElem?_eq_some_iff.1 h0).1
theorem MapG.new (w : World) : MapG key enc (w.alloc (.map #[] 0)) w.heap.size (fun _ => Option.none (α := α)) :=
  ⟨#[], 0, heap_alloc_new w _, stamped_empty 0, by simp, by simp⟩
variable [DecidableEq κ]
theorem asking (hk : KeyOk P k key) (x : κ) (w : World) : ∀ (l : List MapEntry) (i : Nat), (∀ e ∈ l, ∃ y, e.key = key y) →
    ((Instr.findAsking k (key x) l i).run P w = .ok Option.none w ∧ ∀ e ∈ l, e.key ≠ key x) ∨ ∃ j e, (Instr.findAsking k (key x) l i).run P w = .ok (some (i + j, e.val)) w ∧ l[j]? = some e ∧ e.key = key x
  | [], i, _ => .inl ⟨rfl, by simp⟩
  | e :: es, i, h => by
    obtain ⟨y, hy⟩ := h e (.head _)
    have hr := hk.eq x y w
    rw [← hy] at hr
    by_cases hxy : x = y
    · subst hxy
      refine .inr ⟨0, e, ?_, rfl, hy⟩
      simp [Instr.findAsking, hr, Result.andThen]
    · have hne : e.key ≠ key x := fun q => hxy (hk.inj _ _ (q.symm.trans hy))
      rcases asking hk x w es (i + 1) (fun z hz => h z (.tail _ hz)) with ⟨h1, h2⟩ | ⟨j, e', h1, h2, h3⟩
      · refine .inl ⟨by simp [Instr.findAsking, hr, hxy, Result.andThen, h1], fun z hz => ?_⟩
        cases hz with
        | head => exact hne
        | tail _ hz => exact h2 z hz
      · exact .inr ⟨j + 1, e', by simp [Instr.findAsking, hr, hxy, Result.andThen, h1]; omega, by simpa using h2, h3⟩
theorem find_key (hk : KeyOk P k key) (x : κ) (w : World) (l : List MapEntry) (h : ∀ e ∈ l, ∃ y, e.key = key y) :
    ((Instr.findKey k (key x) l).run P w = .ok Option.none w ∧ ∀ e ∈ l, e.key ≠ key x) ∨ ∃ j e, (Instr.findKey k (key x) l).run P w = .ok (some (j, e.val)) w ∧ l[j]? = some e ∧ e.key = key x := by
  obtain ⟨fs, hu⟩ := hk.str
  cases l with
  | nil => exact .inl ⟨by simp [Instr.findKey, run_underlying hu, Result.andThen, Instr.findNow], by simp⟩
  | cons e es =>
    have hn : Instr.findNow (.struct fs) (key x) (e :: es) 0 = Option.none := by simp [Instr.findNow, Instr.sameNow]
    rcases asking hk x w (e :: es) 0 h with ⟨h1, h2⟩ | ⟨j, e', h1, h2, h3⟩
    · exact .inl ⟨by simp [Instr.findKey, run_underlying hu, Result.andThen, hn, h1], h2⟩
    · rw [Nat.zero_add] at h1
      exact .inr ⟨j, e', by simp [Instr.findKey, run_underlying hu, Result.andThen, hn, h1], h2, h3⟩
theorem MapG.lookup (h : MapG key enc w B f) (hk : KeyOk P k key) (ht : P.underlying t = some (.map k e)) {z : Value} (hz : (zeroValue e).run P w = .ok z w) (x : κ) (ok : Bool) :
    (Instr.lookup t (.map (some B)) (key x) ok).run P w = .ok (if ok then .tuple #[((f x).map enc).getD z, .bool (f x).isSome] else ((f x).map enc).getD z) w := by
  obtain ⟨es, c, h0, hs, h1, h2⟩ := h
  have hkeys : ∀ e ∈ es.toList, ∃ y, e.key = key y := fun e he => by
    obtain ⟨y, _, hy, _⟩ := h1 e he
    exact ⟨y, hy⟩
  rcases find_key hk x w es.toList hkeys with ⟨hf, hn⟩ | ⟨j, en, hf, hj, hke⟩
  · have hfx : f x = Option.none := by
      cases hx : f x with
      | none => rfl
      | some v => obtain ⟨en, hm, hke⟩ := h2 x v hx; exact absurd hke (hn en hm)
    cases ok <;> simp [Instr.lookup, run_underlying ht, MapKept.run_getObj_map h0, hk.chk, hf, hz, hfx, Result.andThen]
  · obtain ⟨y, v, hy, hv, hfy⟩ := h1 en (List.mem_of_getElem? hj)
    obtain rfl := hk.inj _ _ (hy.symm.trans hke)
    cases ok <;> simp [Instr.lookup, run_underlying ht, MapKept.run_getObj_map h0, hk.chk, hf, hv, hfy, Result.andThen]
def updG (f : κ → Option α) (x : κ) (v : α) : κ → Option α := fun y => if y = x then some v else f y
theorem MapG.update (h : MapG key enc w B f) (hk : KeyOk P k key) (ht : P.underlying t = some (.map k e)) (x : κ) (v : α) :
    ∃ w1, (Instr.mapUpdate t (.map (some B)) (key x) (enc v)).run P w = .ok () w1 ∧ MapG key enc w1 B (updG f x v) ∧ Keep (fun k => k = B) w w1 ∧ w1.heap.size = w.heap.size := by
  obtain ⟨es, c, h0, hs, h1, h2⟩ := h
  have hkeys : ∀ e ∈ es.toList, ∃ y, e.key = key y := fun e he => by
    obtain ⟨y, _, hy, _⟩ := h1 e he
    exact ⟨y, hy⟩
  rcases find_key hk x w es.toList hkeys with ⟨hf, hn⟩ | ⟨j, en, hf, hj, hke⟩
  · refine ⟨_, by simp [Instr.mapUpdate, run_underlying ht, MapKept.run_getObj_map h0, hk.chk, hf, MapKept.run_setObj_map _ h0, Result.andThen]; rfl, ⟨_, _, (MapKept.heap_set h0).1, stamped_push hs hn, ?_, ?_⟩, set_keep h0, by simp⟩
    · intro en hen
      simp only [Array.toList_push, List.mem_append, List.mem_singleton] at hen
      rcases hen with hen | rfl
      · obtain ⟨y, u, hy, hu, hfy⟩ := h1 en hen
        refine ⟨y, u, hy, hu, ?_⟩
        have : y ≠ x := fun hyx => hn en hen (by rw [hy, hyx])
        simp [updG, this, hfy]
      · exact ⟨x, v, rfl, rfl, by simp [updG]⟩
    · intro y u hyu
      by_cases hyx : y = x
      · subst hyx; exact ⟨⟨key y, enc v, c⟩, by simp, rfl⟩
      · obtain ⟨en, hen, hke⟩ := h2 y u (by simpa [updG, hyx] using hyu)
        exact ⟨en, by simp [hen], hke⟩
  · have hj' : es[j]? = some en := by simpa using hj
    have hkey : ∀ e', es[j]? = some e' → ({ e' with key := key x, val := enc v } : MapEntry).key = e'.key := fun e' he' => by rw [hj'] at he'; cases he'; exact hke.symm
    refine ⟨{ w with heap := w.heap.setIfInBounds B (.map (es.modify j fun e => { e with key := key x, val := enc v }) c) }, by simp [Instr.mapUpdate, run_underlying ht, MapKept.run_getObj_map h0, hk.chk, hf, hj', hke, hk.stays, MapKept.run_setObj_map _ h0, Result.andThen],
      ⟨_, c, (MapKept.heap_set h0).1, stamped_modify hs _ _ (fun _ _ => rfl) (fun e' _ he' => hkey e' he'), ?_, ?_⟩, set_keep h0, by simp⟩
    · intro e1 he1
      obtain ⟨i, hi⟩ := List.mem_iff_getElem?.1 he1
      rw [Array.getElem?_toList, Array.getElem?_modify] at hi
      split at hi
      · rename_i hij
        subst hij
        rw [hj'] at hi
        injection hi with hi
        subst hi
        exact ⟨x, v, rfl, rfl, by simp [updG]⟩
      · rename_i hij
        have hm : e1 ∈ es.toList := List.mem_of_getElem? (by rw [Array.getElem?_toList]; exact hi)
        obtain ⟨y, u, hy, hu, hfy⟩ := h1 e1 hm
        refine ⟨y, u, hy, hu, ?_⟩
        have : y ≠ x := by
          intro hyx
          have hnd := hs.2.2
          have hi1 : (es.toList.map (·.key))[i]? = some (key x) := by rw [List.getElem?_map, Array.getElem?_toList, hi]; simp [hy, hyx]
          have hj1 : (es.toList.map (·.key))[j]? = some (key x) := by rw [List.getElem?_map, hj]; simp [hke]
          obtain ⟨li, gi⟩ := List.getElem?_eq_some_iff.1 hi1
          obtain ⟨lj, gj⟩ := List.getElem?_eq_some_iff.1 hj1
          exact hij (List.getElem_inj hnd |>.1 (gj.trans gi.symm))
        simp [updG, this, hfy]
    · intro y u hyu
      have hmem : ∀ e0 ∈ es.toList, ∃ e1 ∈ (es.modify j fun e => { e with key := key x, val := enc v }).toList, e1.key = e0.key := by
        intro e0 he0
        have hmk := modify_keys j (fun e : MapEntry => { e with key := key x, val := enc v }) hkey
        have : e0.key ∈ es.toList.map (·.key) := List.mem_map.2 ⟨e0, he0, rfl⟩
        rw [← hmk] at this
        obtain ⟨e1, h3, h4⟩ := List.mem_map.1 this
        exact ⟨e1, h3, h4⟩
      by_cases hyx : y = x
      · subst hyx
        obtain ⟨e1, h3, h4⟩ := hmem en (List.mem_of_getElem? hj)
        exact ⟨e1, h3, h4.trans hke⟩
      · obtain ⟨e0, he0, hk0⟩ := h2 y u (by simpa [updG, hyx] using hyu)
        obtain ⟨e1, h3, h4⟩ := hmem e0 he0
        exact ⟨e1, h3, h4.trans hk0⟩
end
end Go.Proofs.Mine
