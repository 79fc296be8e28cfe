/- Rows of the call's own whose elements are told by their cells; storing into them, clearing. No program in sight. -/
import Derived.Test.YtkdlghbfplhkpaaDoorMem
import Derived.Laws.IdiomCopy
import Derived.Lib.SliceRun
import Derived.Deep.Upon
set_option linter.unusedVariables false
set_option linter.unusedSimpArgs false
namespace Go.Proofs.Mine
open Go.RowKit Go.Proofs.YtkdlghbfplhkpaaDoorW.PrintWords

/-- A kind whose cells are told by the value alone. -/
def Kd.fixed {α : Type} (enc : α → List Value) (n : Nat) (hn : ∀ x, (enc x).length = n) (h1 : ∀ x, ∀ u ∈ enc x, u.oneCell' = true) : Kd α where
  sz := n
  E := []
  K := fun _ x cs => cs = enc x
  M := fun _ _ _ x cs => cs = enc x
  K_len := fun h => by rw [h]; exact hn _
  K_one := fun h => by rw [h]; exact h1 _
  K_below := fun _ h => h
  K_of_M := fun h => h
  M_mono := fun _ h => h
  M_bound := fun h => h
  M_move := fun _ h => h
  M_lower := fun _ h => h
section
variable {α : Type} {enc : α → List Value} {n : Nat}
theorem flat_length (hn : ∀ x, (enc x).length = n) (l : List α) : (l.flatMap enc).length = l.length * n := by
  induction l with
  | nil => simp
  | cons a l ih => rw [List.flatMap_cons, List.length_append, hn, ih, List.length_cons, Nat.add_mul]; omega
theorem flat_take (hn : ∀ x, (enc x).length = n) (l : List α) (k : Nat) : (l.flatMap enc).take (k * n) = (l.take k).flatMap enc := by
  induction l generalizing k with
  | nil => simp
  | cons a l ih =>
    cases k with
    | zero => simp
    | succ k => rw [List.flatMap_cons, List.take_append, hn, List.take_of_length_le (by rw [hn, Nat.succ_mul]; omega), Nat.succ_mul, Nat.add_sub_cancel, ih, List.take_succ_cons, List.flatMap_cons]
theorem flat_drop (hn : ∀ x, (enc x).length = n) (l : List α) (k : Nat) : (l.flatMap enc).drop (k * n) = (l.drop k).flatMap enc := by
  induction l generalizing k with
  | nil => simp
  | cons a l ih =>
    cases k with
    | zero => simp
    | succ k => rw [List.flatMap_cons, List.drop_append, hn, List.drop_of_length_le (by rw [hn, Nat.succ_mul]; omega), Nat.succ_mul, Nat.add_sub_cancel, ih, List.drop_succ_cons, List.nil_append]
theorem flat_get (hn : ∀ x, (enc x).length = n) (l : List α) (k : Nat) (x : α) (hk : l[k]? = some x) : ((l.flatMap enc).drop (k * n)).take n = enc x := by
  obtain ⟨hlt, hx⟩ := List.getElem?_eq_some_iff.1 hk
  rw [flat_drop hn, List.drop_eq_getElem_cons hlt, hx, List.flatMap_cons, List.take_append, hn, Nat.sub_self, List.take_zero, List.append_nil, List.take_of_length_le (by rw [hn]; omega)]
theorem reps_fixed (hn : ∀ x, (enc x).length = n) (l : List α) (cs : List Value) : Reps (fun x c => c = enc x) n l cs ↔ cs = l.flatMap enc := by
  constructor
  · rintro ⟨h1, h2⟩
    induction l generalizing cs with
    | nil => simpa using h1
    | cons a l ih =>
      have ha : cs.take n = enc a := by simpa using h2 0 a rfl
      have hl : cs.length = n + l.length * n := by rw [h1, List.length_cons, Nat.add_mul]; omega
      have hr := ih (cs.drop n) (by rw [List.length_drop, hl]; omega) (fun j p hp => by
        have := h2 (j + 1) p (by simpa using hp)
        rw [List.drop_drop]
        rwa [show (j + 1) * n = n + j * n from by rw [Nat.add_mul]; omega] at this)
      rw [List.flatMap_cons, ← ha, ← hr, List.take_append_drop]
  · rintro rfl
    exact ⟨flat_length hn l, fun j p hp => flat_get hn l j p hp⟩
/-- A row of such elements, laid open. -/
theorem fixR_iff {hn : ∀ x, (enc x).length = n} {h1 : ∀ x, ∀ u ∈ enc x, u.oneCell' = true} {e base : Nat} {w : World} {ok : Nat → Prop} {v : Value} {xs : List α} :
    (Kd.fixed enc n hn h1).R e w base ok v xs ↔ (v = .slice none 0 0 ∧ xs = []) ∨ ∃ g cap cur, v = .slice (some ⟨g, 0, none⟩) xs.length cap ∧ ok g ∧ base ≤ g ∧ w.heap[g]? = some (.cells cur e (0, 0)) ∧ xs.length ≤ cap ∧ cap ≤ maxLen ∧ cur.size = cap * n ∧ cur.toList.take (xs.length * n) = xs.flatMap enc := by
  constructor
  · rintro ⟨h0, inner, ⟨hl, ho⟩, hr⟩
    have hi : inner = xs.flatMap enc := (reps_fixed hn xs inner).1 hr
    subst hi
    rcases ho with ⟨rfl, hx⟩ | ⟨g, cap, cur, rfl, hb, hh, h2, h3, h4, h5⟩
    · exact .inl ⟨rfl, List.eq_nil_of_length_eq_zero hx⟩
    · exact .inr ⟨g, cap, cur, rfl, h0 g rfl, hb, hh, h2, h3, h4, h5⟩
  · rintro (⟨rfl, rfl⟩ | ⟨g, cap, cur, rfl, h0, hb, hh, h2, h3, h4, h5⟩)
    · exact Kd.R_nil _ _ _ _ _
    · exact ⟨fun k hk => by have : g = k := by simpa [Value.ownBlock] using hk
                            exact this ▸ h0, xs.flatMap enc, ⟨flat_length hn xs, .inr ⟨g, cap, cur, rfl, hb, hh, h2, h3, h4, h5⟩⟩, (reps_fixed hn xs _).2 rfl⟩
end

/-! ### cells stored into a block -/
theorem setCells_blk {t g : Nat} : ∀ (vs : List Value) (o : Nat) (w : World) (cur : Array Value), w.heap[g]? = some (.cells cur t (0, 0)) → o + vs.length ≤ cur.size →
    ∃ cur', (w.setCells g o vs).heap[g]? = some (.cells cur' t (0, 0)) ∧ cur'.size = cur.size ∧ cur'.toList = cur.toList.take o ++ vs ++ cur.toList.drop (o + vs.length)
  | [], o, w, cur, h, hs => ⟨cur, h, rfl, by simp⟩
  | v :: vs, o, w, cur, h, hs => by
    have hb := blk_set h o v
    simp only [List.length_cons] at hs
    obtain ⟨cur', h1, h2, h3⟩ := setCells_blk vs (o + 1) (w.setCell ⟨g, o, none⟩ v) _ hb (by simp; omega)
    refine ⟨cur', h1, by simpa using h2, ?_⟩
    rw [h3, Array.toList_setIfInBounds]
    have ho : o < cur.toList.length := by simp; omega
    rw [List.take_set, List.drop_set_of_lt (by omega), List.take_succ_eq_append_getElem ho, List.set_append_right _ _ (by simp; omega)]
    simp [Nat.min_eq_left (show o ≤ cur.size by omega), Nat.add_assoc, Nat.add_comm 1]
theorem setCells_size (g : Nat) : ∀ (vs : List Value) (o : Nat) (w : World), (w.setCells g o vs).heap.size = w.heap.size
  | [], _, _ => rfl
  | v :: vs, o, w => by
    rw [show w.setCells g o (v :: vs) = (w.setCell ⟨g, o, none⟩ v).setCells g (o + 1) vs from rfl, setCells_size]
    simp [World.setCell]
theorem Keep.setCells {w : World} {F : Nat → Prop} (g : Nat) : ∀ (vs : List Value) (o : Nat) (w1 : World), Keep F w w1 → (F g ∨ w.heap.size ≤ g) → Keep F w (w1.setCells g o vs)
  | [], _, _, h, _ => h
  | v :: vs, o, w1, h, hg => Keep.setCells g vs (o + 1) _ (h.setCell ⟨g, o, none⟩ v hg) hg
theorem run_clear_cells {P : Program} (w : World) (t e ty : TypeId) (z : Value) (ht : P.underlying t = some (.slice e)) (hv : ∀ w, (zeroValue e).run P w = .ok z w) (h1 : ∀ u ∈ z.cells.toList, u.oneCell' = true) (hz : 0 < z.cells.size) (a : Addr) (b o n c : Nat) (ha : 0 < n → a = ⟨b, o, none⟩)
    (hc : ∀ j, j < n * z.cells.size → (w.cell? ⟨b, o + j, none⟩).isSome = true) (hf : ∀ j, j < n * z.cells.size → w.frozen? ⟨b, o + j, none⟩ = false) :
    (Builtin.clear_ #[t] ty #[.slice (some a) n c]).run P w = .ok (.tuple #[]) (w.setCells b o (Builtin.zeroCells z.cells n).toList) := by
  have hl : (Builtin.zeroCells z.cells n).toList.length = n * z.cells.size := by simp [Builtin.zeroCells]
  cases n with
  | zero =>
    have : (Builtin.zeroCells z.cells 0).toList = [] := by simp [Builtin.zeroCells]
    rw [this]
    simp [Builtin.clear_, run_underlying ht, World.setCells]
  | succ m =>
    obtain rfl := ha (by omega)
    have hst := run_storeCells_cells (P := P) b o (Builtin.zeroCells z.cells (m + 1)).toList 0 w (by rw [hl]; simpa using hc) (by rw [hl]; simpa using hf) (by
      intro v hv'
      simp only [Builtin.zeroCells, Array.toList_map, List.mem_map, Array.toList_range, List.mem_range] at hv'
      obtain ⟨i, _, rfl⟩ := hv'
      have : i % z.cells.size < z.cells.size := Nat.mod_lt _ hz
      rw [getElem!_pos z.cells _ this]
      exact h1 _ (by simp))
    simp only [Nat.add_zero] at hst
    simp [Builtin.clear_, run_underlying ht, hv, hst]
/-- clear(s), for the walk. -/
theorem wpList_clear {P : Program} (w : World) {ops : Array Oper} {rest : List Oper} {o : Oper} {a : Act} {Q : Exit → Act → World → Prop}
    (hg : o.guard = none) (s : Operand) (t : TypeId) (hop : o.op = Op.call { callee := Callee.builtin Builtin.clear, args := #[s], argTypes := #[t] })
    (e : TypeId) (z : Value) (ht : P.underlying t = some (.slice e)) (hv : ∀ w, (zeroValue e).run P w = .ok z w) (h1 : ∀ u ∈ z.cells.toList, u.oneCell' = true) (hz : 0 < z.cells.size) (ad : Addr) (b off n c : Nat) (ha : 0 < n → ad = ⟨b, off, none⟩)
    (hs : a.eval s = .slice (some ad) n c)
    (hc : ∀ j, j < n * z.cells.size → (w.cell? ⟨b, off + j, none⟩).isSome = true) (hf : ∀ j, j < n * z.cells.size → w.frozen? ⟨b, off + j, none⟩ = false)
    (hK : wpList P ops Q rest (a.put o.dst (.tuple #[])) (w.setCells b off (Builtin.zeroCells z.cells n).toList)) :
    wpList P ops Q (o :: rest) a w := by
  refine wpList_plain hg fun K hK' => ?_
  have hrun := run_clear_cells (P := P) w t e o.type z ht hv h1 hz ad b off n c ha hc hf
  unfold Oper.wp
  simp [execOp, hop, resolve, invoke, builtin, hs, hrun, Result.andThen]
  exact hK' _ _ hK
end Go.Proofs.Mine
