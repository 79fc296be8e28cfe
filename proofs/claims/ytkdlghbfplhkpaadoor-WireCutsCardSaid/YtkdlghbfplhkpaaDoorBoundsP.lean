/- The walk of WireBounds. -/
import Derived.Test.YtkdlghbfplhkpaaDoorMsgW
import Derived.Test.YtkdlghbfplhkpaaDoorCrcW
set_option linter.unusedVariables false
set_option linter.unusedSimpArgs false
namespace Go.Proofs.YtkdlghbfplhkpaaDoor
open Go.RowKit Go.Proofs.YtkdlghbfplhkpaaDoorW.PrintWords Go.Proofs.Mine

/-- A piece of the code that ends as it should. -/
def Norm (R : Act → World → Prop) : Exit → Act → World → Prop
  | .normal, a, w => R a w
  | _, _, _ => False
theorem wp_norm {P : Program} {s : Code} {K : Act → World → Prop} {Q' : Exit → Act → World → Prop} {a : Act} {w : World} (R : Act → World → Prop)
    (first : s.wp P (Norm R) a w) (rest : ∀ a' w', R a' w' → K a' w') : s.wp P (Exit.then K Q') a w := by
  refine wp_mono first ?_
  intro e a' w' h
  cases e with
  | normal => exact rest _ _ h
  | exit k => exact h.elim
  | goto l => exact h.elim
  | ret => exact h.elim
  | panic ch => exact h.elim
  | outgrown => exact h.elim
theorem info3 : (Tryd.prog.info? 3).map (fun i => (i.zero, i.size, i.bytes)) = some (some (.int .i64 0), 1, 8) := by kernel_rfl
def zeroE : Value := .agg #[.int .i64 0, .int .i64 0, .int .i64 0, .string ByteArray.empty, .slice none 0 0, .int .i64 0]
theorem info27 : (Tryd.prog.info? 27).map (fun i => (i.zero, i.size, i.bytes)) = some (some zeroE, 6, 72) := by kernel_rfl
theorem made_list (k : IntKind) (m : Nat) : (madeCells #[Value.int k 0] m).toList = nums k (List.replicate m 0) := by
  apply List.ext_getElem
  · simp [nums, madeCells]
  · intro i h1 h2
    simp [nums, madeCells, Nat.mod_one]
/-- make([]byte, n), make([]int, n), make([]Entry, n), laid ahead of a walk; what they hold. -/
def by_C (n : Nat) : Array Value := madeCells #[.int .u8 0] n
def in_C (n : Nat) : Array Value := madeCells #[.int .i64 0] n
def en_C (n : Nat) : Array Value := madeCells zeroE.cells (n * 6)
theorem mk_by (x : Int) (n : Nat) (hx : x = (n : Int)) (hn : n ≤ 1000) : ∀ W : World, (Instr.makeSlice 24 (.int .i64 x) (.int .i64 x)).run Tryd.prog W = .ok (.slice (some ⟨W.heap.size, 0, none⟩) n n) (W.alloc (.cells (by_C n) 5)) := by
  subst hx; exact print_make (P := Tryd.prog) 24 5 .u8 1 Tryd.underlying24 info5 (by decide) n (by omega)
theorem mk_in (x : Int) (n : Nat) (hx : x = (n : Int)) (hn : n ≤ 1000) : ∀ W : World, (Instr.makeSlice 25 (.int .i64 x) (.int .i64 x)).run Tryd.prog W = .ok (.slice (some ⟨W.heap.size, 0, none⟩) n n) (W.alloc (.cells (in_C n) 3)) := by
  subst hx; exact print_make (P := Tryd.prog) 25 3 .i64 8 Tryd.underlying25 info3 (by decide) n (by omega)
theorem mk_en (x : Int) (n : Nat) (hx : x = (n : Int)) (hn : n ≤ 1000) : ∀ W : World, (Instr.makeSlice 28 (.int .i64 x) (.int .i64 x)).run Tryd.prog W = .ok (.slice (some ⟨W.heap.size, 0, none⟩) n n) (W.alloc (.cells (en_C n) 27)) := by
  intro W
  subst hx
  obtain ⟨i0, hi, hzz⟩ := Option.map_eq_some_iff.1 info27
  simp only [Prod.mk.injEq] at hzz
  obtain ⟨hz0, hz1, hz2⟩ := hzz
  have h := run_make (P := Tryd.prog) W 28 27 i0 zeroE Tryd.underlying28 hi hz0 .i64 .i64 n n (by omega) (by omega) (by rw [hz2]; omega) (by omega)
  rw [hz1, Int.toNat_natCast] at h
  exact h
theorem by_str {W : World} {g n : Nat} (h : W.heap[g]? = some (.cells (by_C n) 5 (0, 0))) (hn : n ≤ 1000) :
    (convert 24 9 (.slice (some ⟨g, 0, none⟩) n n)).run Tryd.prog W = .ok (.string (strOfNums (List.replicate n 0))) W :=
  own_string (P := Tryd.prog) (base := 0) (e' := 5) Tryd.underlying24 Tryd.underlying5 Tryd.underlying9 ⟨by simp [nums], .inr ⟨g, n, _, rfl, Nat.zero_le _, h, Nat.le_refl _, by simp only [maxLen]; omega, by rw [by_C, size_madeCells, Nat.mul_one], by rw [by_C, made_list, List.take_of_length_le (by simp [nums])]⟩⟩
theorem in_reads {W : World} {g n : Nat} (h : W.heap[g]? = some (.cells (in_C n) 3 (0, 0))) (hn : n ≤ 1000) : ReadsInt W .i64 (some ⟨g, 0, none⟩) (List.replicate n (0 : Int)).length (List.replicate n 0) := by
  rw [List.length_replicate]
  exact own_reads' (base := 0) (c := n) (e := 3) ⟨by simp [nums], .inr ⟨g, n, _, rfl, Nat.zero_le _, h, Nat.le_refl _, by simp only [maxLen]; omega, by rw [in_C, size_madeCells, Nat.mul_one], by rw [in_C, made_list, List.take_of_length_le (by simp [nums])]⟩⟩
def ent0 : Ent := ⟨0, 0, 0, ByteArray.empty, [], 0⟩
theorem en_reads {W : World} {g n : Nat} (h : W.heap[g]? = some (.cells (en_C n) 27 (0, 0))) (hn : n ≤ 1000) : entK.C W (some ⟨g, 0, none⟩) (List.replicate n ent0).length (List.replicate n ent0) := by
  refine ⟨rfl, by rw [List.length_replicate]; omega, fun _ => ⟨_, rfl, fun i x hx => ?_⟩⟩
  obtain ⟨hi, hx⟩ := List.getElem?_eq_some_iff.1 hx
  rw [List.length_replicate] at hi
  rw [List.getElem_replicate] at hx
  subst hx
  refine ⟨ent0.cells (.slice none 0 0), rfl, ⟨none, 0, rfl, Nat.le_refl _, rfl, by decide, fun h => absurd h (by decide)⟩, fun j u hu => ?_⟩
  have hj : j < 6 := (List.getElem?_eq_some_iff.1 hu).1
  have ha : (⟨g, 0, none⟩ : Addr).add (i * entK.sz + j) = ⟨g, i * 6 + j, none⟩ := by
    show (⟨g, 0, none⟩ : Addr).add (i * 6 + j) = _
    unfold Addr.add; split <;> simp_all
  rw [ha, cell_of_row W g (i * 6 + j) _ 27 (0, 0) h, ← hu]
  unfold en_C madeCells
  have hlt : i * 6 + j < n * 6 := by omega
  rw [Array.getElem?_map, Array.getElem?_range]
  simp only [hlt, if_true, Option.map_some]
  have hm : (i * 6 + j) % zeroE.cells.size = j := by
    show (i * 6 + j) % 6 = j
    omega
  rw [hm]
  match j, hj with
  | 0, _ => rfl
  | 1, _ => rfl
  | 2, _ => rfl
  | 3, _ => rfl
  | 4, _ => rfl
  | 5, _ => rfl
theorem encE (x : Ent) (n : Nat) (hn : n = x.mem.length) (A : Option Addr) (cap : Nat) (er : Int) (he : entE x = er) (w : World) (hg0 : Laid w) (hr : ReadsInt w .i64 A x.mem.length x.mem) (hl : x.data.size + 8 * x.mem.length ≤ 600000) :
    Calls Tryd.prog 8 #[.agg #[.int .i64 x.kd, .int .i64 x.c, .int .i64 x.q, .string x.data, .slice A n cap, .int .i64 x.dst]] w fun r w' => ∃ v, r = .returned (.tuple #[v, .int .i64 er]) ∧ Below w.heap.size w w' := by
  subst hn he
  refine (encEntry_any x A cap w hg0 hr hl).mono ?_
  rintro r w' ⟨v, rfl, hB, _, _⟩
  exact ⟨v, rfl, hB⟩
theorem encM (m : Msg) (nt ne no nn : Nat) (ht : nt = m.terms.length) (hne : ne = m.ents.length) (ho : no = m.old.length) (hn : nn = m.new.length) (At Ae Ao An : Option Addr) (ct ce co cn : Nat) (er : Int) (he : msgE m = er) (w : World) (hg0 : Laid w) (hm : MsgIs w m At Ae Ao An) :
    Calls Tryd.prog 9 #[.agg #[.int .i64 m.fr, .int .i64 m.tto, .int .i64 m.gen, .int .i64 m.kd, .int .i64 m.term, .int .i64 m.index, .int .i64 m.last, .int .i64 m.commit, .bool m.yes, .slice At nt ct, .slice Ae ne ce, .slice Ao no co, .slice An nn cn]] w fun r w' => ∃ v, r = .returned (.tuple #[v, .int .i64 er]) ∧ Below w.heap.size w w' := by
  subst ht hne ho hn he
  refine (encMsg_any m At Ae Ao An ct ce co cn w hg0 hm).mono ?_
  rintro r w' ⟨v, rfl, hB, _, _⟩
  exact ⟨v, rfl, hB⟩
theorem entsE_zero (er : Int) (n : Nat) : entsE er (List.replicate n ent0) = er := by
  induction n with
  | zero => rfl
  | succ n ih =>
    rw [List.replicate_succ, entsE, List.foldl_cons]
    have h0 : orE er (entE ent0) = er := by
      have : entE ent0 = 0 := by decide
      rw [this, orE_zero]
    rw [h0]; exact ih
theorem entE_of (kd dst : Int) (Z : ByteArray) (n : Nat) : entE ⟨kd, 0, 0, Z, List.replicate n 0, dst⟩ = orE (orE (orE (kindsE kd 0 4) (textE Z)) (manyE n 9)) (kindsE dst 0 2) := by
  simp [entE]
theorem msgE_of (kd : Int) (n k p : Nat) : msgE ⟨0, 0, 0, kd, 0, 0, 0, 0, false, List.replicate n 0, List.replicate k ent0, [], List.replicate p 0⟩ = orE (orE (orE (kindsE kd 1 15) (manyE n 64)) (manyE k 64)) (manyE p 9) := by
  have h9 : manyE 0 9 = 0 := by decide
  simp [msgE, msgHE, entsE_zero, h9, orE_zero]
theorem no_ints (W : World) : ReadsInt W .i64 none ([] : List Int).length [] := ⟨rfl, by decide, fun h => absurd h (by decide)⟩
theorem isMsg {W : World} {t g : Nat} (kd : Int) (n k : Nat) (ht : W.heap[t]? = some (.cells (in_C n) 3 (0, 0))) (hg : W.heap[g]? = some (.cells (en_C k) 27 (0, 0))) (hn : n ≤ 200) (hk : k ≤ 200) :
    MsgIs W ⟨0, 0, 0, kd, 0, 0, 0, 0, false, List.replicate n 0, List.replicate k ent0, [], []⟩ (some ⟨t, 0, none⟩) (some ⟨g, 0, none⟩) none none where
  terms := in_reads ht (by omega)
  ents := en_reads hg (by omega)
  old := no_ints W
  new := no_ints W
  lt := by show (List.replicate n (0 : Int)).length ≤ 1000; rw [List.length_replicate]; omega
  le := by show (List.replicate k ent0).length ≤ 200; rw [List.length_replicate]; omega
  lo := show 0 ≤ 1000 by decide
  ln := show 0 ≤ 1000 by decide
  few := fun x hx => by
    obtain ⟨_, rfl⟩ := List.mem_replicate.1 hx
    exact ⟨by decide, by decide⟩
theorem kindsE_in {n f t : Int} (h1 : f ≤ n) (h2 : n ≤ t) : kindsE n f t = 0 := if_neg (by omega)
theorem kindsE_out {n f t : Int} (h : n < f ∨ t < n) : kindsE n f t = 3 := if_pos h
theorem manyE_in {n t : Int} (h : n ≤ t) : manyE n t = 0 := if_neg (by omega)
theorem manyE_out {n t : Int} (h : t < n) : manyE n t = 4 := if_pos h
theorem textE_in {s : ByteArray} (h : s.size ≤ 16) : textE s = 0 := if_neg (by omega)
theorem textE_out {s : ByteArray} (h : 16 < s.size) : textE s = 5 := if_pos (by omega)
theorem eight_ways (x : Int) : x % 8 = 0 ∨ x % 8 = 1 ∨ x % 8 = 2 ∨ x % 8 = 3 ∨ x % 8 = 4 ∨ x % 8 = 5 ∨ x % 8 = 6 ∨ x % 8 = 7 := by omega
theorem st_keep (w : World) (E i : Nat) (v : Value) : Keep (fun k => k = E) w (w.setCell ⟨E, i, none⟩ v) := (Keep.refl _ _).setCell _ _ (.inl rfl)
theorem bel_set {w w1 : World} {E i : Nat} {v : Value} (h : Below w.heap.size w w1) (hE : w.heap.size ≤ E) : Below w.heap.size w (w1.setCell ⟨E, i, none⟩ v) :=
  ((Keep.of_below h (fun k => w.heap.size ≤ k)).setCell _ _ (.inl hE)).to_below (Nat.le_refl _) (fun _ h => h)
theorem str_size (n : Nat) : (strOfNums (List.replicate n 0)).size = n := by
  rw [strOfNums_size, List.length_replicate]
theorem ne_blk {W : World} {m E : Nat} {C C' : Array Value} {t t' : TypeId} (h : W.heap[m]? = some (.cells C t (0, 0))) (h' : W.heap[E]? = some (.cells C' t' (0, 0))) (hne : t ≠ t') : m ≠ E := by
  rintro rfl
  rw [h] at h'
  injection h' with h'
  injection h' with _ h2 _
  exact hne h2
theorem laid_keep {w w1 : World} {E : Nat} (hg : Laid w) (k : Keep (fun k => k = E) w w1) (hE : 0 < E) : Laid w1 := k.cell hg (by show ¬ (0 = E); omega)
theorem laid_pos {w : World} (hg : Laid w) : 0 < w.heap.size := World.block_lt_of_cell? w ⟨0, 0, none⟩ hg
theorem encC (n : Nat) (A : Option Addr) (cap : Nat) (er : Int) (he : orE (manyE 0 9) (manyE n 9) = er) (w : World) (hg0 : Laid w) (hr : ReadsInt w .i64 A (List.replicate n (0 : Int)).length (List.replicate n 0)) (hl : n ≤ 1000) :
    Calls Tryd.prog 10 #[.agg #[.slice none 0 0, .slice A n cap]] w fun r w' => ∃ v, r = .returned (.tuple #[v, .int .i64 er]) ∧ Below w.heap.size w w' := by
  subst he
  have h := encConfig_any none A 0 cap [] (List.replicate n 0) w hg0 (no_ints w) hr (by rw [List.length_replicate]; simp only [List.length_nil]; omega)
  rw [List.length_replicate] at h
  refine h.mono ?_
  rintro r w' ⟨v, rfl, hB, _, _⟩
  exact ⟨v, rfl, hB⟩
theorem bel_al {w w1 : World} (h : Below w.heap.size w w1) (o : Obj) : Below w.heap.size w (w1.alloc o) := h.alloc h.size o
end Go.Proofs.YtkdlghbfplhkpaaDoor
