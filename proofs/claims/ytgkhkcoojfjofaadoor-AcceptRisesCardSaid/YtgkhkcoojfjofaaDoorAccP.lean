/- Votes as they are read; what is picked. -/
import Derived.Test.YtgkhkcoojfjofaaDoorProg
import Derived.Test.YtgkhkcoojfjofaaDoorWWords
import Derived.Test.YtgkhkcoojfjofaaDoorMem
import Derived.Test.YtgkhkcoojfjofaaDoorRowF
import Derived.Test.YtgkhkcoojfjofaaDoorOpen
import Derived.WalkSpells
import Derived.WalkLawsBesides
import Derived.Lib.Hide
import Derived.Deep.QuietTactic
import Derived.BigQuiet
set_option linter.unusedVariables false
set_option linter.unusedSimpArgs false
namespace Go.Proofs.YtgkhkcoojfjofaaDoor
open Go.RowKit Go.Proofs.YtgkhkcoojfjofaaDoorW.PrintWords Go.Proofs.Mine

/-- A vote. -/
structure Vo where
  s : Int
  b : Int
  kd : Int
  c : Int
  q : Int
  data : ByteArray
  mem : List Int
  dst : Int
def Vo.cells (x : Vo) (v : Value) : List Value := [.int .i64 x.s, .int .i64 x.b, .int .i64 x.kd, .int .i64 x.c, .int .i64 x.q, .string x.data, v, .int .i64 x.dst]
theorem Vo.one {x : Vo} {v : Value} (h : v.oneCell' = true) : ∀ u ∈ x.cells v, u.oneCell' = true := by
  intro u hu
  simp only [Vo.cells, List.mem_cons, List.not_mem_nil, or_false] at hu
  rcases hu with rfl | rfl | rfl | rfl | rfl | rfl | rfl | rfl <;> first | rfl | exact h
def voK : Kd Vo where
  sz := 8
  E := [3]
  K := fun w x cs => ∃ A c, cs = x.cells (.slice A x.mem.length c) ∧ x.mem.length ≤ c ∧ ReadsInt w .i64 A x.mem.length x.mem
  M := fun w base ok x cs => ∃ v, cs = x.cells v ∧ w.ownsRow base 3 1 v x.mem.length (nums .i64 x.mem) ∧ ∀ k, v.ownBlock = some k → ok k
  K_len := by rintro w x cs ⟨A, c, rfl, _⟩; rfl
  K_one := by rintro w x cs ⟨A, c, rfl, _⟩; exact Vo.one rfl
  K_below := by rintro w w1 x cs hb ⟨A, c, rfl, h1, h2⟩; exact ⟨A, c, rfl, h1, h2.below hb⟩
  K_of_M := by
    rintro w base ok x cs ⟨v, rfl, ho, _⟩
    obtain ⟨A, c, rfl, hr⟩ := own_reads ho
    refine ⟨A, c, rfl, ?_, hr⟩
    rcases ho.2 with ⟨h, h2⟩ | ⟨g, cap, cur, h, _, _, h1, _⟩
    · rw [h2]; omega
    · injection h with _ _ h3; omega
  M_mono := by rintro w base ok ok' x cs hk ⟨v, rfl, ho, h⟩; exact ⟨v, rfl, ho, fun k hk' => hk k (h k hk')⟩
  M_bound := by
    rintro w base ok x cs ⟨v, rfl, ho, h⟩
    exact ⟨v, rfl, ho, fun k hk => ⟨h k hk, own_base ho k hk, own_lt ho k hk, 3, by simp, own_typed ho k hk⟩⟩
  M_move := by rintro w w1 base ok x cs hm ⟨v, rfl, ho, h⟩; exact ⟨v, rfl, own_move ho (fun k hk => hm k (h k hk)), h⟩
  M_lower := by rintro w base base' ok x cs hb ⟨v, rfl, ho, h⟩; exact ⟨v, rfl, own_less ho hb, h⟩
/-- A vote as it lies: where its members are. -/
structure Vh where
  s : Int
  b : Int
  kd : Int
  c : Int
  q : Int
  data : ByteArray
  A : Option Addr
  cap : Nat
  mem : List Int
  dst : Int
def Vh.cells (x : Vh) : List Value := [.int .i64 x.s, .int .i64 x.b, .int .i64 x.kd, .int .i64 x.c, .int .i64 x.q, .string x.data, .slice x.A x.mem.length x.cap, .int .i64 x.dst]
def Vh.ent (x : Vh) : Value := .agg #[.int .i64 x.kd, .int .i64 x.c, .int .i64 x.q, .string x.data, .slice x.A x.mem.length x.cap, .int .i64 x.dst]
def vh0 : Vh := ⟨0, 0, 0, 0, 0, ByteArray.empty, none, 0, [], 0⟩
abbrev VRow (w : World) (A : Option Addr) (n : Nat) (hs : List Vh) : Prop := ReadsRow (fun (x : Vh) cs => cs = x.cells) 8 w A n hs
def VIn (w : World) (hs : List Vh) : Prop := ∀ x ∈ hs, ReadsInt w .i64 x.A x.mem.length x.mem
theorem VRow.below {w w1 : World} {A : Option Addr} {n : Nat} {hs : List Vh} (h : VRow w A n hs) (hB : Below w.heap.size w w1) : VRow w1 A n hs := ReadsRow.imp_ h hB (fun _ _ h => h)
theorem VIn.below {w w1 : World} {hs : List Vh} (h : VIn w hs) (hB : Below w.heap.size w w1) : VIn w1 hs := fun x hx => (h x hx).below hB
theorem vlist_of {α : Type} (n : Nat) (P : Nat → α → Prop) (h : ∀ j, j < n → ∃ y, P j y) : ∃ ys : List α, ys.length = n ∧ ∀ j y, ys[j]? = some y → P j y := by
  induction n with
  | zero => exact ⟨[], rfl, fun j y hy => by simp at hy⟩
  | succ n ih =>
    obtain ⟨ys, h1, h2⟩ := ih (fun j hj => h j (by omega))
    obtain ⟨y, hy⟩ := h n (by omega)
    refine ⟨ys ++ [y], by simp [h1], fun j z hz => ?_⟩
    rcases Nat.lt_or_ge j ys.length with hj | hj
    · rw [List.getElem?_append_left hj] at hz
      exact h2 j z hz
    · rw [List.getElem?_append_right hj] at hz
      have hj2 : j = ys.length := by
        have := (List.getElem?_eq_some_iff.1 hz).1
        simp at this; omega
      subst hj2
      simp at hz
      subst hz
      rw [h1]; exact hy
theorem vh_of {w : World} {A : Option Addr} {n : Nat} {xs : List Vo} (h : voK.C w A n xs) : ∃ hs : List Vh, VRow w A n hs ∧ VIn w hs := by
  have hn := h.1
  have key : ∀ j, j < n → ∃ y : Vh, ReadsInt w .i64 y.A y.mem.length y.mem ∧ ∀ ad, A = some ad → ∀ i u, y.cells[i]? = some u → w.cell? (ad.add (j * 8 + i)) = some u := by
    intro j hj
    obtain ⟨ad, hA, hc⟩ := h.2.2 (by omega)
    have hx : xs[j]? = some xs[j] := List.getElem?_eq_getElem (by omega)
    obtain ⟨cs, _, ⟨B, c, rfl, hle, hR⟩, hcell⟩ := hc j _ hx
    refine ⟨⟨xs[j].s, xs[j].b, xs[j].kd, xs[j].c, xs[j].q, xs[j].data, B, c, xs[j].mem, xs[j].dst⟩, hR, fun ad' e i u hu => ?_⟩
    rw [hA] at e
    injection e with e
    subst e
    exact hcell i u hu
  obtain ⟨hs, h1, h2⟩ := vlist_of n _ key
  refine ⟨hs, ⟨h1, h.2.1, fun hp => ?_⟩, fun y hy => ?_⟩
  · obtain ⟨ad, hA, _⟩ := h.2.2 hp
    exact ⟨ad, hA, fun j y hy => ⟨y.cells, rfl, rfl, (h2 j y hy).2 ad hA⟩⟩
  · obtain ⟨j, hj⟩ := List.mem_iff_getElem?.1 hy
    exact (h2 j y hj).1
theorem vadd_add (a : Addr) (i j : Nat) : (a.add i).add j = a.add (i + j) := by
  unfold Addr.add
  by_cases h1 : i = 0 <;> by_cases h2 : j = 0 <;> simp [h1, h2, Nat.add_assoc]
/-- A vote's eight cells at an address. -/
def VAt (w : World) (a : Addr) (x : Vh) : Prop :=
  w.cell? a = some (.int .i64 x.s) ∧ w.cell? ⟨a.block, a.off + 1, none⟩ = some (.int .i64 x.b) ∧ w.cell? ⟨a.block, a.off + 2, none⟩ = some (.int .i64 x.kd) ∧ w.cell? ⟨a.block, a.off + 3, none⟩ = some (.int .i64 x.c) ∧ w.cell? ⟨a.block, a.off + 4, none⟩ = some (.int .i64 x.q) ∧ w.cell? ⟨a.block, a.off + 5, none⟩ = some (.string x.data) ∧ w.cell? ⟨a.block, a.off + 6, none⟩ = some (.slice x.A x.mem.length x.cap) ∧ w.cell? ⟨a.block, a.off + 7, none⟩ = some (.int .i64 x.dst)
theorem VAt.below {w w1 : World} {a : Addr} {x : Vh} (h : VAt w a x) (hB : Below w.heap.size w w1) : VAt w1 a x :=
  ⟨pw_cell_below hB h.1, pw_cell_below hB h.2.1, pw_cell_below hB h.2.2.1, pw_cell_below hB h.2.2.2.1, pw_cell_below hB h.2.2.2.2.1, pw_cell_below hB h.2.2.2.2.2.1, pw_cell_below hB h.2.2.2.2.2.2.1, pw_cell_below hB h.2.2.2.2.2.2.2⟩
theorem vh_at {w : World} {A : Option Addr} {n : Nat} {hs : List Vh} (h : VRow w A n hs) {i : Nat} {x : Vh} (hx : hs[i]? = some x) : ∃ ad, A = some ad ∧ VAt w (ad.add (i * 8)) x := by
  obtain ⟨hl, _⟩ := List.getElem?_eq_some_iff.1 hx
  obtain ⟨ad, hA, hc⟩ := h.2.2 (by have := h.1; omega)
  obtain ⟨cs, _, rfl, h3⟩ := hc i x hx
  have h4 : ∀ j u, x.cells[j]? = some u → w.cell? ((ad.add (i * 8)).add j) = some u := fun j u hu => by
    rw [vadd_add]
    exact h3 j u hu
  refine ⟨ad, hA, by simpa [Addr.add] using h4 0 _ rfl, ?_, ?_, ?_, ?_, ?_, ?_, ?_⟩
  · simpa [Addr.add] using h4 1 _ rfl
  · simpa [Addr.add] using h4 2 _ rfl
  · simpa [Addr.add] using h4 3 _ rfl
  · simpa [Addr.add] using h4 4 _ rfl
  · simpa [Addr.add] using h4 5 _ rfl
  · simpa [Addr.add] using h4 6 _ rfl
  · simpa [Addr.add] using h4 7 _ rfl
/-- Has x a greater ballot than what was picked? -/
def beats (l : List Vh) (p : Option Nat) (x : Vh) : Bool := match p with
  | none => true
  | some j => match l[j]? with
    | none => true
    | some y => decide (y.b < x.b)
/-- What is picked of the first k votes: where it stands. -/
def pk (l : List Vh) (slot : Int) : Nat → Option Nat
  | 0 => none
  | k + 1 => match l[k]? with
    | none => pk l slot k
    | some x => if x.s = slot ∧ beats l (pk l slot k) x = true then some k else pk l slot k
theorem pk_lt (l : List Vh) (slot : Int) (k j : Nat) (h : pk l slot k = some j) : j < k ∧ j < l.length := by
  induction k with
  | zero => cases h
  | succ k ih =>
    unfold pk at h
    cases hx : l[k]? with
    | none => rw [hx] at h; have := ih h; omega
    | some x =>
      rw [hx] at h
      dsimp only at h
      split at h
      · injection h with h
        have := (List.getElem?_eq_some_iff.1 hx).1
        omega
      · have := ih h; omega
theorem pk_step {l : List Vh} {slot : Int} {k : Nat} {x : Vh} (hx : l[k]? = some x) : pk l slot (k + 1) = if x.s = slot ∧ beats l (pk l slot k) x = true then some k else pk l slot k := by
  show (match l[k]? with
    | none => pk l slot k
    | some x => if x.s = slot ∧ beats l (pk l slot k) x = true then some k else pk l slot k) = _
  rw [hx]
theorem pk_no {l : List Vh} {slot : Int} {k : Nat} {x : Vh} (hx : l[k]? = some x) (h : x.s ≠ slot) : pk l slot (k + 1) = pk l slot k := by
  rw [pk_step hx, if_neg (fun e => h e.1)]
theorem pk_first {l : List Vh} {slot : Int} {k : Nat} {x : Vh} (hx : l[k]? = some x) (h : x.s = slot) (hp : pk l slot k = none) : pk l slot (k + 1) = some k := by
  rw [pk_step hx, hp, if_pos ⟨h, rfl⟩]
theorem pk_more {l : List Vh} {slot : Int} {k j : Nat} {x y : Vh} (hx : l[k]? = some x) (h : x.s = slot) (hp : pk l slot k = some j) (hy : l[j]? = some y) (hb : y.b < x.b) : pk l slot (k + 1) = some k := by
  rw [pk_step hx, hp, if_pos ⟨h, by unfold beats; dsimp only; rw [hy]; exact decide_eq_true hb⟩]
theorem pk_stays {l : List Vh} {slot : Int} {k j : Nat} {x y : Vh} (hx : l[k]? = some x) (hp : pk l slot k = some j) (hy : l[j]? = some y) (hb : ¬ y.b < x.b) : pk l slot (k + 1) = some j := by
  rw [pk_step hx, hp, if_neg]
  intro e
  have h2 := e.2
  unfold beats at h2
  dsimp only at h2
  rw [hy] at h2
  exact hb (of_decide_eq_true h2)
end Go.Proofs.YtgkhkcoojfjofaaDoor
