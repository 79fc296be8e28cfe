/- What a client's table is in memory; what it says. -/
import Derived.Test.YtacbebkaammcnaaDoorProg
import Derived.Test.YtacbebkaammcnaaDoorMapG
import Derived.Test.YtacbebkaammcnaaDoorRowF
import Derived.WalkSpells
import Derived.WalkLawsBesides
import Derived.Lib.Hide
import Derived.Deep.QuietTactic
import Derived.BigQuiet
set_option linter.unusedVariables false
set_option linter.unusedSimpArgs false
namespace Go.Proofs.YtacbebkaammcnaaDoor
open Go.RowKit Go.Proofs.YtacbebkaammcnaaDoorW.PrintWords Go.Proofs.Mine

/-- An entry. -/
structure Ent where
  kd : Int
  c : Int
  q : Int
  data : ByteArray
  mem : List Int
  dst : Int
def Ent.cells (x : Ent) (v : Value) : List Value := [.int .i64 x.kd, .int .i64 x.c, .int .i64 x.q, .string x.data, v, .int .i64 x.dst]
def Ent.val (x : Ent) (v : Value) : Value := .agg #[.int .i64 x.kd, .int .i64 x.c, .int .i64 x.q, .string x.data, v, .int .i64 x.dst]
theorem Ent.one {x : Ent} {v : Value} (h : v.oneCell' = true) : ∀ u ∈ x.cells v, u.oneCell' = true := by
  intro u hu
  simp only [Ent.cells, List.mem_cons, List.not_mem_nil, or_false] at hu
  rcases hu with rfl | rfl | rfl | rfl | rfl | rfl <;> first | rfl | exact h
def entK : Kd Ent where
  sz := 6
  E := [3]
  K := fun w x cs => ∃ A c, cs = x.cells (.slice A x.mem.length c) ∧ x.mem.length ≤ c ∧ ReadsInt w .i64 A x.mem.length x.mem
  M := fun w base ok x cs => ∃ v, cs = x.cells v ∧ w.ownsRow base 3 1 v x.mem.length (nums .i64 x.mem) ∧ ∀ k, v.ownBlock = some k → ok k
  K_len := by rintro w x cs ⟨A, c, rfl, _⟩; rfl
  K_one := by rintro w x cs ⟨A, c, rfl, _⟩; exact Ent.one rfl
  K_below := by rintro w w1 x cs hb ⟨A, c, rfl, h1, h2⟩; exact ⟨A, c, rfl, h1, h2.below hb⟩
  K_of_M := by
    rintro w base ok x cs ⟨v, rfl, ho, _⟩
    obtain ⟨A, c, rfl, hr⟩ := own_reads ho
    refine ⟨A, c, rfl, ?_, hr⟩
    rcases ho.2 with ⟨h, h2⟩ | ⟨g, cap, cur, h, _, _, h1, _⟩
    · rw [h2]; omega
    · injection h with _ _ h3; omega
  M_mono := by rintro w base ok ok' x cs hk ⟨v, rfl, ho, h⟩; exact ⟨v, rfl, ho, fun k hk' => hk k (h k hk')⟩
  M_bound := by
    rintro w base ok x cs ⟨v, rfl, ho, h⟩
    exact ⟨v, rfl, ho, fun k hk => ⟨h k hk, own_base ho k hk, own_lt ho k hk, 3, by simp, own_typed ho k hk⟩⟩
  M_move := by rintro w w1 base ok x cs hm ⟨v, rfl, ho, h⟩; exact ⟨v, rfl, own_move ho (fun k hk => hm k (h k hk)), h⟩
  M_lower := by rintro w base base' ok x cs hb ⟨v, rfl, ho, h⟩; exact ⟨v, rfl, own_less ho hb, h⟩

/-- A table: what was placed; where each request stands; each client's greatest number. -/
structure TSt where
  l : List Ent
  pl : Int × Int → Option Int
  gr : Int → Option Int
def reqV (p : Int × Int) : Value := .agg #[.int .i64 p.1, .int .i64 p.2]
theorem req_equal (a b c d : Int) (w : World) (n : Nat) : (Op.equalIn (n + 2) 52 (reqV (a, b)) (reqV (c, d))).run Tryd.prog w = .ok (decide ((a, b) = (c, d))) w := by
  unfold reqV
  rw [run_equalIn_struct w (n + 1) 52 _ _ (by kernel_rfl) (by kernel_rfl)]
  have h3 : Tryd.prog.underlying 3 = some (.int .i64) := Tryd.underlying3
  have hp : ∀ (o : Nat) (x y : Int) (w : World), (part 3 #[.int .i64 x, .int .i64 y] o).run Tryd.prog w = (part 3 #[.int .i64 x, .int .i64 y] o).run Tryd.prog w := fun _ _ _ _ => rfl
  have p0 : ∀ (x y : Int) (w : World), (part 3 #[.int .i64 x, .int .i64 y] 0).run Tryd.prog w = .ok (.int .i64 x) w := fun _ _ _ => by kernel_rfl
  have p1 : ∀ (x y : Int) (w : World), (part 3 #[.int .i64 x, .int .i64 y] 1).run Tryd.prog w = .ok (.int .i64 y) w := fun _ _ _ => by kernel_rfl
  simp [Program.fieldsOf, Tryd.underlying52, Op.eqFields, p0, p1, run_equalIn_int w n 3 .i64 .i64 _ _ h3]
  by_cases h1 : a = c <;> by_cases h2 : b = d <;> simp [h1, h2]
theorem reqOk : KeyOk Tryd.prog 52 reqV where
  str := ⟨_, Tryd.underlying52⟩
  inj := by
    rintro ⟨a, b⟩ ⟨c, d⟩ h
    simp only [reqV, Value.agg.injEq, Array.mk.injEq, List.cons.injEq, Value.int.injEq, true_and, and_true] at h
    obtain ⟨h1, h2⟩ := h
    subst h1 h2; rfl
  chk := fun e x w => by kernel_rfl
  eq := by
    rintro ⟨a, b⟩ ⟨c, d⟩ w
    exact req_equal a b c d w 9998
  stays := fun x w => by simp [Instr.keyThatStays, Instr.sameBits, reqV]
def TableAt (w : World) (base : Nat) (F : Nat → Prop) (b : Nat) (s : TSt) : Prop :=
  F b ∧ (∀ k, F k → base ≤ k ∧ k < w.heap.size) ∧ ∃ vl B1 B2, w.heap[b]? = some (.cells #[vl, .map (some B1), .map (some B2)] 49 (0, 0)) ∧ entK.R 31 w base F vl s.l ∧ MapG reqV (Value.int .i64) w B1 s.pl ∧ MapI (Value.int .i64) w B2 s.gr ∧ F B1 ∧ F B2 ∧ B1 ≠ B2
def Table' (w : World) (base : Nat) (F : Nat → Prop) (b : Nat) (s' : TSt) (w' : World) : Prop :=
  ∃ F', TableAt w' base F' b s' ∧ (∀ k, F' k → F k ∨ w.heap.size ≤ k) ∧ Keep F w w'
theorem TableAt.keep {w w1 : World} {base b : Nat} {F G : Nat → Prop} {s : TSt} (h : TableAt w base F b s) (k : Keep G w w1) (hg : ∀ j, F j → ¬ G j) : TableAt w1 base F b s := by
  obtain ⟨h1, h2, vl, B1, B2, hb, hR, hM1, hM2, f1, f2, hne⟩ := h
  exact ⟨h1, fun j hj => ⟨(h2 j hj).1, Nat.lt_of_lt_of_le (h2 j hj).2 k.size⟩, vl, B1, B2, k.blk hb (hg b h1), k.R hR hg, hM1.move (k.block B1 hM1.lt (hg B1 f1)), hM2.move (k.block B2 hM2.lt (hg B2 f2)), f1, f2, hne⟩
theorem Table'.after {w W w2 : World} {base b : Nat} {F F1 : Nat → Prop} {s' : TSt} (hF1 : ∀ k, F1 k → F k ∨ w.heap.size ≤ k) (hK : Keep F w W) (h : Table' W base F1 b s' w2) : Table' w base F b s' w2 := by
  obtain ⟨F', h1, h2, h3⟩ := h
  refine ⟨F', h1, fun k hk => ?_, hK.trans h3 hF1⟩
  rcases h2 k hk with h | h
  · exact hF1 k h
  · exact .inr (Nat.le_trans hK.size h)
def plN (s : TSt) (c q : Int) : Int := (s.pl (c, q)).getD 0
def grN (s : TSt) (c : Int) : Int := (s.gr c).getD 0
def okPut (s : TSt) (x : Ent) : Bool := (x.kd == 1 || x.kd == 2 || x.kd == 3) && decide (1 ≤ x.c) && decide (1 ≤ x.q) && decide (grN s x.c < x.q)
def putT (s : TSt) (x : Ent) : TSt := { l := s.l ++ [x], pl := updG s.pl (x.c, x.q) ((s.l.length : Int) + 1), gr := updI s.gr x.c x.q }
def putS (s : TSt) (x : Ent) : TSt := if okPut s x then putT s x else s
def putN (s : TSt) (x : Ent) : Int := if okPut s x then (s.l.length : Int) + 1 else 0
/-- Why a request does not stand. -/
def askE (s : TSt) (c q : Int) : Int := if c < 1 ∨ q < 1 then 1 else if 0 < plN s c q then 0 else if q < grN s c then 19 else 2
def askN (s : TSt) (c q : Int) : Int := if askE s c q = 0 then plN s c q else 0
end Go.Proofs.YtacbebkaammcnaaDoor
