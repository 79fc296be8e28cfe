/- What holds between the rounds of TapePlays: plainly; a call as it is read. -/
import Derived.Test.YtjjlojaaefipmaaDoorRefC
import Derived.Test.YtjjlojaaefipmaaDoorStaysP
import Derived.Test.YtjjlojaaefipmaaDoorOpen
set_option linter.unusedVariables false
set_option linter.unusedSimpArgs false
namespace Go.Proofs.YtjjlojaaefipmaaDoor
open Go.RowKit Go.Proofs.YtjjlojaaefipmaaDoorW.PrintWords Go.Proofs.Mine
open Go.ChangeShapes Go.WideShapes Go.ChangeAt

/-- A call. -/
structure Cl where
  kd : Int
  n : Int
  b : List Int
def Cl.cells (x : Cl) (v : Value) : List Value := [.int .i64 x.kd, .int .i64 x.n, v]
theorem Cl.one {x : Cl} {v : Value} (h : v.oneCell' = true) : ∀ u ∈ x.cells v, u.oneCell' = true := by
  intro u hu
  simp only [Cl.cells, List.mem_cons, List.not_mem_nil, or_false] at hu
  rcases hu with rfl | rfl | rfl <;> first | rfl | exact h
def clK : Kd Cl where
  sz := 3
  E := [5]
  K := fun w x cs => ∃ A c, cs = x.cells (.slice A x.b.length c) ∧ x.n ≤ 9223372036854775807 ∧ ReadsInt w .u8 A x.b.length x.b
  M := fun w base ok x cs => ∃ v, cs = x.cells v ∧ x.n ≤ 9223372036854775807 ∧ w.ownsRow base 5 1 v x.b.length (nums .u8 x.b) ∧ ∀ k, v.ownBlock = some k → ok k
  K_len := by rintro w x cs ⟨A, c, rfl, _⟩; rfl
  K_one := by rintro w x cs ⟨A, c, rfl, _⟩; exact Cl.one rfl
  K_below := by rintro w w1 x cs hb ⟨A, c, rfl, h1, h2⟩; exact ⟨A, c, rfl, h1, h2.below hb⟩
  K_of_M := by
    rintro w base ok x cs ⟨v, rfl, hn, ho, _⟩
    obtain ⟨A, c, rfl, hr⟩ := own_reads ho
    exact ⟨A, c, rfl, hn, hr⟩
  M_mono := by rintro w base ok ok' x cs hk ⟨v, rfl, hn, ho, h⟩; exact ⟨v, rfl, hn, ho, fun k hk' => hk k (h k hk')⟩
  M_bound := by
    rintro w base ok x cs ⟨v, rfl, hn, ho, h⟩
    exact ⟨v, rfl, hn, ho, fun k hk => ⟨h k hk, own_base ho k hk, own_lt ho k hk, 5, by simp, own_typed ho k hk⟩⟩
  M_move := by rintro w w1 base ok x cs hm ⟨v, rfl, hn, ho, h⟩; exact ⟨v, rfl, hn, own_move ho (fun k hk => hm k (h k hk)), h⟩
  M_lower := by rintro w base base' ok x cs hb ⟨v, rfl, hn, ho, h⟩; exact ⟨v, rfl, hn, own_less ho hb, h⟩
theorem three {α : Type} {l : List α} (h : l.length = 3) : ∃ a0 a1 a2, l = [a0, a1, a2] := by
  match l, h with
  | [a0, a1, a2], _ => exact ⟨a0, a1, a2, rfl⟩
theorem i64_le {a : Int} (h : (Lit.int .i64 a).wf = true) : a ≤ 9223372036854775807 := by
  have := (bounds_i64 h).2
  omega
theorem opensCl : Opens Tryd.prog 45 clK := by
  refine ⟨by kernel_rfl, fun {H enc w base spare held fuel cs x} h => ?_⟩
  obtain ⟨xs, n, _, _, hl, hlen, hf⟩ := DataW.trod_struct Tryd.underlying45 h
  have h3 : cs.length = 3 := hl.trans (by kernel_rfl)
  have hx3 : xs.length = 3 := hlen
  have k3 : Tryd.prog.cellsOf 3 = 1 := by kernel_rfl
  have k5 : Tryd.prog.cellsOf 5 = 1 := by kernel_rfl
  have k22 : Tryd.prog.cellsOf 22 = 1 := by kernel_rfl
  have at_ : ∀ i, i < 3 → ∃ y, xs[i]? = some y := fun i hi => ⟨_, List.getElem?_eq_getElem (by omega)⟩
  obtain ⟨a0, a1, a2, rfl⟩ := three h3
  have c0 : DataW.trod enc Tryd.prog w base spare held n 3 (List.take (Tryd.prog.cellsOf 3) [a0, a1, a2]) = xs[0]? := hf 0 _ rfl
  have c1 : DataW.trod enc Tryd.prog w base spare held n 3 (List.take (Tryd.prog.cellsOf 3) [a1, a2]) = xs[1]? := hf 1 _ rfl
  have c2 : DataW.trod enc Tryd.prog w base spare held n 22 (List.take (Tryd.prog.cellsOf 22) [a2]) = xs[2]? := hf 2 _ rfl
  rw [k3] at c0 c1
  rw [k22] at c2
  obtain ⟨y0, e0⟩ := at_ 0 (by decide)
  obtain ⟨y1, e1⟩ := at_ 1 (by decide)
  obtain ⟨y2, e2⟩ := at_ 2 (by decide)
  obtain ⟨v0, g0, _⟩ := DataW.trod_int Tryd.underlying3 (c0.trans e0)
  obtain ⟨v1, g1, _, hw1⟩ := DataW.trod_int Tryd.underlying3 (c1.trans e1)
  obtain ⟨v2, g2⟩ := (Opens.slice Tryd.underlying22 k22 (Opens.int Tryd.underlying5 k5)).op (c2.trans e2)
  obtain rfl : a0 = _ := List.singleton_inj.1 g0
  obtain rfl : a1 = _ := List.singleton_inj.1 g1
  obtain ⟨A, c, g2', hle, hC⟩ := g2
  have g2'' : a2 = _ := List.singleton_inj.1 g2'
  subst g2''
  exact ⟨⟨v0, v1, v2⟩, A, c, rfl, i64_le hw1, reads_of_C8 hC⟩
theorem cl_at {w : World} {A : Option Addr} {n : Nat} {l : List Cl} (h : clK.C w A n l) {i : Nat} {x : Cl} (hx : l[i]? = some x) : ∃ ad B c, A = some ad ∧ w.cell? (ad.add (i * 3)) = some (.int .i64 x.kd) ∧ w.cell? ⟨(ad.add (i * 3)).block, (ad.add (i * 3)).off + 1, none⟩ = some (.int .i64 x.n) ∧ w.cell? ⟨(ad.add (i * 3)).block, (ad.add (i * 3)).off + 2, none⟩ = some (.slice B x.b.length c) ∧ x.n ≤ 9223372036854775807 ∧ ReadsInt w .u8 B x.b.length x.b := by
  obtain ⟨hl, _⟩ := List.getElem?_eq_some_iff.1 hx
  obtain ⟨ad, hA, hc⟩ := h.2.2 (by have := h.1; omega)
  obtain ⟨cs, h2, ⟨B, c, rfl, hn, hr⟩, h3⟩ := hc i x hx
  have h4 : ∀ j u, (x.cells (.slice B x.b.length c))[j]? = some u → w.cell? ((ad.add (i * 3)).add j) = some u := fun j u hu => by
    rw [Mine.add_add]
    exact h3 j u hu
  exact ⟨ad, B, c, hA, by simpa [Addr.add] using h4 0 _ rfl, by simpa [Addr.add] using h4 1 _ rfl, by simpa [Addr.add] using h4 2 _ rfl, hn, hr⟩
/-- Between the rounds. -/
structure PlaysAt (w : World) (b b2 : Nat) (s1 s2 : TS) (F G : Nat → Prop) (wr : World) : Prop where
  tp : TapeIn w b s1 wr F
  rf : RefAt wr w.heap.size G b2 s2
  dis : ∀ j, F j → ¬ G j
theorem PlaysAt.to {w wr w1 : World} {b b2 : Nat} {s1 s2 : TS} {F G : Nat → Prop} (h : PlaysAt w b b2 s1 s2 F G wr) (hB : Below wr.heap.size wr w1) : PlaysAt w b b2 s1 s2 F G w1 :=
  ⟨h.tp.to hB, h.rf.below hB, h.dis⟩
theorem PlaysAt.tape {w wr w1 : World} {b b2 : Nat} {s1 s1' s2 : TS} {F G : Nat → Prop} (h : PlaysAt w b b2 s1 s2 F G wr) (k : TapeOut w b s1' wr F w1) : ∃ F', PlaysAt w b b2 s1' s2 F' G w1 ∧ (∀ j, F' j → F j ∨ wr.heap.size ≤ j) ∧ Keep F wr w1 := by
  obtain ⟨F', h1, h2, h3⟩ := k
  refine ⟨F', ⟨h1, h.rf.keep h3 (fun j hg hf => h.dis j hf hg), fun j hf hg => ?_⟩, h2, h3⟩
  rcases h2 j hf with e | e
  · exact h.dis j e hg
  · have := (h.rf.2.1 j hg).2; omega
theorem PlaysAt.ref {w wr w1 : World} {b b2 : Nat} {s1 s2 s2' : TS} {F G : Nat → Prop} (h : PlaysAt w b b2 s1 s2 F G wr) (k : Ref' wr w.heap.size G b2 s2' w1) : ∃ G', PlaysAt w b b2 s1 s2' F G' w1 ∧ (∀ j, G' j → G j ∨ wr.heap.size ≤ j) ∧ Keep G wr w1 := by
  obtain ⟨G', h1, h2, h3⟩ := k
  refine ⟨G', ⟨⟨h.tp.at_.keep h3 h.dis, h.tp.below.trans (h3.to_below h.tp.below.size (fun j hg => (h.rf.2.1 j hg).1)), h.tp.laid, h.tp.ok⟩, h1, fun j hf hg => ?_⟩, h2, h3⟩
  rcases h2 j hg with e | e
  · exact h.dis j hf e
  · have := (h.tp.at_.2.1 j hf).2; omega
/-- Within a round: a row of one's own (mine), a box. -/
structure Mid (w : World) (b b2 : Nat) (s1 s2 : TS) (F G : Nat → Prop) (wr : World) (v : Value) (L : List Int) (pc : Nat) (o : Obj) : Prop where
  pl : PlaysAt w b b2 s1 s2 F G wr
  buf : Buf .u8 5 wr w.heap.size v L
  out : ∀ j, v.ownBlock = some j → ¬ F j ∧ ¬ G j
  box : wr.heap[pc]? = some o
  pout : ¬ F pc ∧ ¬ G pc
theorem Mid.tape {w wr w1 : World} {b b2 : Nat} {s1 s1' s2 : TS} {F G : Nat → Prop} {v : Value} {L : List Int} {pc : Nat} {o : Obj} (h : Mid w b b2 s1 s2 F G wr v L pc o) (k : TapeOut w b s1' wr F w1) : ∃ F', Mid w b b2 s1' s2 F' G w1 v L pc o := by
  obtain ⟨F', h1, h2, h3⟩ := h.pl.tape k
  have hn : ∀ j, ¬ F j → j < wr.heap.size → ¬ F' j := fun j hf hl hf' => (h2 j hf').elim hf (fun e => by omega)
  exact ⟨F', h1, h.buf.keep h3 (fun j hj => (h.out j hj).1), fun j hj => ⟨hn j (h.out j hj).1 (h.buf.lt j hj).2, (h.out j hj).2⟩, h3.blk h.box h.pout.1, hn pc h.pout.1 (blk_lt h.box), h.pout.2⟩
theorem Mid.ref {w wr w1 : World} {b b2 : Nat} {s1 s2 s2' : TS} {F G : Nat → Prop} {v : Value} {L : List Int} {pc : Nat} {o : Obj} (h : Mid w b b2 s1 s2 F G wr v L pc o) (k : Ref' wr w.heap.size G b2 s2' w1) : ∃ G', Mid w b b2 s1 s2' F G' w1 v L pc o := by
  obtain ⟨G', h1, h2, h3⟩ := h.pl.ref k
  have hn : ∀ j, ¬ G j → j < wr.heap.size → ¬ G' j := fun j hf hl hf' => (h2 j hf').elim hf (fun e => by omega)
  exact ⟨G', h1, h.buf.keep h3 (fun j hj => (h.out j hj).2), fun j hj => ⟨(h.out j hj).1, hn j (h.out j hj).2 (h.buf.lt j hj).2⟩, h3.blk h.box h.pout.2, h.pout.1, hn pc h.pout.2 (blk_lt h.box)⟩
theorem Mid.drew {w wr : World} {b b2 : Nat} {s1 s2 : TS} {F G : Nat → Prop} {v : Value} {L : List Int} {pc : Nat} {o : Obj} (h : Mid w b b2 s1 s2 F G wr v L pc o) : Mid w b b2 s1 s2 F G wr.drew v L pc o :=
  ⟨⟨⟨h.pl.tp.at_, h.pl.tp.below.drew, h.pl.tp.laid, h.pl.tp.ok⟩, h.pl.rf, h.pl.dis⟩, h.buf, h.out, h.box, h.pout⟩
/-- mine is overwritten: nobody else's. -/
structure Wiped (w : World) (b b2 : Nat) (s : TS) (F G : Nat → Prop) (wr : World) (g n : Nat) : Prop where
  pl : PlaysAt w b b2 s s F G wr
  row : ∃ cur, wr.heap[g]? = some (.cells cur 5 (0, 0)) ∧ n ≤ cur.size
  out : ¬ F g ∧ ¬ G g
  base : w.heap.size ≤ g
theorem Wiped.store {w wr : World} {b b2 : Nat} {s : TS} {F G : Nat → Prop} {g n : Nat} (h : Wiped w b b2 s F G wr g n) (i : Nat) (v : Value) : Wiped w b b2 s F G (wr.setCell ⟨g, i, none⟩ v) g n := by
  have hk := set1 wr g i v
  obtain ⟨cur, h1, h2⟩ := h.row
  refine ⟨⟨⟨h.pl.tp.at_.keep hk (fun j hj e => by subst e; exact h.out.1 hj), h.pl.tp.below.trans (hk.to_below h.pl.tp.below.size (fun j e => by subst e; exact h.base)), h.pl.tp.laid, h.pl.tp.ok⟩, h.pl.rf.keep hk (fun j hj e => by subst e; exact h.out.2 hj), h.pl.dis⟩, ⟨_, blk_set h1 i v, by simpa using h2⟩, h.out, h.base⟩
theorem ops_spend (s : TS) : (spendS s).ops ≤ s.ops + 1 := by unfold spendS; split <;> (try split) <;> (try simp) <;> omega
theorem ops_append (s : TS) (x : List Int) : (appendS s x).ops ≤ s.ops + 1 := by unfold appendS; have := ops_spend s; split <;> simp <;> omega
theorem ops_sync (s : TS) : (syncS s).ops ≤ s.ops + 1 := by
  unfold syncS; have := ops_spend s
  split
  · split
    · exact this
    · exact this
  · omega
theorem ops_replace (s : TS) (x : List Int) : (replaceS s x).ops ≤ s.ops + 1 := by
  unfold replaceS; have := ops_spend s
  split
  · split
    · exact this
    · exact this
  · omega
theorem five_ways (x : Int) : x % 5 = 0 ∨ x % 5 = 1 ∨ x % 5 = 2 ∨ x % 5 = 3 ∨ x % 5 = 4 := by omega
end Go.Proofs.YtjjlojaaefipmaaDoor
