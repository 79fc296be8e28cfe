/- Calls of a log as they are read; what stands beside a log within a round of WalPlays: plainly. -/
import Derived.Test.YtfnnjgbldojigaaDoorGrdW
import Derived.Test.YtfnnjgbldojigaaDoorOpen
set_option linter.unusedVariables false
set_option linter.unusedSimpArgs false
namespace Go.Proofs.YtfnnjgbldojigaaDoor
open Go.RowKit Go.Proofs.YtfnnjgbldojigaaDoorW.PrintWords Go.Proofs.Mine Go.Proofs.Mine.Crc
open Go.ChangeShapes Go.WideShapes Go.ChangeAt

/-- Two kinds side by side: the parts of a struct. -/
def pairK {α β : Type} (d1 : Kd α) (d2 : Kd β) : Kd (α × β) where
  sz := d1.sz + d2.sz
  E := d1.E ++ d2.E
  K := fun w x cs => ∃ c1 c2, cs = c1 ++ c2 ∧ d1.K w x.1 c1 ∧ d2.K w x.2 c2
  M := fun w base ok x cs => ∃ c1 c2, cs = c1 ++ c2 ∧ d1.M w base ok x.1 c1 ∧ d2.M w base ok x.2 c2
  K_len := by rintro w x cs ⟨c1, c2, rfl, h1, h2⟩; rw [List.length_append, d1.K_len h1, d2.K_len h2]
  K_one := by
    rintro w x cs ⟨c1, c2, rfl, h1, h2⟩ u hu
    rcases List.mem_append.1 hu with hu | hu
    · exact d1.K_one h1 u hu
    · exact d2.K_one h2 u hu
  K_below := by rintro w w1 x cs hb ⟨c1, c2, rfl, h1, h2⟩; exact ⟨c1, c2, rfl, d1.K_below hb h1, d2.K_below hb h2⟩
  K_of_M := by rintro w base ok x cs ⟨c1, c2, rfl, h1, h2⟩; exact ⟨c1, c2, rfl, d1.K_of_M h1, d2.K_of_M h2⟩
  M_mono := by rintro w base ok ok' x cs hk ⟨c1, c2, rfl, h1, h2⟩; exact ⟨c1, c2, rfl, d1.M_mono hk h1, d2.M_mono hk h2⟩
  M_bound := by
    rintro w base ok x cs ⟨c1, c2, rfl, h1, h2⟩
    refine ⟨c1, c2, rfl, d1.M_mono ?_ (d1.M_bound h1), d2.M_mono ?_ (d2.M_bound h2)⟩
    · rintro k ⟨a, b, c, q, hq, r⟩; exact ⟨a, b, c, q, List.mem_append_left _ hq, r⟩
    · rintro k ⟨a, b, c, q, hq, r⟩; exact ⟨a, b, c, q, List.mem_append_right _ hq, r⟩
  M_move := by rintro w w1 base ok x cs hm ⟨c1, c2, rfl, h1, h2⟩; exact ⟨c1, c2, rfl, d1.M_move hm h1, d2.M_move hm h2⟩
  M_lower := by rintro w base base' ok x cs hb ⟨c1, c2, rfl, h1, h2⟩; exact ⟨c1, c2, rfl, d1.M_lower hb h1, d2.M_lower hb h2⟩
/-- A call: its kind, its bytes, its rows. -/
abbrev Cl := Int × List UInt8 × List (List UInt8)
abbrev clK : Kd Cl := pairK (Kd.int .i64) (pairK rowsK (Kd.slice 32 rowsK))
theorem clK_sz : clK.sz = 3 := rfl
theorem three {α : Type} {l : List α} (h : l.length = 3) : ∃ a0 a1 a2, l = [a0, a1, a2] := by
  match l, h with
  | [a0, a1, a2], _ => exact ⟨a0, a1, a2, rfl⟩
theorem opensCl : Opens Tryd.prog 47 clK := by
  refine ⟨by kernel_rfl, fun {H enc w base spare held fuel cs x} h => ?_⟩
  obtain ⟨xs, n, _, _, hl, hlen, hf⟩ := DataW.trod_struct Tryd.underlying47 h
  have h3 : cs.length = 3 := hl.trans (by kernel_rfl)
  have hx3 : xs.length = 3 := hlen
  have k3 : Tryd.prog.cellsOf 3 = 1 := by kernel_rfl
  have k5 : Tryd.prog.cellsOf 5 = 1 := by kernel_rfl
  have kB : Tryd.prog.cellsOf 32 = 1 := by kernel_rfl
  have kR : Tryd.prog.cellsOf 22 = 1 := by kernel_rfl
  have at_ : ∀ i, i < 3 → ∃ y, xs[i]? = some y := fun i hi => ⟨_, List.getElem?_eq_getElem (by omega)⟩
  obtain ⟨a0, a1, a2, rfl⟩ := three h3
  have c0 : DataW.trod enc Tryd.prog w base spare held n 3 (List.take (Tryd.prog.cellsOf 3) [a0, a1, a2]) = xs[0]? := hf 0 _ rfl
  have c1 : DataW.trod enc Tryd.prog w base spare held n 32 (List.take (Tryd.prog.cellsOf 32) [a1, a2]) = xs[1]? := hf 1 _ rfl
  have c2 : DataW.trod enc Tryd.prog w base spare held n 22 (List.take (Tryd.prog.cellsOf 22) [a2]) = xs[2]? := hf 2 _ rfl
  rw [k3] at c0
  rw [kB] at c1
  rw [kR] at c2
  obtain ⟨y0, e0⟩ := at_ 0 (by decide)
  obtain ⟨y1, e1⟩ := at_ 1 (by decide)
  obtain ⟨y2, e2⟩ := at_ 2 (by decide)
  have ob : Opens Tryd.prog 32 rowsK := Opens.slice Tryd.underlying32 kB (Opens.byte Tryd.underlying5 k5)
  obtain ⟨v0, g0, _⟩ := DataW.trod_int Tryd.underlying3 (c0.trans e0)
  obtain ⟨v1, g1⟩ := ob.op (c1.trans e1)
  obtain ⟨v2, g2⟩ := (Opens.slice Tryd.underlying22 kR ob).op (c2.trans e2)
  exact ⟨(v0, v1, v2), [a0], [a1, a2], rfl, g0, [a1], [a2], rfl, g1, g2⟩
theorem cl_at {w : World} {A : Option Addr} {n : Nat} {l : List Cl} (h : clK.C w A n l) {i : Nat} {x : Cl} (hx : l[i]? = some x) :
    ∃ ad B c D d, A = some ad ∧ w.cell? (ad.add (i * 3)) = some (.int .i64 x.1) ∧ w.cell? ⟨(ad.add (i * 3)).block, (ad.add (i * 3)).off + 1, none⟩ = some (.slice B x.2.1.length c) ∧ w.cell? ⟨(ad.add (i * 3)).block, (ad.add (i * 3)).off + 2, none⟩ = some (.slice D x.2.2.length d) ∧
      Bytes w B x.2.1 ∧ x.2.1.length ≤ c ∧ rowsK.C w D x.2.2.length x.2.2 ∧ x.2.2.length ≤ d := by
  obtain ⟨hl, _⟩ := List.getElem?_eq_some_iff.1 hx
  obtain ⟨ad, hA, hc⟩ := h.2.2 (by have := h.1; omega)
  obtain ⟨cs, h2, ⟨c1, c2, rfl, g0, d1, d2, rfl, ⟨B, c, g1, hle, hC⟩, D, d, g2, hle2, hC2⟩, h3⟩ := hc i x hx
  obtain rfl : c1 = _ := g0
  obtain rfl : d1 = _ := g1
  obtain rfl : d2 = _ := g2
  have h4 : ∀ j u, [Value.int .i64 x.1, .slice B x.2.1.length c, .slice D x.2.2.length d][j]? = some u → w.cell? ((ad.add (i * 3)).add j) = some u := fun j u hu => by
    rw [Mine.add_add]
    exact h3 j u hu
  exact ⟨ad, B, c, D, d, hA, by simpa [Addr.add] using h4 0 _ rfl, by simpa [Addr.add] using h4 1 _ rfl, by simpa [Addr.add] using h4 2 _ rfl, bytes_of_C hC, hle, hC2, hle2⟩
theorem blk_keep {G : Nat → Prop} {w w1 : World} {g : Nat} {t : TypeId} {cs : Array Value} (k : Keep G w w1) (h : w.heap[g]? = some (.cells cs t (0, 0))) (hg : ¬ G g) : w1.heap[g]? = some (.cells cs t (0, 0)) := k.blk h hg
/-- Within a round: a box, and a row of one's own (mine). -/
structure MidW (w : World) (bt bl : Nat) (s : TS) (ls : LS) (F : Nat → Prop) (av : Value) (hs : List Hd) (pc : Nat) (o : Array Value) (g n : Nat) (wr : World) : Prop where
  win : WalIn w bt bl s ls wr F
  all : OwnOk wr F w.heap.size av hs
  box : wr.heap[pc]? = some (.cells o 47 (0, 0))
  pout : ¬ F pc ∧ av.ownBlock ≠ some pc ∧ w.heap.size ≤ pc
  mine : 0 < n → (∃ cur, wr.heap[g]? = some (.cells cur 5 (0, 0)) ∧ n ≤ cur.size) ∧ ¬ F g ∧ av.ownBlock ≠ some g ∧ w.heap.size ≤ g ∧ g ≠ pc
theorem MidW.step {w : World} {bt bl : Nat} {s s' : TS} {ls ls' : LS} {F : Nat → Prop} {av : Value} {hs : List Hd} {pc : Nat} {o : Array Value} {g n : Nat} {wr w1 : World} (h : MidW w bt bl s ls F av hs pc o g n wr) (k : WalOut w bt bl s' ls' wr F w1) : ∃ F', MidW w bt bl s' ls' F' av hs pc o g n w1 := by
  obtain ⟨F', h1, h2, h3⟩ := k
  have hn : ∀ j, ¬ F j → j < wr.heap.size → ¬ F' j := fun j hf hl hf' => (h2 j hf').elim hf (fun e => by omega)
  refine ⟨F', h1, h.all.step h3 h2, blk_keep h3 h.box h.pout.1, ⟨hn pc h.pout.1 (blk_lt h.box), h.pout.2⟩, fun hp => ?_⟩
  obtain ⟨⟨cur, m1, m2⟩, m3, m4, m5, m6⟩ := h.mine hp
  exact ⟨⟨cur, blk_keep h3 m1 m3, m2⟩, hn g m3 (blk_lt m1), m4, m5, m6⟩
theorem MidW.to {w : World} {bt bl : Nat} {s : TS} {ls : LS} {F : Nat → Prop} {av : Value} {hs : List Hd} {pc : Nat} {o : Array Value} {g n : Nat} {wr w1 : World} (h : MidW w bt bl s ls F av hs pc o g n wr) (hB : Below wr.heap.size wr w1) : MidW w bt bl s ls F av hs pc o g n w1 := by
  have hk := Keep.of_below hB (fun _ => False)
  refine ⟨h.win.to hB, h.all.below hB, blk_keep hk h.box (fun e => e), h.pout, fun hp => ?_⟩
  obtain ⟨⟨cur, m1, m2⟩, m3, m4, m5, m6⟩ := h.mine hp
  exact ⟨⟨cur, blk_keep hk m1 (fun e => e), m2⟩, m3, m4, m5, m6⟩
theorem MidW.store {w : World} {bt bl : Nat} {s : TS} {ls : LS} {F : Nat → Prop} {av : Value} {hs : List Hd} {pc : Nat} {o : Array Value} {g n : Nat} {wr : World} (h : MidW w bt bl s ls F av hs pc o g n wr) (hp : 0 < n) (i : Nat) (v : Value) : MidW w bt bl s ls F av hs pc o g n (wr.setCell ⟨g, i, none⟩ v) := by
  obtain ⟨⟨cur, m1, m2⟩, m3, m4, m5, m6⟩ := h.mine hp
  have hk := set1 wr g i v
  refine ⟨h.win.keep hk (fun j hj e => by subst e; exact m3 hj) (fun j e => by subst e; exact m5), ⟨hk.own h.all.1 (fun j hj e => by subst e; exact m4 hj), h.all.2⟩, blk_keep hk h.box (fun e => m6 e.symm), h.pout, fun _ => ⟨⟨_, blk_set m1 i v, by simpa using m2⟩, m3, m4, m5, m6⟩⟩
/-- One more to all. -/
theorem all_more {w wr W w1 : World} {bt bl : Nat} {s : TS} {ls : LS} {F : Nat → Prop} {v v1 : Value} {hs ks : List Hd} (h : WalIn w bt bl s ls wr F) (ha : OwnOk wr F w.heap.size v hs) (hW : Below wr.heap.size wr W) (hg : W.grownBy w1 v.ownBlock) (hat : v1.ownBlock = v.ownBlock ∨ ∃ b, v1.ownBlock = some b ∧ W.heap.size ≤ b) (hv : HOwn w1 w.heap.size v1 ks) : WalIn w bt bl s ls w1 F ∧ OwnOk w1 F w.heap.size v1 ks := by
  have hk : Keep (fun k => v.ownBlock = some k) W w1 := Keep.of_grown hg (fun k hk => hk)
  refine ⟨(h.to hW).keep hk (fun j hj e => ha.2 j e hj) (fun j hj => own_base ha.1 j hj), hv, fun k hk hf => ?_⟩
  rcases hat with e | ⟨b, e, hle⟩
  · exact ha.2 k (e ▸ hk) hf
  · rw [e] at hk; injection hk with hk; have := (h.lt k hf).2; have := hW.size; omega
theorem four_ways (x : Int) : x % 4 = 0 ∨ x % 4 = 1 ∨ x % 4 = 2 ∨ x % 4 = 3 := by omega
end Go.Proofs.YtfnnjgbldojigaaDoor
