/- What a link is in memory; what it says. -/
import Derived.Test.YtgkinjfinijnnaaDoorProg
import Derived.Test.YtgkinjfinijnnaaDoorMapG
import Derived.Test.YtgkinjfinijnnaaDoorKindW
import Derived.WalkSpells
import Derived.WalkLawsBesides
import Derived.Lib.Hide
import Derived.Deep.QuietTactic
import Derived.BigQuiet
set_option linter.unusedVariables false
set_option linter.unusedSimpArgs false
namespace Go.Proofs.YtgkinjfinijnnaaDoor
open Go.RowKit Go.Proofs.YtgkinjfinijnnaaDoorW.PrintWords Go.Proofs.Mine

/-- What is known of a peer. -/
structure Pr where
  sent : Int
  life : Int
  taken : Int → Option Bool
  most : Int
def pr0 : Pr := ⟨0, 0, fun _ => none, 0⟩
/-- A link: itself, its life, what is known of whom, how often it refused. -/
structure LSt where
  self : Int
  life : Int
  peers : Int → Pr
  refused : Int
def tk (p : Pr) (n : Int) : Bool := (p.taken n).getD false
def ptrV (g : Nat × Nat) : Value := .pointer (some ⟨g.1, 0, none⟩)
/-- A peer at a block, its map at another one. -/
def PeerAt (w : World) (g : Nat × Nat) (p : Pr) : Prop := w.heap[g.1]? = some (.cells #[.int .i64 p.sent, .int .i64 p.life, .map (some g.2), .int .i64 p.most] 55 (0, 0)) ∧ MapI Value.bool w g.2 p.taken
/-- A link laid open: its map's block, whose peers are where. -/
structure LinkO (w : World) (base : Nat) (F : Nat → Prop) (b : Nat) (s : LSt) (B : Nat) (f : Int → Option (Nat × Nat)) : Prop where
  own : F b
  all : ∀ k, F k → base ≤ k ∧ k < w.heap.size
  blk : w.heap[b]? = some (.cells #[.int .i64 s.self, .int .i64 s.life, .map (some B), .int .i64 s.refused] 43 (0, 0))
  map : MapI ptrV w B f
  ownB : F B
  peer : ∀ id g, f id = some g → PeerAt w g (s.peers id) ∧ F g.1 ∧ F g.2 ∧ g.2 ≠ B
  none_ : ∀ id, f id = none → s.peers id = pr0
  inj : ∀ id id' g g', f id = some g → f id' = some g' → id ≠ id' → g.1 ≠ g'.1 ∧ g.2 ≠ g'.2
def LinkAt (w : World) (base : Nat) (F : Nat → Prop) (b : Nat) (s : LSt) : Prop := ∃ B f, LinkO w base F b s B f
def Link' (w : World) (base : Nat) (F : Nat → Prop) (b : Nat) (s' : LSt) (w' : World) : Prop :=
  ∃ F', LinkAt w' base F' b s' ∧ (∀ k, F' k → F k ∨ w.heap.size ≤ k) ∧ Keep F w w'
theorem map_typed {w : World} {k t : Nat} {cells : Array Value} {es : Array MapEntry} {c : Nat} (hm : w.heap[k]? = some (.map es c)) (hb : w.heap[k]? = some (.cells cells t (0, 0))) : False := by
  rw [hm] at hb; cases hb
theorem mapI_blk {α : Type} {enc : α → Value} {w : World} {B : Nat} {f : Int → Option α} (h : MapI enc w B f) : ∃ es c, w.heap[B]? = some (.map es c) := by
  obtain ⟨es, c, h, _⟩ := h; exact ⟨es, c, h⟩
theorem cells_ne {w : World} {g g' t t' : Nat} {cs cs' : Array Value} (h : w.heap[g]? = some (.cells cs t (0, 0))) (h' : w.heap[g']? = some (.cells cs' t' (0, 0))) (hne : t ≠ t') : g ≠ g' := blk_ne h h' hne
theorem map_ne {α : Type} {enc : α → Value} {w : World} {B g t : Nat} {f : Int → Option α} {cs : Array Value} (h : MapI enc w B f) (h' : w.heap[g]? = some (.cells cs t (0, 0))) : B ≠ g := by
  rintro rfl
  obtain ⟨es, c, h⟩ := mapI_blk h
  exact map_typed h h'
theorem PeerAt.keep {w w1 : World} {G : Nat → Prop} {g : Nat × Nat} {p : Pr} (h : PeerAt w g p) (k : Keep G w w1) (h1 : ¬ G g.1) (h2 : ¬ G g.2) : PeerAt w1 g p := ⟨k.blk h.1 h1, h.2.move (k.block g.2 h.2.lt h2)⟩
theorem LinkO.keep {w w1 : World} {base b B : Nat} {F G : Nat → Prop} {s : LSt} {f : Int → Option (Nat × Nat)} (h : LinkO w base F b s B f) (k : Keep G w w1) (hg : ∀ j, F j → ¬ G j) : LinkO w1 base F b s B f :=
  ⟨h.own, fun j hj => ⟨(h.all j hj).1, Nat.lt_of_lt_of_le (h.all j hj).2 k.size⟩, k.blk h.blk (hg b h.own), h.map.move (k.block B h.map.lt (hg B h.ownB)), h.ownB, fun id g hf => by
    obtain ⟨h1, h2, h3, h4⟩ := h.peer id g hf
    exact ⟨h1.keep k (hg _ h2) (hg _ h3), h2, h3, h4⟩, h.none_, h.inj⟩
theorem LinkAt.keep {w w1 : World} {base b : Nat} {F G : Nat → Prop} {s : LSt} (h : LinkAt w base F b s) (k : Keep G w w1) (hg : ∀ j, F j → ¬ G j) : LinkAt w1 base F b s := by
  obtain ⟨B, f, h⟩ := h
  exact ⟨B, f, h.keep k hg⟩
theorem MapI.reenc {α : Type} {enc : α → Value} {w : World} {B : Nat} {f f' : Int → Option α} (h : MapI enc w B f) (hf : ∀ x v, f x = some v → ∃ v', f' x = some v' ∧ enc v' = enc v) (hf' : ∀ x v', f' x = some v' → ∃ v, f x = some v) : MapI enc w B f' := by
  obtain ⟨es, c, h0, h1, h2, h3⟩ := h
  refine ⟨es, c, h0, h1, fun e he => ?_, fun x v' hx => ?_⟩
  · obtain ⟨x, v, e1, e2, e3⟩ := h2 e he
    obtain ⟨v', g1, g2⟩ := hf x v e3
    exact ⟨x, v', e1, e2.trans g2.symm, g1⟩
  · obtain ⟨v, g1⟩ := hf' x v' hx
    exact h3 x v g1
def updP (f : Int → Pr) (id : Int) (p : Pr) : Int → Pr := fun j => if j = id then p else f j
theorem updP_at (f : Int → Pr) (id : Int) (p : Pr) : updP f id p id = p := by simp [updP]
theorem updP_other (f : Int → Pr) {id j : Int} (p : Pr) (h : j ≠ id) : updP f id p j = f j := by simp [updP, h]
/-- One peer has been turned, in place. -/
theorem LinkO.turn {w w1 : World} {base b B : Nat} {F : Nat → Prop} {s : LSt} {f : Int → Option (Nat × Nat)} (h : LinkO w base F b s B f) {id : Int} {g : Nat × Nat} (hf : f id = some g) {p : Pr} {m : Nat} (hk : Keep (fun k => k = g.1 ∨ k = g.2) w w1) (hp : PeerAt w1 (g.1, m) p) (hm : m = g.2 ∨ w.heap.size ≤ m) :
    LinkO w1 base (fun k => F k ∨ k = m) b { s with peers := updP s.peers id p } B (updI f id (g.1, m)) := by
  obtain ⟨hpg, f1, f2, n2⟩ := h.peer id g hf
  have hlm : m < w1.heap.size := hp.2.lt
  have hbl := blk_lt h.blk
  have nb1 : b ≠ g.1 := cells_ne h.blk hpg.1 (by decide)
  have nb2 : b ≠ g.2 := fun e => map_ne hpg.2 h.blk e.symm
  have nB1 : B ≠ g.1 := map_ne h.map hpg.1
  have hBl := h.map.lt
  refine ⟨.inl h.own, fun k hk' => ?_, hk.blk h.blk (by rintro (e | e) <;> omega), ?_, .inl h.ownB, ?_, ?_, ?_⟩
  · rcases hk' with h1 | rfl
    · exact ⟨(h.all k h1).1, Nat.lt_of_lt_of_le (h.all k h1).2 hk.size⟩
    · refine ⟨?_, hlm⟩
      rcases hm with rfl | h2
      · exact (h.all _ f2).1
      · have := (h.all b h.own).1; omega
  · refine MapI.reenc (h.map.move (hk.block B hBl (by rintro (e | e) <;> omega))) (fun x v hx => ?_) (fun x v' hx => ?_)
    · by_cases e : x = id
      · subst e
        rw [hf] at hx; injection hx with hx; subst hx
        exact ⟨(g.1, m), by simp [updI], rfl⟩
      · exact ⟨v, by simpa [updI, e] using hx, rfl⟩
    · by_cases e : x = id
      · subst e; exact ⟨g, hf⟩
      · exact ⟨v', by simpa [updI, e] using hx⟩
  · intro j gj hj
    by_cases e : j = id
    · subst e
      have : gj = (g.1, m) := by simpa [updI] using hj.symm
      subst this
      show PeerAt w1 (g.1, m) (updP s.peers j p j) ∧ _
      rw [updP_at]
      refine ⟨hp, .inl f1, .inr rfl, ?_⟩
      rcases hm with rfl | h2
      · exact n2
      · show m ≠ B; omega
    · have hj' : f j = some gj := by simpa [updI, e] using hj
      obtain ⟨hq, q1, q2, q3⟩ := h.peer j gj hj'
      show PeerAt w1 gj (updP s.peers id p j) ∧ _
      rw [updP_other _ _ e]
      have hi := h.inj j id gj g hj' hf e
      have hl1 := blk_lt hq.1
      refine ⟨hq.keep hk ?_ ?_, .inl q1, .inl q2, q3⟩
      · rintro (e1 | e1)
        · exact hi.1 e1
        · exact map_ne hpg.2 hq.1 e1.symm
      · rintro (e1 | e1)
        · exact map_ne hq.2 hpg.1 e1
        · exact hi.2 e1
  · intro j hj
    by_cases e : j = id
    · subst e; simp [updI] at hj
    · show updP s.peers id p j = pr0
      rw [updP_other _ _ e]
      exact h.none_ j (by simpa [updI, e] using hj)
  · intro j j' gj gj' hj hj' hne
    have key : ∀ j gj, updI f id (g.1, m) j = some gj → j ≠ id → gj.1 ≠ g.1 ∧ gj.2 ≠ m := by
      intro j gj hj e
      have hj1 : f j = some gj := by simpa [updI, e] using hj
      have hi := h.inj j id gj g hj1 hf e
      refine ⟨hi.1, fun em => ?_⟩
      rcases hm with rfl | h2
      · exact hi.2 em
      · have := (h.peer j gj hj1).1.2.lt; omega
    by_cases e : j = id
    · subst e
      have : gj = (g.1, m) := by simpa [updI] using hj.symm
      subst this
      have := key j' gj' hj' (fun e => hne e.symm)
      exact ⟨this.1.symm, this.2.symm⟩
    · by_cases e' : j' = id
      · subst e'
        have : gj' = (g.1, m) := by simpa [updI] using hj'.symm
        subst this
        exact key j gj hj e
      · exact h.inj j j' gj gj' (by simpa [updI, e] using hj) (by simpa [updI, e'] using hj') hne
/-- A new peer has been laid in. -/
theorem LinkO.add {w w1 : World} {base b B : Nat} {F : Nat → Prop} {s : LSt} {f : Int → Option (Nat × Nat)} (h : LinkO w base F b s B f) {id : Int} (hf : f id = none) {g : Nat × Nat} (hk : Keep (fun k => k = B) w w1) (hm : MapI ptrV w1 B (updI f id g)) (hp : PeerAt w1 g pr0) (h1 : w.heap.size ≤ g.1) (h2 : w.heap.size ≤ g.2) :
    LinkO w1 base (fun k => F k ∨ k = g.1 ∨ k = g.2) b s B (updI f id g) := by
  have hbl := blk_lt h.blk
  have hbB : b ≠ B := fun e => map_ne h.map h.blk e.symm
  refine ⟨.inl h.own, fun k hk' => ?_, hk.blk h.blk hbB, hm, .inl h.ownB, ?_, ?_, ?_⟩
  · have hb := (h.all b h.own).1
    rcases hk' with h3 | rfl | rfl
    · exact ⟨(h.all k h3).1, Nat.lt_of_lt_of_le (h.all k h3).2 hk.size⟩
    · exact ⟨by omega, blk_lt hp.1⟩
    · exact ⟨by omega, hp.2.lt⟩
  · intro j gj hj
    by_cases e : j = id
    · subst e
      have : gj = g := by simpa [updI] using hj.symm
      subst this
      rw [h.none_ j hf]
      exact ⟨hp, .inr (.inl rfl), .inr (.inr rfl), by have := h.map.lt; omega⟩
    · obtain ⟨hq, q1, q2, q3⟩ := h.peer j gj (by simpa [updI, e] using hj)
      exact ⟨hq.keep hk (fun e1 => map_ne h.map hq.1 e1.symm) q3, .inl q1, .inl q2, q3⟩
  · intro j hj
    by_cases e : j = id
    · subst e; simp [updI] at hj
    · exact h.none_ j (by simpa [updI, e] using hj)
  · intro j j' gj gj' hj hj' hne
    have key : ∀ j gj, updI f id g j = some gj → j ≠ id → gj.1 ≠ g.1 ∧ gj.2 ≠ g.2 := by
      intro j gj hj e
      have hj1 : f j = some gj := by simpa [updI, e] using hj
      have hq := (h.peer j gj hj1).1
      have := blk_lt hq.1
      have := hq.2.lt
      omega
    by_cases e : j = id
    · subst e
      have : gj = g := by simpa [updI] using hj.symm
      subst this
      have := key j' gj' hj' (fun e => hne e.symm)
      exact ⟨this.1.symm, this.2.symm⟩
    · by_cases e' : j' = id
      · subst e'
        have : gj' = g := by simpa [updI] using hj'.symm
        subst this
        exact key j gj hj e
      · exact h.inj j j' gj gj' (by simpa [updI, e] using hj) (by simpa [updI, e'] using hj') hne
end Go.Proofs.YtgkinjfinijnnaaDoor
