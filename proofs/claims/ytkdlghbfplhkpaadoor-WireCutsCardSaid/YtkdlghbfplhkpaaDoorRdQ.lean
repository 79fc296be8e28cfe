/- What wire reads, plainly: entries, configurations, messages; that what was written is read, and that each front of it is cut. -/
import Derived.Test.YtkdlghbfplhkpaaDoorRdP
import Derived.Test.YtkdlghbfplhkpaaDoorMsgW
set_option linter.unusedVariables false
set_option linter.unusedSimpArgs false
namespace Go.Proofs.YtkdlghbfplhkpaaDoor
open Go.RowKit Go.Proofs.YtkdlghbfplhkpaaDoorW.PrintWords Go.Proofs.Mine

def entS (s : St) : St := sortS (numbersS (strS (numS (numS (sortS s 0 4)))) 9) 0 2
def entV (s : St) : Ent := ⟨oneV s, numV (sortS s 0 4), numV (numS (sortS s 0 4)), strOfNums (strV (numS (numS (sortS s 0 4)))), numbersV (strS (numS (numS (sortS s 0 4)))) 9, oneV (numbersS (strS (numS (numS (sortS s 0 4)))) 9)⟩
def confS (s : St) : St := numbersS (numbersS s 9) 9
def entsL : Nat → St → List Ent × St
  | 0, s => ([], s)
  | n + 1, s => if s.2 = 0 then (entV s :: (entsL n (entS s)).1, (entsL n (entS s)).2) else ([], s)
def yesS (s : St) : St := if oneV s = 0 ∨ oneV s = 1 then oneS s else badS (oneS s) 12
def msgS1 (s : St) : St := numS (numS (numS s))
def msgS2 (s : St) : St := numS (numS (numS (numS (sortS s 1 15))))
def msgS3 (s : St) : St := numbersS (yesS s) 64
def msgS4 (s : St) : St := (entsL (countV s 64).toNat (countS s 64)).2
def msgS (s : St) : St := confS (msgS4 (msgS3 (msgS2 (msgS1 s))))
def msgRV (s : St) : Msg :=
  ⟨numV s, numV (numS s), numV (numS (numS s)), oneV (msgS1 s), numV (sortS (msgS1 s) 1 15), numV (numS (sortS (msgS1 s) 1 15)), numV (numS (numS (sortS (msgS1 s) 1 15))), numV (numS (numS (numS (sortS (msgS1 s) 1 15)))), decide (oneV (msgS2 (msgS1 s)) = 1), numbersV (yesS (msgS2 (msgS1 s))) 64,
   (entsL (countV (msgS3 (msgS2 (msgS1 s))) 64).toNat (countS (msgS3 (msgS2 (msgS1 s))) 64)).1, numbersV (msgS4 (msgS3 (msgS2 (msgS1 s)))) 9, numbersV (numbersS (msgS4 (msgS3 (msgS2 (msgS1 s)))) 9) 9⟩

/-- An error stays what it was. -/
def Stk (f : St → St) : Prop := ∀ s, s.2 ≠ 0 → (f s).2 = s.2
/-- f reads the bytes x: wherever they end it says that they are cut. -/
structure Rds (f : St → St) (x : List Int) : Prop where
  all : ∀ rest, f (x ++ rest, 0) = (rest, 0)
  cut : ∀ k, k < x.length → (f (x.take k, 0)).2 = 8
  stk : Stk f
theorem Stk.comp {f g : St → St} (hf : Stk f) (hg : Stk g) : Stk (fun s => g (f s)) := fun s h => by
  have h1 := hf s h
  have h2 := hg (f s) (by rw [h1]; exact h)
  exact h2.trans h1
theorem Rds.bind {β : Type} {V : St → β} {f : St → St} {g : β → St → St} {x y : List Int} {v : β} (hf : Rds f x) (hv : ∀ rest, V (x ++ rest, 0) = v) (hg : Rds (g v) y) (hs : ∀ v, Stk (g v)) : Rds (fun s => g (V s) (f s)) (x ++ y) := by
  refine ⟨fun rest => ?_, fun k hk => ?_, fun s h => ?_⟩
  · show g (V (x ++ y ++ rest, 0)) (f (x ++ y ++ rest, 0)) = _
    rw [List.append_assoc, hv, hf.all, hg.all]
  · show (g (V ((x ++ y).take k, 0)) (f ((x ++ y).take k, 0))).2 = 8
    rcases Nat.lt_or_ge k x.length with h1 | h1
    · rw [List.take_append_of_le_length (by omega)]
      have h2 := hf.cut k h1
      rw [hs _ _ (by rw [h2]; decide), h2]
    · have e : (x ++ y).take k = x ++ y.take (k - x.length) := by
        rw [List.take_append, List.take_of_length_le h1]
      rw [e, hv, hf.all]
      exact hg.cut _ (by rw [List.length_append] at hk; omega)
  · show (g (V s) (f s)).2 = s.2
    have h1 := hf.stk s h
    rw [hs _ _ (by rw [h1]; exact h), h1]
theorem Rds.comp {f g : St → St} {x y : List Int} (hf : Rds f x) (hg : Rds g y) : Rds (fun s => g (f s)) (x ++ y) :=
  Rds.bind (V := fun _ => ()) (g := fun _ => g) (v := ()) hf (fun _ => rfl) hg (fun _ => hg.stk)
theorem stk_bad (e : Int) : Stk (fun s => badS s e) := fun s h => by
  show orE s.2 e = s.2
  unfold orE
  rw [if_neg h]
theorem stk_take (n : Nat) : Stk (fun s => takeS s n) := fun s h => by
  show (takeS s n).2 = s.2
  rw [takeS_no (fun e => h e.1)]
  exact stk_bad 8 s h
theorem stk_one : Stk oneS := stk_take 1
theorem stk_num : Stk numS := stk_take 8
theorem rds_take (x : List Int) : Rds (fun s => takeS s x.length) x := by
  refine ⟨fun rest => ?_, fun k hk => ?_, stk_take _⟩
  · show takeS (x ++ rest, 0) x.length = _
    rw [takeS_ok ⟨rfl, by simp⟩, List.drop_left]
  · show (takeS (x.take k, 0) x.length).2 = 8
    rw [takeS_no (fun e => by have := e.2; simp at this; omega)]
    rfl
theorem rds_num (n : Int) : Rds numS (int8 n) := by
  have h := rds_take (int8 n)
  rw [int8_length] at h
  exact h
theorem rds_one (y : Int) : Rds oneS [y] := rds_take [y]
theorem oneV_at (y : Int) (rest : List Int) : oneV ([y] ++ rest, 0) = y := by
  unfold oneV
  rw [takeV_ok ⟨rfl, by simp⟩]
  rfl
theorem rds_sort {y f t : Int} (h1 : f ≤ y) (h2 : y ≤ t) : Rds (fun s => sortS s f t) [y] := by
  have h := Rds.bind (V := oneV) (g := fun v s => if v < f ∨ t < v then badS s 3 else s) (y := []) (rds_one y) (oneV_at y) (by simp only [if_neg (show ¬ (y < f ∨ t < y) by omega)]; exact ⟨fun _ => rfl, fun k hk => absurd hk (by simp), fun _ _ => rfl⟩) (fun v s hs => by
    dsimp only
    split
    · exact stk_bad 3 s hs
    · rfl)
  rw [List.append_nil] at h
  exact h
theorem countV_at {y most : Int} (h : y ≤ most) (rest : List Int) : countV ([y] ++ rest, 0) most = y := by
  unfold countV
  rw [oneV_at, if_neg (by omega)]
theorem rds_count {y most : Int} (h : y ≤ most) : Rds (fun s => countS s most) [y] := by
  have h := Rds.bind (V := oneV) (g := fun v s => if most < v then badS s 4 else s) (y := []) (rds_one y) (oneV_at y) (by simp only [if_neg (show ¬ (most < y) by omega)]; exact ⟨fun _ => rfl, fun k hk => absurd hk (by simp), fun _ _ => rfl⟩) (fun v s hs => by
    dsimp only
    split
    · exact stk_bad 4 s hs
    · rfl)
  rw [List.append_nil] at h
  exact h
theorem rds_str {x : List Int} (h : x.length ≤ 16) : Rds strS ([(x.length : Int)] ++ x) :=
  Rds.bind (V := oneV) (g := fun v s => if 16 < v then badS s 5 else takeS s v.toNat) (rds_one _) (oneV_at _) (by simp only [if_neg (show ¬ ((16 : Int) < (x.length : Int)) by omega), Int.toNat_natCast]; exact rds_take x) (fun v s hs => by
    dsimp only
    split
    · exact stk_bad 5 s hs
    · exact stk_take _ s hs)
theorem stk_nums (n : Nat) : Stk (fun s => (numsL n s).2) := fun s h => by
  cases n with
  | zero => rfl
  | succ n => show (numsL (n + 1) s).2.2 = s.2; rw [numsL, if_neg h]
theorem rds_nums (l : List Int) : Rds (fun s => (numsL l.length s).2) (l.flatMap int8) := by
  induction l with
  | nil => exact ⟨fun _ => rfl, fun k hk => absurd hk (by simp), fun _ _ => rfl⟩
  | cons a l ih =>
    have h := (rds_num a).comp ih
    have e : ∀ b, (numsL (a :: l).length (b, 0)).2 = (numsL l.length (numS (b, 0))).2 := fun b => by rw [List.length_cons, numsL, if_pos rfl]
    exact ⟨fun rest => (e _).trans (h.all rest), fun k hk => by show (numsL (a :: l).length (_, 0)).2.2 = 8; rw [e]; exact h.cut k hk, stk_nums _⟩
theorem rds_numbers {l : List Int} {most : Int} (h : (l.length : Int) ≤ most) : Rds (fun s => numbersS s most) ([(l.length : Int)] ++ l.flatMap int8) :=
  Rds.bind (V := fun s => countV s most) (g := fun v s => (numsL v.toNat s).2) (rds_count h) (countV_at h) (by rw [Int.toNat_natCast]; exact rds_nums l) (fun v => stk_nums _)
theorem stk_count (most : Int) : Stk (fun s => countS s most) := fun s h => by
  show (countS s most).2 = s.2
  unfold countS
  split
  · exact (stk_one.comp (stk_bad 4)) s h
  · exact stk_one s h
theorem stk_numbers (most : Int) : Stk (fun s => numbersS s most) := fun s h => by
  show (numsL (countV s most).toNat (countS s most)).2.2 = s.2
  have h1 : (countS s most).2 = s.2 := stk_count most s h
  exact (stk_nums _ _ (by rw [h1]; exact h)).trans h1
theorem bytes_len (d : ByteArray) : (bytesOf d).length = d.size := bytesOf_length d
theorem rds_ent {x : Ent} (h : entE x = 0) : Rds entS (entB x) := by
  have hz : ∀ a b : Int, orE a b = 0 → a = 0 ∧ b = 0 := fun a b e => by
    unfold orE at e
    split at e
    · exact ⟨by assumption, e⟩
    · exact absurd e (by assumption)
  unfold entE at h
  obtain ⟨h, h4⟩ := hz _ _ h
  obtain ⟨h, h3⟩ := hz _ _ h
  obtain ⟨h1, h2⟩ := hz _ _ h
  have k1 : ¬ (x.kd < 0 ∨ 4 < x.kd) := fun e => by rw [kindsE, if_pos e] at h1; cases h1
  have k4 : ¬ (x.dst < 0 ∨ 2 < x.dst) := fun e => by rw [kindsE, if_pos e] at h4; cases h4
  have k2 : ¬ ((16 : Int) < (x.data.size : Int)) := fun e => by rw [textE, if_pos e] at h2; cases h2
  have k3 : ¬ ((9 : Int) < (x.mem.length : Int)) := fun e => by rw [manyE, if_pos e] at h3; cases h3
  have e1 : x.kd % 256 = x.kd := by omega
  have e2 : (x.data.size : Int) % 256 = ((bytesOf x.data).length : Int) := by rw [bytes_len]; omega
  have e3 : (x.mem.length : Int) % 256 = (x.mem.length : Int) := by omega
  have e4 : x.dst % 256 = x.dst := by omega
  have r := (((((rds_sort (y := x.kd) (f := 0) (t := 4) (by omega) (by omega)).comp (rds_num x.c)).comp (rds_num x.q)).comp (rds_str (x := bytesOf x.data) (by rw [bytes_len]; omega))).comp (rds_numbers (l := x.mem) (most := 9) (by omega))).comp (rds_sort (y := x.dst) (f := 0) (t := 2) (by omega) (by omega))
  unfold entB
  rw [e1, e2, e3, e4]
  simp only [List.append_assoc] at r ⊢
  exact r
theorem stk_str : Stk strS := (rds_str (x := []) (by simp)).stk
theorem stk_sort (f t : Int) : Stk (fun s => sortS s f t) := fun s h => by
  show (sortS s f t).2 = s.2
  unfold sortS
  split
  · exact (stk_one.comp (stk_bad 3)) s h
  · exact stk_one s h
theorem stk_ent : Stk entS := ((((stk_sort 0 4).comp stk_num).comp stk_num).comp stk_str).comp (stk_numbers 9) |>.comp (stk_sort 0 2)
theorem stk_ents (n : Nat) : Stk (fun s => (entsL n s).2) := fun s h => by
  cases n with
  | zero => rfl
  | succ n => show (entsL (n + 1) s).2.2 = s.2; rw [entsL, if_neg h]
theorem rds_ents (l : List Ent) (hl : ∀ x ∈ l, entE x = 0) : Rds (fun s => (entsL l.length s).2) (l.flatMap entB) := by
  induction l with
  | nil => exact ⟨fun _ => rfl, fun k hk => absurd hk (by simp), fun _ _ => rfl⟩
  | cons a l ih =>
    have h := (rds_ent (hl a (by simp))).comp (ih (fun x hx => hl x (by simp [hx])))
    have e : ∀ b, (entsL (a :: l).length (b, 0)).2 = (entsL l.length (entS (b, 0))).2 := fun b => by rw [List.length_cons, entsL, if_pos rfl]
    exact ⟨fun rest => (e _).trans (h.all rest), fun k hk => by show (entsL (a :: l).length (_, 0)).2.2 = 8; rw [e]; exact h.cut k hk, stk_ents _⟩
theorem rds_yes (y : Bool) : Rds yesS [yesI y] := by
  have h := Rds.bind (V := oneV) (g := fun v s => if v = 0 ∨ v = 1 then s else badS s 12) (y := []) (rds_one (yesI y)) (oneV_at _) (by simp only [if_pos (show yesI y = 0 ∨ yesI y = 1 by cases y <;> simp [yesI])]; exact ⟨fun _ => rfl, fun k hk => absurd hk (by simp), fun _ _ => rfl⟩) (fun v s hs => by
    dsimp only
    split
    · rfl
    · exact stk_bad 12 s hs)
  rw [List.append_nil] at h
  exact h
theorem rds_conf {a b : List Int} (ha : a.length ≤ 9) (hb : b.length ≤ 9) : Rds confS (([(a.length : Int)] ++ a.flatMap int8) ++ ([(b.length : Int)] ++ b.flatMap int8)) :=
  (rds_numbers (l := a) (most := 9) (by omega)).comp (rds_numbers (l := b) (most := 9) (by omega))
theorem entsE_none {l : List Ent} {er : Int} (h : entsE er l = 0) : er = 0 ∧ ∀ x ∈ l, entE x = 0 := by
  induction l generalizing er with
  | nil => exact ⟨h, fun x hx => by cases hx⟩
  | cons a l ih =>
    obtain ⟨h1, h2⟩ := ih (er := orE er (entE a)) h
    have h3 : er = 0 ∧ entE a = 0 := by
      unfold orE at h1
      split at h1
      · exact ⟨by assumption, h1⟩
      · exact absurd h1 (by assumption)
    refine ⟨h3.1, fun x hx => ?_⟩
    rcases List.mem_cons.1 hx with rfl | hx
    · exact h3.2
    · exact h2 x hx
theorem rds_msg {m : Msg} (h : msgE m = 0) : Rds msgS (msgB m) := by
  have hz : ∀ a b : Int, orE a b = 0 → a = 0 ∧ b = 0 := fun a b e => by
    unfold orE at e
    split at e
    · exact ⟨by assumption, e⟩
    · exact absurd e (by assumption)
  unfold msgE at h
  obtain ⟨h, h6⟩ := hz _ _ h
  obtain ⟨h, h5⟩ := hz _ _ h
  obtain ⟨h, h4⟩ := entsE_none h
  unfold msgHE at h
  obtain ⟨h, h3⟩ := hz _ _ h
  obtain ⟨h1, h2⟩ := hz _ _ h
  have k1 : ¬ (m.kd < 1 ∨ 15 < m.kd) := fun e => by rw [kindsE, if_pos e] at h1; cases h1
  have k2 : ¬ ((64 : Int) < (m.terms.length : Int)) := fun e => by rw [manyE, if_pos e] at h2; cases h2
  have k3 : ¬ ((64 : Int) < (m.ents.length : Int)) := fun e => by rw [manyE, if_pos e] at h3; cases h3
  have k5 : ¬ ((9 : Int) < (m.old.length : Int)) := fun e => by rw [manyE, if_pos e] at h5; cases h5
  have k6 : ¬ ((9 : Int) < (m.new.length : Int)) := fun e => by rw [manyE, if_pos e] at h6; cases h6
  have e1 : m.kd % 256 = m.kd := by omega
  have e2 : (m.terms.length : Int) % 256 = (m.terms.length : Int) := by omega
  have e3 : (m.ents.length : Int) % 256 = (m.ents.length : Int) := by omega
  have e5 : (m.old.length : Int) % 256 = (m.old.length : Int) := by omega
  have e6 : (m.new.length : Int) % 256 = (m.new.length : Int) := by omega
  have e7 : yesI m.yes % 256 = yesI m.yes := by cases m.yes <;> rfl
  have r1 : Rds msgS1 (int8 m.fr ++ int8 m.tto ++ int8 m.gen) := ((rds_num m.fr).comp (rds_num m.tto)).comp (rds_num m.gen)
  have r2 : Rds msgS2 ([m.kd] ++ int8 m.term ++ int8 m.index ++ int8 m.last ++ int8 m.commit) := ((((rds_sort (y := m.kd) (f := 1) (t := 15) (by omega) (by omega)).comp (rds_num m.term)).comp (rds_num m.index)).comp (rds_num m.last)).comp (rds_num m.commit)
  have r3 : Rds msgS3 ([yesI m.yes] ++ ([(m.terms.length : Int)] ++ m.terms.flatMap int8)) := (rds_yes m.yes).comp (rds_numbers (l := m.terms) (most := 64) (by omega))
  have r4 : Rds msgS4 ([(m.ents.length : Int)] ++ m.ents.flatMap entB) :=
    Rds.bind (V := fun s => countV s 64) (g := fun v s => (entsL v.toNat s).2) (rds_count (by omega)) (countV_at (by omega)) (by rw [Int.toNat_natCast]; exact rds_ents m.ents h4) (fun v => stk_ents _)
  have r := (((r1.comp r2).comp r3).comp r4).comp (rds_conf (a := m.old) (b := m.new) (by omega) (by omega))
  unfold msgB msgH
  rw [e1, e2, e3, e5, e6, e7]
  simp only [List.append_assoc, List.flatMap_cons, List.flatMap_nil, List.append_nil] at r ⊢
  exact r
/-- All of it: nothing is left, and no error. -/
theorem Rds.whole {f : St → St} {x : List Int} (h : Rds f x) : endE (f (x, 0)) = 0 := by
  have h1 := h.all []
  rw [List.append_nil] at h1
  rw [h1]; rfl
theorem Rds.front {f : St → St} {x : List Int} (h : Rds f x) {k : Nat} (hk : k < x.length) : endE (f (x.take k, 0)) = 8 := by
  have h1 := h.cut k hk
  unfold endE
  rw [h1]; rfl
theorem Rds.more {f : St → St} {x : List Int} (h : Rds f x) (y : Int) : endE (f (x ++ [y], 0)) = 9 := by
  rw [h.all]; rfl
end Go.Proofs.YtkdlghbfplhkpaaDoor
