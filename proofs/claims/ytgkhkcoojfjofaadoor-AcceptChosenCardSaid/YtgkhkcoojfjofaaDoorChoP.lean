/- A majority's vote stands: the plain law of acceptors. -/
set_option linter.unusedVariables false
namespace Go.Proofs.YtgkhkcoojfjofaaDoor.Cho
/-- How many of the first n say yes. -/
def cnt (P : Nat → Bool) : Nat → Nat
  | 0 => 0
  | n + 1 => cnt P n + (if P n = true then 1 else 0)
theorem cnt_le (P : Nat → Bool) (n : Nat) : cnt P n ≤ n := by
  induction n with
  | zero => exact Nat.le_refl _
  | succ n ih => unfold cnt; split <;> omega
theorem cnt_mono {P Q : Nat → Bool} {n : Nat} (h : ∀ j, j < n → P j = true → Q j = true) : cnt P n ≤ cnt Q n := by
  induction n with
  | zero => exact Nat.le_refl _
  | succ n ih =>
    have h1 := ih (fun j hj => h j (by omega))
    have h2 := h n (by omega)
    unfold cnt
    by_cases e : P n = true
    · rw [if_pos e, if_pos (h2 e)]; omega
    · rw [if_neg e]; split <;> omega
theorem cnt_both (P Q : Nat → Bool) (n : Nat) : cnt P n + cnt Q n ≤ n + cnt (fun j => P j && Q j) n := by
  induction n with
  | zero => exact Nat.le_refl _
  | succ n ih =>
    show (cnt P n + _) + (cnt Q n + _) ≤ (n + 1) + (cnt _ n + _)
    cases h1 : P n <;> cases h2 : Q n <;> simp [h1, h2] <;> omega
theorem cnt_ex {P : Nat → Bool} {n : Nat} (h : 0 < cnt P n) : ∃ j, j < n ∧ P j = true := by
  induction n with
  | zero => exact absurd h (Nat.lt_irrefl 0)
  | succ n ih =>
    unfold cnt at h
    by_cases e : P n = true
    · exact ⟨n, by omega, e⟩
    · rw [if_neg e] at h
      obtain ⟨j, hj, hp⟩ := ih (by omega)
      exact ⟨j, by omega, hp⟩
theorem meet {P Q : Nat → Bool} {n : Nat} (h1 : n < 2 * cnt P n) (h2 : n < 2 * cnt Q n) : ∃ j, j < n ∧ P j = true ∧ Q j = true := by
  have h3 := cnt_both P Q n
  obtain ⟨j, hj, hp⟩ := cnt_ex (P := fun j => P j && Q j) (n := n) (by omega)
  simp only [Bool.and_eq_true] at hp
  exact ⟨j, hj, hp.1, hp.2⟩
/-- What one acceptor promised; its vote: the ballot, the value. -/
structure Ac where
  p : Int
  o : Option (Int × Int)
def upTo (c : Int) (st : Nat → Ac) (i : Nat) : Bool := match (st i).o with
  | some x => decide (c ≤ x.1)
  | none => false
structure Inv (n k : Nat) (st : Nat → Ac) (chosen : Int) : Prop where
  vote : ∀ j, j < n → ∀ b v, (st j).o = some (b, v) → 1 ≤ b ∧ b ≤ (st j).p ∧ 1 ≤ v ∧ b % 26 < (k : Int)
  same : ∀ i, i < n → ∀ j, j < n → ∀ b v v', (st i).o = some (b, v) → (st j).o = some (b, v') → v = v'
  maj : ∀ j, j < n → ∀ b v, (st j).o = some (b, v) → n < 2 * cnt (fun i => decide (b ≤ (st i).p)) n
  cho : chosen = 0 ∨ (0 < chosen ∧ ∃ c, (∀ j, j < n → ∀ b v, (st j).o = some (b, v) → c ≤ b → v = chosen) ∧ n < 2 * cnt (upTo c st) n)
def prep (b : Int) (W : Nat → Bool) (st : Nat → Ac) (i : Nat) : Nat → Ac := fun j => if j < i ∧ W j = true ∧ (st j).p ≤ b then ⟨b, (st j).o⟩ else st j
def acc (b v : Int) (H : Nat → Bool) (st : Nat → Ac) (i : Nat) : Nat → Ac := fun j => if j < i ∧ H j = true ∧ (st j).p ≤ b then ⟨b, some (b, v)⟩ else st j
def rdy (b : Int) (W : Nat → Bool) (st : Nat → Ac) (j : Nat) : Bool := W j && decide ((st j).p ≤ b)
theorem prep_o (b : Int) (W : Nat → Bool) (st : Nat → Ac) (i j : Nat) : (prep b W st i j).o = (st j).o := by unfold prep; split <;> rfl
theorem prep_p (b : Int) (W : Nat → Bool) (st : Nat → Ac) (i j : Nat) : (st j).p ≤ (prep b W st i j).p := by
  unfold prep
  split
  · rename_i h; exact h.2.2
  · exact Int.le_refl _
theorem Inv.prep {n k : Nat} {st : Nat → Ac} {ch : Int} (h : Inv n k st ch) (b : Int) (W : Nat → Bool) : Inv n (k + 1) (prep b W st n) ch where
  vote j hj bb v e := by
    rw [prep_o] at e
    obtain ⟨h1, h2, h3, h4⟩ := h.vote j hj bb v e
    have := prep_p b W st n j
    exact ⟨h1, by omega, h3, by omega⟩
  same i hi j hj bb v v' e e' := by
    rw [prep_o] at e e'
    exact h.same i hi j hj bb v v' e e'
  maj j hj bb v e := by
    rw [prep_o] at e
    have h1 := h.maj j hj bb v e
    have h2 := cnt_mono (P := fun i => decide (bb ≤ (st i).p)) (Q := fun i => decide (bb ≤ (Cho.prep b W st n i).p)) (n := n) (fun i _ hp => by
      have := prep_p b W st n i
      have := of_decide_eq_true hp
      exact decide_eq_true (by omega))
    omega
  cho := by
    rcases h.cho with h0 | ⟨h0, c, h1, h2⟩
    · exact .inl h0
    · refine .inr ⟨h0, c, fun j hj bb v e hc => ?_, ?_⟩
      · rw [prep_o] at e
        exact h1 j hj bb v e hc
      · have : upTo c (Cho.prep b W st n) = upTo c st := by
          funext i
          unfold upTo
          rw [prep_o]
        rw [this]; exact h2
theorem acc_p (b v : Int) (H : Nat → Bool) (st : Nat → Ac) (i j : Nat) : (st j).p ≤ (acc b v H st i j).p := by
  unfold acc
  split
  · rename_i h; exact h.2.2
  · exact Int.le_refl _
/-- A ballot that a majority prepared: what it must propose; what comes of it. -/
theorem Inv.round {n k : Nat} {st : Nat → Ac} {ch : Int} (h : Inv n k st ch) (b v : Int) (W H : Nat → Bool) (hb : 1 ≤ b) (hk : b % 26 = (k : Int)) (hm : n < 2 * cnt (rdy b W st) n)
    (hv : (∃ j, j < n ∧ rdy b W st j = true ∧ ∃ bb, (st j).o = some (bb, v) ∧ ∀ i, i < n → rdy b W st i = true → ∀ b' v', (st i).o = some (b', v') → b' ≤ bb) ∨ ((∀ i, i < n → rdy b W st i = true → (st i).o = none) ∧ v = (k : Int) + 1)) :
    (0 < ch → v = ch) ∧ 1 ≤ v ∧ Inv n (k + 1) (acc b v H (Cho.prep b W st n) n) (if n < 2 * cnt (rdy b H (Cho.prep b W st n)) n then v else ch) := by
  have hv1 : 1 ≤ v := by
    rcases hv with ⟨j, hj, _, bb, e, _⟩ | ⟨_, e⟩
    · exact (h.vote j hj bb v e).2.2.1
    · omega
  have hch : 0 < ch → v = ch := by
    intro hc
    rcases h.cho with h0 | ⟨_, c, h1, h2⟩
    · omega
    · obtain ⟨i, hi, hr, hu⟩ := meet hm h2
      unfold upTo at hu
      cases ho : (st i).o with
      | none => rw [ho] at hu; cases hu
      | some x =>
        rw [ho] at hu
        have hu := of_decide_eq_true hu
        rcases hv with ⟨j, hj, _, bb, e, hall⟩ | ⟨hn, _⟩
        · have h3 := hall i hi hr x.1 x.2 ho
          exact h1 j hj bb v e (by omega)
        · rw [hn i hi hr] at ho; cases ho
  have hpre := h.prep b W
  -- the prepared ones have promised b
  have hmaj : n < 2 * cnt (fun i => decide (b ≤ (acc b v H (Cho.prep b W st n) n i).p)) n := by
    have := cnt_mono (P := rdy b W st) (Q := fun i => decide (b ≤ (acc b v H (Cho.prep b W st n) n i).p)) (n := n) (fun i hi hr => by
      have h1 := acc_p b v H (Cho.prep b W st n) n i
      unfold rdy at hr
      simp only [Bool.and_eq_true, decide_eq_true_eq] at hr
      have h2 : (Cho.prep b W st n i).p = b := by
        unfold Cho.prep
        rw [if_pos ⟨hi, hr.1, hr.2⟩]
      exact decide_eq_true (by omega))
    omega
  -- a vote is an elder one, or the new one
  have hcase : ∀ j, j < n → ∀ bb u, (acc b v H (Cho.prep b W st n) n j).o = some (bb, u) → (bb = b ∧ u = v) ∨ (st j).o = some (bb, u) := by
    intro j hj bb u e
    unfold acc at e
    split at e
    · injection e with e
      injection e with e1 e2
      exact .inl ⟨e1.symm, e2.symm⟩
    · rw [prep_o] at e
      exact .inr e
  have hold : ∀ j, j < n → ∀ u, (st j).o ≠ some (b, u) := fun j hj u e => by
    have := (h.vote j hj b u e).2.2.2
    omega
  refine ⟨hch, hv1, ?_, ?_, ?_, ?_⟩
  · intro j hj bb u e
    rcases hcase j hj bb u e with ⟨rfl, rfl⟩ | e'
    · refine ⟨hb, ?_, hv1, by omega⟩
      unfold acc at e ⊢
      split
      · exact Int.le_refl _
      · rename_i hn
        rw [if_neg hn, prep_o] at e
        exact absurd e (hold j hj _)
    · obtain ⟨h1, h2, h3, h4⟩ := h.vote j hj bb u e'
      have g1 := prep_p b W st n j
      have g2 := acc_p b v H (Cho.prep b W st n) n j
      exact ⟨h1, by omega, h3, by omega⟩
  · intro i hi j hj bb u u' e e'
    rcases hcase i hi bb u e with ⟨rfl, rfl⟩ | e1 <;> rcases hcase j hj bb u' e' with ⟨e2, rfl⟩ | e2
    · rfl
    · exact absurd e2 (hold j hj _)
    · subst e2; exact absurd e1 (hold i hi _)
    · exact h.same i hi j hj bb u u' e1 e2
  · intro j hj bb u e
    rcases hcase j hj bb u e with ⟨rfl, rfl⟩ | e'
    · exact hmaj
    · have h1 := h.maj j hj bb u e'
      have h2 := cnt_mono (P := fun i => decide (bb ≤ (st i).p)) (Q := fun i => decide (bb ≤ (acc b v H (Cho.prep b W st n) n i).p)) (n := n) (fun i _ hp => by
        have g1 := prep_p b W st n i
        have g2 := acc_p b v H (Cho.prep b W st n) n i
        have := of_decide_eq_true hp
        exact decide_eq_true (by omega))
      omega
  · -- what is chosen
    have hkeep : 0 < ch → ∃ c, (∀ j, j < n → ∀ bb u, (acc b v H (Cho.prep b W st n) n j).o = some (bb, u) → c ≤ bb → u = ch) ∧ n < 2 * cnt (upTo c (acc b v H (Cho.prep b W st n) n)) n := by
      intro hc
      rcases h.cho with h0 | ⟨_, c, h1, h2⟩
      · omega
      · refine ⟨c, fun j hj bb u e hcb => ?_, ?_⟩
        · rcases hcase j hj bb u e with ⟨rfl, rfl⟩ | e'
          · exact hch hc
          · exact h1 j hj bb u e' hcb
        · have := cnt_mono (P := upTo c st) (Q := upTo c (acc b v H (Cho.prep b W st n) n)) (n := n) (fun i hi hu => by
            unfold upTo at hu ⊢
            cases ho : (st i).o with
            | none => rw [ho] at hu; cases hu
            | some x =>
              rw [ho] at hu
              have hu := of_decide_eq_true hu
              unfold acc
              by_cases hx : i < n ∧ H i = true ∧ (Cho.prep b W st n i).p ≤ b
              · rw [if_pos hx]
                have g1 := prep_p b W st n i
                have g2 := (h.vote i hi x.1 x.2 ho).2.1
                exact decide_eq_true (by have := hx.2.2; show c ≤ b; omega)
              · rw [if_neg hx, prep_o, ho]
                exact decide_eq_true hu)
          omega
    by_cases hq : n < 2 * cnt (rdy b H (Cho.prep b W st n)) n
    · rw [if_pos hq]
      refine .inr ⟨by omega, ?_⟩
      by_cases hc : 0 < ch
      · have := hkeep hc
        rwa [← hch hc] at this
      · refine ⟨b, fun j hj bb u e hcb => ?_, ?_⟩
        · rcases hcase j hj bb u e with ⟨rfl, rfl⟩ | e'
          · rfl
          · exfalso
            have hne : bb ≠ b := fun e2 => hold j hj u (e2 ▸ e')
            obtain ⟨i, hi, hr, hp⟩ := meet hq (h.maj j hj bb u e')
            unfold rdy at hr
            simp only [Bool.and_eq_true, decide_eq_true_eq] at hr
            have g1 := prep_p b W st n i
            have g2 := of_decide_eq_true hp
            omega
        · have := cnt_mono (P := rdy b H (Cho.prep b W st n)) (Q := upTo b (acc b v H (Cho.prep b W st n) n)) (n := n) (fun i hi hr => by
            unfold rdy at hr
            simp only [Bool.and_eq_true, decide_eq_true_eq] at hr
            unfold upTo acc
            rw [if_pos ⟨hi, hr.1, hr.2⟩]
            exact decide_eq_true (Int.le_refl _))
          omega
    · rw [if_neg hq]
      by_cases hc : 0 < ch
      · exact .inr ⟨hc, hkeep hc⟩
      · rcases h.cho with h0 | ⟨h0, _⟩
        · exact .inl h0
        · exact absurd h0 hc
end Go.Proofs.YtgkhkcoojfjofaaDoor.Cho
