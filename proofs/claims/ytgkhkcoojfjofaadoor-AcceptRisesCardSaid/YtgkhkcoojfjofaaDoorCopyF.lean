/- copy(s, x) for elements of more than one cell. No program in sight. -/
import Derived.Test.YtgkhkcoojfjofaaDoorRowF
set_option linter.unusedVariables false
set_option linter.unusedSimpArgs false
namespace Go.Proofs.Mine
open Go.RowKit Go.Proofs.YtgkhkcoojfjofaaDoorW.PrintWords

/-- All is read before anything is written; cs is what src held. -/
theorem run_copy_many {P : Program} (w : World) (dT sT ty elem : TypeId) (size : Nat) (b o dLen dCap : Nat) (a : Addr) (sLen sCap : Nat) (cs : List Value)
    (hu : P.underlying dT = some (.slice elem)) (hs : (P.info? elem).map (·.size) = some size) (hn : cs.length = Nat.min sLen dLen * size)
    (hsrc : ∀ j v, cs[j]? = some v → w.cell? (a.add j) = some v) (hc : ∀ j, j < cs.length → (w.cell? ⟨b, o + j, none⟩).isSome = true) (hf : ∀ j, j < cs.length → w.frozen? ⟨b, o + j, none⟩ = false) (h1 : ∀ v ∈ cs, v.oneCell' = true) :
    (Builtin.copy_ #[dT, sT] ty #[.slice (some ⟨b, o, none⟩) dLen dCap, .slice (some a) sLen sCap]).run P w = .ok (goInt (Nat.min sLen dLen : Nat)) (w.setCells b o cs) := by
  have hl := run_loadCells_list (P := P) w a cs hsrc
  have hst := run_storeCells_cells (P := P) b o cs 0 w (by simpa using hc) (by simpa using hf) h1
  cases hq : P.info? elem with
  | none => simp [hq] at hs
  | some i =>
    have hi : i.size = size := by simpa [hq] using hs
    simp [Builtin.copy_, run_underlying hu, Builtin.lenOf, Builtin.firstCells, sizeOf, typeInfo, hq, hi, ← hn, hl, hst]
/-- copy(s, x), for the walk: a row of one's own gets as many elements as it has. -/
theorem wpList_copy {P : Program} (w : World) {ops : Array Oper} {rest : List Oper} {o : Oper} {a : Act} {Q : Exit → Act → World → Prop}
    (hg : o.guard = none) (s x : Operand) (t t' : TypeId) (hop : o.op = Op.call { callee := Callee.builtin Builtin.copy, args := #[s, x], argTypes := #[t, t'] })
    (e : TypeId) (size : Nat) (ht : P.underlying t = some (.slice e)) (hsz : (P.info? e).map (·.size) = some size) (b n c : Nat) (A : Option Addr) (c' : Nat) (cs : List Value)
    (hs : a.eval s = .slice (some ⟨b, 0, none⟩) n c) (hx : a.eval x = .slice A n c') (hA : 0 < n → A.isSome = true) (hn : cs.length = n * size)
    (hsrc : ∀ ad, A = some ad → ∀ j v, cs[j]? = some v → w.cell? (ad.add j) = some v) (hc : ∀ j, j < cs.length → (w.cell? ⟨b, j, none⟩).isSome = true) (hf : ∀ j, j < cs.length → w.frozen? ⟨b, j, none⟩ = false) (h1 : ∀ v ∈ cs, v.oneCell' = true)
    (hK : wpList P ops Q rest (a.put o.dst (.int .i64 n)) (w.setCells b 0 cs)) :
    wpList P ops Q (o :: rest) a w := by
  refine wpList_plain hg fun K hK' => ?_
  have hrun : (Builtin.copy_ #[t, t'] o.type #[.slice (some ⟨b, 0, none⟩) n c, .slice A n c']).run P w = .ok (.int .i64 n) (w.setCells b 0 cs) := by
    cases A with
    | some ad =>
      have := run_copy_many (P := P) w t t' o.type e size b 0 n c ad n c' cs ht hsz (by rw [hn]; simp [Nat.min_def]) (hsrc ad rfl) (by simpa using hc) (by simpa using hf) h1
      rw [show Nat.min n n = n from Nat.min_self n] at this
      exact this
    | none =>
      have h0 : n = 0 := by
        rcases Nat.eq_zero_or_pos n with h | h
        · exact h
        · simpa using hA h
      subst h0
      have hcs : cs = [] := List.eq_nil_of_length_eq_zero (by rw [hn]; simp)
      subst hcs
      have hl : ∀ (x : Addr), (loadCells x 0).run P w = .ok #[] w := fun x => by simpa using run_loadCells_list (P := P) w x [] (by simp)
      cases hq : P.info? e with
      | none => simp [hq] at hsz
      | some i => simp [Builtin.copy_, run_underlying ht, Builtin.lenOf, Builtin.firstCells, sizeOf, typeInfo, hq, storeCells, World.setCells, hl]; rfl
  unfold Oper.wp
  simp [execOp, hop, resolve, invoke, builtin, hs, hx, hrun, Result.andThen]
  exact hK' _ _ hK
/-- The cells of a row that is read. -/
theorem C_cells {α : Type} {enc : α → List Value} {n : Nat} {hn : ∀ x, (enc x).length = n} {h1 : ∀ x, ∀ u ∈ enc x, u.oneCell' = true} {w : World} {A : Option Addr} {m : Nat} {xs : List α} (h : (Kd.fixed enc n hn h1).C w A m xs) (h0 : 0 < n) (ad : Addr) (hA : A = some ad) :
    ∀ j v, (xs.flatMap enc)[j]? = some v → w.cell? (ad.add j) = some v := by
  intro j v hj
  have hlt : j < (xs.flatMap enc).length := (List.getElem?_eq_some_iff.1 hj).1
  rw [flat_length hn] at hlt
  have hq : j / n < xs.length := (Nat.div_lt_iff_lt_mul h0).2 hlt
  have hm : xs.length = m := h.1
  obtain ⟨ad', hA', hcell⟩ := h.2.2 (by have := Nat.lt_of_le_of_lt (Nat.zero_le _) hq; omega)
  rw [hA] at hA'
  cases hA'
  obtain ⟨c, hc, hKc, hcc⟩ := hcell (j / n) xs[j / n] (List.getElem?_eq_getElem hq)
  have hKc' : c = enc xs[j / n] := hKc
  subst hKc'
  have hg := flat_get hn xs (j / n) _ (List.getElem?_eq_getElem hq)
  have hmod : j % n < n := Nat.mod_lt _ h0
  have hv : (enc xs[j / n])[j % n]? = some v := by
    rw [← hg, List.getElem?_take_of_lt hmod, List.getElem?_drop, ← hj]
    congr 1
    rw [Nat.mul_comm]
    exact Nat.div_add_mod j n
  have := hcc (j % n) v hv
  rwa [show j / n * (Kd.fixed enc n hn h1).sz + j % n = j from by show j / n * n + j % n = j; rw [Nat.mul_comm]; exact Nat.div_add_mod j n] at this
end Go.Proofs.Mine
