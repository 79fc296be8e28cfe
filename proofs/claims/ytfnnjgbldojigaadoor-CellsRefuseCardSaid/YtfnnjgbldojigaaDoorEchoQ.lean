/- WalEcho's last region: what its steps leave, plainly. -/
import Derived.Test.YtfnnjgbldojigaaDoorEchoP
set_option linter.unusedVariables false
set_option linter.unusedSimpArgs false
namespace Go.Proofs.YtfnnjgbldojigaaDoor
open Go.RowKit Go.Proofs.YtfnnjgbldojigaaDoorW.PrintWords Go.Proofs.Mine Go.Proofs.Mine.Crc

/-- append(s, x...) as one operation of a region. -/
theorem append_wp {α : Type} {P : Program} {o : Oper} {a : Act} {W : World} {K : Act → World → Prop} {Q : Exit → Act → World → Prop} (enc : α → Value) (d : α) (base : Nat) (s x : Operand) (t e : TypeId) (z : Value) (bytes : Nat)
    (ho : o.op = .call { callee := .builtin .append, args := #[s, x], argTypes := #[t, t] })
    (ht : P.underlying t = some (.slice e)) (hinfo : (P.info? e).map (fun i => (i.zero, i.size, i.bytes)) = some (some z, 1, bytes)) (hz : z.cells.size = 1) (hb0 : 0 < bytes) (h1 : ∀ x : α, (enc x).oneCell' = true)
    (v : Value) (xs ys : List α) (A : Option Addr) (m c : Nat) (hs : a.eval s = v) (hx : a.eval x = .slice A m c)
    (HO : W.ownsRow base e 1 v xs.length (encs enc xs)) (HR : ReadsOf enc d W A m ys) (hbase : base ≤ W.heap.size) (hl : (xs.length + m) * bytes ≤ 140737488355328)
    (h : ∀ v1 w1, w1.ownsRow base e 1 v1 (xs ++ ys).length (encs enc (xs ++ ys)) → W.grownBy w1 v.ownBlock → (v1.ownBlock = v.ownBlock ∨ ∃ b, v1.ownBlock = some b ∧ W.heap.size ≤ b) → K (a.put o.dst v1) w1) :
    Oper.wp P o a W K Q := by
  obtain ⟨i0, hi, hzz⟩ := Option.map_eq_some_iff.1 hinfo
  simp only [Prod.mk.injEq] at hzz
  obtain ⟨hz0, hz1, hz2⟩ := hzz
  have hm : ys.length = m := HR.1
  have hlen : xs.length + m ≤ 140737488355328 := Nat.le_trans (Nat.le_mul_of_pos_right _ hb0) hl
  have hrun : ∃ v1 w1, (Builtin.append_ #[t, t] o.type #[v, .slice A m c]).run P W = .ok v1 w1 ∧ w1.ownsRow base e 1 v1 (xs ++ ys).length (encs enc (xs ++ ys)) ∧ W.grownBy w1 v.ownBlock ∧ (v1.ownBlock = v.ownBlock ∨ v1.ownBlock = some W.heap.size) := by
    rcases A with _ | ad
    · have h0 : m = 0 := by
        rcases Nat.eq_zero_or_pos m with h0 | h0
        · exact h0
        · obtain ⟨ad, h, _⟩ := HR.2.2 h0
          cases h
      subst h0
      obtain rfl : ys = [] := List.eq_nil_of_length_eq_zero hm
      refine ⟨v, W, ?_, by simpa using HO, World.grownBy.refl W _, .inl rfl⟩
      rcases HO.2 with ⟨rfl, hn⟩ | ⟨g, cap, cur, rfl, _, _, hnc, _⟩
      · simp [Builtin.append_, run_underlying ht, sizeOf, typeInfo, hi, Builtin.lenOf, Builtin.firstCells]
      · simp [Builtin.append_, run_underlying ht, sizeOf, typeInfo, hi, Builtin.lenOf, Builtin.firstCells, hnc, storeCells]
    · have hcells : ∀ j u, (encs enc ys)[j]? = some u → W.cell? (ad.add j) = some u := by
        intro j u hu
        have hj : j < ys.length := by
          rcases Nat.lt_or_ge j ys.length with h | h
          · exact h
          · simp [encs, List.getElem?_eq_none h] at hu
        obtain ⟨ad', h', hc⟩ := HR.2.2 (by omega)
        injection h' with h'
        subst h'
        rw [encs_get (d := d) ys j hj] at hu
        rw [← hu]
        exact hc j (by omega)
      obtain ⟨v1, w1, hr, h2, h3, _, h5⟩ := run_append_own_at (P := P) W base t o.type e i0 z 1 bytes ht hi hz0 hz1 hz2 hz (by omega) v xs.length (encs enc xs) HO ad m c (encs enc ys) (by simp [encs, hm]) hcells
        (by intro u hu; simp only [encs, List.mem_map] at hu; obtain ⟨q, _, rfl⟩ := hu; exact h1 q) (by simp only [maxLen]; omega) hl hbase
      exact ⟨v1, w1, hr, by simpa [encs, hm] using h2, h3, h5⟩
  obtain ⟨v1, w1, hr, hown, hg, hat⟩ := hrun
  unfold Oper.wp execOp
  simp only [ho, resolve, invoke, builtin, Sem.run_bind, Sem.run_pure, Result.andThen_ok, List.map_toArray, List.map_cons, List.map_nil, hs, hx, hr]
  refine h v1 w1 hown hg ?_
  rcases hat with hat | hat
  · exact .inl hat
  · exact .inr ⟨_, hat, Nat.le_refl _⟩
/-- []byte("..") of a constant at a block that stands already: its row is marked. -/
theorem convert_at {P : Program} (W : World) (t e : TypeId) (C : Array Value) (n c g : Nat) (hg : W.heap[g]? = some (.cells C e (0, 0))) (ht : P.underlying t = some (.slice e)) (he : P.underlying e = some (.int .u8)) :
    (convert t t (.slice (some ⟨g, 0, none⟩) n c)).run P W = .ok (.slice (some ⟨g, 0, none⟩) n c) (W.freeze ⟨g, C.size, none⟩ 1) := by
  have hsh : W.shape? g = some (e, C.size) := by
    unfold World.shape?
    rw [hg]
  simp [convert, run_underlying ht, run_underlying he, markStringish, hsh]
theorem freeze_at {W : World} {C : Array Value} {e g k : Nat} (hg : W.heap[g]? = some (.cells C e (0, 0))) : (W.freeze ⟨g, k, none⟩ 1).heap[g]? = some (.cells C e (k, k + 1)) := by
  unfold World.freeze
  rw [if_neg (by decide)]
  show (W.heap.modify g _)[g]? = _
  rw [Array.getElem?_modify, if_pos rfl, hg]
  rfl
theorem freeze_keep (W : World) (g k : Nat) : Keep (fun j => j = g) W (W.freeze ⟨g, k, none⟩ 1) := by
  unfold World.freeze
  rw [if_neg (by decide)]
  refine ⟨rfl, rfl, rfl, ?_, fun j _ hj => ?_⟩
  · show W.heap.size ≤ (W.heap.modify g _).size
    rw [Array.size_modify]; exact Nat.le_refl _
  · show (W.heap.modify g _)[j]? = _
    rw [Array.getElem?_modify, if_neg (fun e => hj e.symm)]
theorem cut_toQ (A : Option Addr) (L c k : Nat) (h : k ≤ c) (W : World) : (Instr.slice 22 (.slice A L c) none (some (.int .i64 (k : Int))) none).run Tryd.prog W = .ok (.slice A k c) W := by
  have h1 : ¬ ((k : Int) < 0) := by omega
  have h2 : ¬ ((c : Int) < (k : Int)) := by omega
  simp [Instr.slice, run_underlying Tryd.underlying22, Instr.sliceBounds, Instr.sliceBound, asIntOf, h1, h2, h]
  intro _
  cases A <;> simp [Addr.add]
theorem cell_empty {w : World} {a : Addr} {t : TypeId} {fr : Nat × Nat} (h : w.heap[a.block]? = some (.cells #[] t fr)) : w.cell? a = none := by
  unfold World.cell?
  rw [h]
  simp
theorem row_off_empty {w : World} {A : Option Addr} {g : List Hd} {e : Nat} {t : TypeId} {fr : Nat × Nat} (h : RowOk w (fun _ => False) A g) (he : w.heap[e]? = some (.cells #[] t fr)) : RowOk w (fun k => k = e) A g := by
  have key : ∀ {α : Type} {enc : α → Value} {d : α} {B : Option Addr} {n : Nat} {l : List α}, ReadsOf enc d w B n l → 0 < n → ∀ a, B = some a → ¬ a.block = e := by
    intro α enc d B n l hr hp a ha e1
    obtain ⟨ad, ha', hc⟩ := hr.2.2 hp
    rw [ha] at ha'
    injection ha' with ha'
    subst ha'
    have h1 := hc 0 hp
    rw [cell_empty (a := a.add 0) (t := t) (fr := fr) (by rw [add_block, e1]; exact he)] at h1
    cases h1
  exact ⟨h.row, h.ins, fun hp a ha => key h.row hp a ha, fun y hy hp a ha => key (h.ins y hy).1 hp a ha⟩
theorem row_off_fresh {w w1 : World} {A : Option Addr} {g : List Hd} (h : RowOk w (fun _ => False) A g) (hB : Below w.heap.size w w1) : RowOk w1 (fun k => k = w.heap.size) A g :=
  ⟨(h.below hB).row, (h.below hB).ins, fun hp a ha e => by have := reads_lt h.row hp a ha; omega, fun y hy hp a ha e => by have := reads_lt (h.ins y hy).1 hp a ha; omega⟩
theorem freeze_cell (W : World) (g k : Nat) (a : Addr) : (W.freeze ⟨g, k, none⟩ 1).cell? a = W.cell? a := by
  unfold World.freeze
  rw [if_neg (by decide)]
  unfold World.cell?
  dsimp only
  rw [Array.getElem?_modify]
  by_cases h : g = a.block
  · rw [if_pos h]
    cases h2 : W.heap[a.block]? with
    | none => rfl
    | some o => cases o <;> rfl
  · rw [if_neg h]
theorem row_freeze {W : World} {F : Nat → Prop} {A : Option Addr} {hs : List Hd} (h : RowOk W F A hs) (g k : Nat) : RowOk (W.freeze ⟨g, k, none⟩ 1) F A hs := by
  have key : ∀ {α : Type} {enc : α → Value} {d : α} {B : Option Addr} {n : Nat} {l : List α}, ReadsOf enc d W B n l → ReadsOf enc d (W.freeze ⟨g, k, none⟩ 1) B n l := by
    intro α enc d B n l hr
    refine ⟨hr.1, hr.2.1, fun hp => ?_⟩
    obtain ⟨ad, ha, hc⟩ := hr.2.2 hp
    exact ⟨ad, ha, fun i hi => by rw [freeze_cell]; exact hc i hi⟩
  exact ⟨key h.row, fun y hy => ⟨key (h.ins y hy).1, (h.ins y hy).2⟩, h.off, h.offs⟩
theorem own_empty {w : World} {e : Nat} (h : w.heap[e]? = some (.cells #[] 32 (0, 0))) : HOwn w e (.slice (some ⟨e, 0, none⟩) 0 0) [] := ⟨by simp [encs], .inr ⟨e, 0, #[], rfl, Nat.le_refl _, h, Nat.le_refl _, by simp only [maxLen]; omega, by simp, by simp [encs]⟩⟩
theorem bytes_at {w : World} {g : Nat} {fr : Nat × Nat} (xs : List UInt8) (h : w.heap[g]? = some (.cells (encs b8 xs).toArray 5 fr)) (hx : xs.length ≤ 9223372036854775807) : Bytes w (some ⟨g, 0, none⟩) xs := by
  refine ⟨rfl, hx, fun _ => ⟨_, rfl, fun j hj => ?_⟩⟩
  rw [add_plain, cell_of_row w g j _ 5 fr h]
  have := encs_get (enc := b8) (d := 0) xs j hj
  simpa using this
theorem one_at {w : World} {p : Nat} {fr : Nat × Nat} {t : TypeId} (y : Hd) (h : w.heap[p]? = some (.cells #[y.v] t fr)) : ReadsOf Hd.v hd0 w (some ⟨p, 0, none⟩) 1 [y] := by
  refine ⟨rfl, by decide, fun _ => ⟨_, rfl, fun j hj => ?_⟩⟩
  obtain rfl : j = 0 := by omega
  rw [add_plain, cell_of_row w p 0 _ t fr h]
  rfl
end Go.Proofs.YtfnnjgbldojigaaDoor
