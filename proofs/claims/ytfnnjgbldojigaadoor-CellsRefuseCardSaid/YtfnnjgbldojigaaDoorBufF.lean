/- A row of bytes of one's own, whose capacity may be less than its block: what t.b[: k : k] leaves; append to it, reading, cutting. -/
import Derived.Test.YtfnnjgbldojigaaDoorCopyF
set_option linter.unusedVariables false
set_option linter.unusedSimpArgs false
namespace Go.Proofs.Mine
open Go Go.RowKit Go.Proofs.YtfnnjgbldojigaaDoorW.PrintWords

def Buf (k : IntKind) (e : TypeId) (w : World) (base : Nat) (v : Value) (l : List Int) : Prop :=
  (v = .slice none 0 0 ∧ l = []) ∨ ∃ g cap cur, v = .slice (some ⟨g, 0, none⟩) l.length cap ∧ base ≤ g ∧ w.heap[g]? = some (.cells cur e (0, 0)) ∧ l.length ≤ cap ∧ cap ≤ cur.size ∧ cur.size ≤ maxLen ∧ cur.toList.take l.length = nums k l
section
variable {k : IntKind} {e : TypeId} {w w1 : World} {base : Nat} {v : Value} {l : List Int}
theorem Buf.of_own (h : w.ownsRow base e 1 v l.length (nums k l)) : Buf k e w base v l := by
  rcases h.2 with ⟨h1, h2⟩ | ⟨g, cap, cur, h1, h2, h3, h4, h5, h6, h7⟩
  · exact .inl ⟨h1, List.eq_nil_of_length_eq_zero h2⟩
  · exact .inr ⟨g, cap, cur, h1, h2, h3, h4, by omega, by omega, by simpa using h7⟩
theorem Buf.slice (h : Buf k e w base v l) : ∃ A c, v = .slice A l.length c := by
  rcases h with ⟨rfl, rfl⟩ | ⟨g, cap, cur, rfl, _⟩
  · exact ⟨none, 0, rfl⟩
  · exact ⟨_, _, rfl⟩
theorem Buf.lt (h : Buf k e w base v l) (j : Nat) (hj : v.ownBlock = some j) : base ≤ j ∧ j < w.heap.size := by
  rcases h with ⟨rfl, rfl⟩ | ⟨g, cap, cur, rfl, h1, h2, _⟩
  · cases hj
  · injection hj with hj
    subst hj
    exact ⟨h1, blk_lt h2⟩
theorem Buf.typed (h : Buf k e w base v l) (j : Nat) (hj : v.ownBlock = some j) : ∃ cur, w.heap[j]? = some (.cells cur e (0, 0)) := by
  rcases h with ⟨rfl, rfl⟩ | ⟨g, cap, cur, rfl, h1, h2, _⟩
  · cases hj
  · injection hj with hj
    subst hj
    exact ⟨_, h2⟩
theorem Buf.move (h : Buf k e w base v l) (hm : ∀ j, v.ownBlock = some j → w1.heap[j]? = w.heap[j]?) : Buf k e w1 base v l := by
  rcases h with h | ⟨g, cap, cur, rfl, h1, h2, h3⟩
  · exact .inl h
  · exact .inr ⟨g, cap, cur, rfl, h1, (hm g rfl).trans h2, h3⟩
theorem Buf.keep {F : Nat → Prop} (h : Buf k e w base v l) (q : Keep F w w1) (hF : ∀ j, v.ownBlock = some j → ¬ F j) : Buf k e w1 base v l :=
  h.move fun j hj => q.block j (h.lt j hj).2 (hF j hj)
theorem Buf.lower {base' : Nat} (h : Buf k e w base v l) (hb : base' ≤ base) : Buf k e w base' v l := by
  rcases h with h | ⟨g, cap, cur, rfl, h1, h2⟩
  · exact .inl h
  · exact .inr ⟨g, cap, cur, rfl, Nat.le_trans hb h1, h2⟩
theorem Buf.cell (h : Buf k e w base v l) {g : Nat} (hg : v.ownBlock = some g) (i : Nat) (hi : i < l.length) : w.cell? ⟨g, i, none⟩ = some (.int k (l.getD i 0)) := by
  rcases h with ⟨rfl, rfl⟩ | ⟨g', cap, cur, rfl, h1, h2, h3, h4, h5, h6⟩
  · cases hg
  · injection hg with hg
    subst hg
    rw [cell_of_row w g' i cur e (0, 0) h2]
    have h7 : (cur.toList.take l.length)[i]? = (nums k l)[i]? := by rw [h6]
    rw [List.getElem?_take, if_pos hi] at h7
    simpa [nums, List.getD_eq_getElem?_getD, hi] using h7
theorem Buf.reads (h : Buf k e w base v l) : ∃ A c, v = .slice A l.length c ∧ ReadsInt w k A l.length l := by
  obtain ⟨A, c, hv⟩ := h.slice
  refine ⟨A, c, hv, rfl, ?_, fun hp => ?_⟩
  · rcases h with ⟨_, rfl⟩ | ⟨g, cap, cur, _, _, _, h3, h4, h5, _⟩
    · simp
    · simp only [maxLen] at h5; omega
  · rcases h with ⟨_, rfl⟩ | ⟨g, cap, cur, hv2, hh⟩
    · simp at hp
    · rw [hv] at hv2
      injection hv2 with hA _ _
      subst hA
      refine ⟨_, rfl, fun i hi => ?_⟩
      have ha : (⟨g, 0, none⟩ : Addr).add i = ⟨g, i, none⟩ := by unfold Addr.add; split <;> simp_all
      rw [ha]
      exact Buf.cell (v := .slice (some ⟨g, 0, none⟩) l.length cap) (.inr ⟨g, cap, cur, rfl, hh⟩) rfl i hi
/-- v[: n : n]. -/
theorem Buf.cut {A : Option Addr} {c : Nat} (h : Buf k e w base (.slice A l.length c) l) (n : Nat) (hn : n ≤ l.length) : Buf k e w base (.slice A n n) (l.take n) := by
  rcases h with ⟨hv, rfl⟩ | ⟨g, cap, cur, hv, h1, h2, h3, h4, h5, h6⟩
  · injection hv with h1 h2 h3
    subst h1
    have : n = 0 := by simpa using hn
    subst this
    exact .inl ⟨rfl, rfl⟩
  · injection hv with hA _ hc
    subst hA hc
    have hl : (l.take n).length = n := by rw [List.length_take]; omega
    refine .inr ⟨g, n, cur, by rw [hl], h1, h2, by rw [hl]; omega, by omega, h5, ?_⟩
    rw [hl]
    have := congrArg (List.take n) h6
    rw [List.take_take, Nat.min_eq_left hn] at this
    rw [this]; simp [nums, List.map_take]
end
theorem buf_news {k : IntKind} {w : World} {ad : Addr} {m : Nat} {y : List Int} (hr : ReadsInt w k (some ad) m y) : ∀ j u, (nums k y)[j]? = some u → w.cell? (ad.add j) = some u := by
  intro j u hu
  have hm : y.length = m := hr.1
  have hj : j < y.length := by
    rcases Nat.lt_or_ge j y.length with h | h
    · exact h
    · simp [nums, List.getElem?_eq_none h] at hu
  obtain ⟨ad', h', hc⟩ := hr.2.2 (by omega)
  injection h' with h'
  subst h'
  have := hc j (by omega)
  simp [nums, List.getElem?_eq_getElem hj] at hu
  subst hu
  rw [this]
  simp [List.getD_eq_getElem?_getD, List.getElem?_eq_getElem hj]
section
variable {P : Program}
theorem run_append_buf (w : World) (base : Nat) (k : IntKind) (t ty e : TypeId) (i : TypeInfo) (bytes : Nat) (ht : P.underlying t = some (.slice e)) (hi : P.info? e = some i) (hz : i.zero = some (.int k 0)) (hsize : i.size = 1) (hby : i.bytes = bytes) (hb0 : 0 < bytes)
    (v : Value) (l : List Int) (hown : Buf k e w base v l) (A : Option Addr) (m c : Nat) (y : List Int) (hr : ReadsInt w k A m y) (hl : (l.length + m) * bytes ≤ 140737488355328) (hbase : base ≤ w.heap.size) :
    ∃ v' w', (Builtin.append_ #[t, t] ty #[v, .slice A m c]).run P w = .ok v' w' ∧ Buf k e w' base v' (l ++ y) ∧ w.grownBy w' v.ownBlock ∧ (v'.ownBlock = v.ownBlock ∨ v'.ownBlock = some w.heap.size) := by
  have hlen : l.length + m ≤ 140737488355328 := Nat.le_trans (Nat.le_mul_of_pos_right _ hb0) hl
  have hm : y.length = m := hr.1
  rcases hown with ⟨rfl, rfl⟩ | ⟨g, cap, cur, rfl, hbg, hg, hnc, hcm, hcs, htake⟩
  · have h0 : w.ownsRow base e 1 (.slice none 0 0) 0 (nums k []) := own_nil _ _ _ _
    rcases A with _ | ad
    · have h0 : m = 0 := by
        rcases Nat.eq_zero_or_pos m with h0 | h0
        · exact h0
        · obtain ⟨ad, h, _⟩ := hr.2.2 h0
          cases h
      subst h0
      obtain rfl : y = [] := List.eq_nil_of_length_eq_zero hm
      exact ⟨.slice none 0 0, w, by simp [Builtin.append_, run_underlying ht, sizeOf, typeInfo, hi, Builtin.lenOf, Builtin.firstCells], .inl ⟨rfl, rfl⟩, World.grownBy.refl w _, .inl rfl⟩
    · have hcells := buf_news hr
      obtain ⟨v1, w1, hr1, h2, h3, _, h5⟩ := run_append_own_at (P := P) w base t ty e i (.int k 0) 1 bytes ht hi hz hsize hby rfl (by omega) (.slice none 0 0) 0 (nums k []) h0 ad m c (nums k y) (by simp [nums, hm]) hcells
        (by intro u hu; simp only [nums, List.mem_map] at hu; obtain ⟨q, _, rfl⟩ := hu; rfl) (by simp only [maxLen]; omega) (by simpa using hl) hbase
      exact ⟨v1, w1, hr1, Buf.of_own (by simpa [nums, hm] using h2), h3, h5⟩
  · have hone : ∀ u ∈ nums k y, u.oneCell' = true := by intro u hu; simp only [nums, List.mem_map] at hu; obtain ⟨q, _, rfl⟩ := hu; rfl
    have hyl : (nums k y).length = m := by simp [nums, hm]
    by_cases hroom : l.length + m ≤ cap
    · rcases A with _ | ad
      · have h0 : m = 0 := by
          rcases Nat.eq_zero_or_pos m with h0 | h0
          · exact h0
          · obtain ⟨ad, h, _⟩ := hr.2.2 h0
            cases h
        subst h0
        obtain rfl : y = [] := List.eq_nil_of_length_eq_zero hm
        exact ⟨_, w, by simp [Builtin.append_, run_underlying ht, sizeOf, typeInfo, hi, Builtin.lenOf, Builtin.firstCells, hnc, storeCells], .inr ⟨g, cap, cur, by rw [List.append_nil], hbg, hg, by rw [List.append_nil]; exact hnc, hcm, hcs, by rw [List.append_nil]; exact htake⟩, World.grownBy.refl w _, .inl rfl⟩
      · have hcells := buf_news hr
        have hfit : l.length * i.size + (nums k y).length ≤ cur.size := by rw [hsize, hyl]; omega
        have hr1 := run_append_room (P := P) w t ty e i ht hi g l.length cap cur hg ad m c (nums k y) (by rw [hsize, hyl, Nat.mul_one]) hcells hone hroom hfit
        have hll : (l ++ y).length = l.length + m := by rw [List.length_append, hm]
        refine ⟨_, _, hr1, .inr ⟨g, cap, _, by rw [hll], hbg, setRow_heap w g cur _ e _ hg, by rw [hll]; exact hroom, ?_, ?_, ?_⟩, ⟨rfl, rfl, rfl, by simp, fun k _ hk => setRow_other w g k _ (fun e => hk (by simp [Value.ownBlock, e]))⟩, .inl rfl⟩
        · simp only [List.size_toArray, List.length_append, List.length_take, List.length_drop, Array.length_toList, hsize]
          omega
        · simp only [List.size_toArray, List.length_append, List.length_take, List.length_drop, Array.length_toList, hsize]
          omega
        · rw [hsize, Nat.mul_one, htake, hll]
          show (nums k l ++ nums k y ++ _).take (l.length + m) = nums k (l ++ y)
          rw [List.take_left' (by rw [List.length_append, hyl]; simp [nums])]
          simp [nums]
    · have hmp : 0 < m := by omega
      obtain ⟨ad, rfl, _⟩ := hr.2.2 hmp
      have hcells := buf_news hr
      have holds : ∀ j u, (nums k l)[j]? = some u → w.cell? ((⟨g, 0, none⟩ : Addr).add j) = some u := by
        have hb : Buf k e w base (.slice (some ⟨g, 0, none⟩) l.length cap) l := .inr ⟨g, cap, cur, rfl, hbg, hg, hnc, hcm, hcs, htake⟩
        intro j u hu
        have hj : j < l.length := by
          rcases Nat.lt_or_ge j l.length with h | h
          · exact h
          · simp [nums, List.getElem?_eq_none h] at hu
        have ha : (⟨g, 0, none⟩ : Addr).add j = ⟨g, j, none⟩ := by unfold Addr.add; split <;> simp_all
        rw [ha, hb.cell rfl j hj]
        simp [nums, List.getElem?_eq_getElem hj] at hu
        subst hu
        simp [List.getD_eq_getElem?_getD, List.getElem?_eq_getElem hj]
      have hr1 := run_append_grow (P := P) w t ty e i (.int k 0) ht hi hz ⟨g, 0, none⟩ l.length cap (nums k l) (by rw [hsize]; simp [nums]) holds ad m c (nums k y) (by rw [hsize, hyl, Nat.mul_one]) hcells (by omega) (by omega) (by rw [hby]; exact growslice_fits (by omega) hl)
      have hge := grownCap_ge w (l.length + m) cap e
      have hcm2 : grownCap w (l.length + m) cap e ≤ maxLen := grownCap_le_maxLen w (l.length + m) cap e (by simp only [maxLen]; omega)
      have hll : (l ++ y).length = l.length + m := by rw [List.length_append, hm]
      have hsz : ((nums k l).toArray ++ (nums k y).toArray ++ Builtin.zeroCells (Value.int k 0).cells (grownCap w (l.length + m) cap e - (l.length + m))).size = grownCap w (l.length + m) cap e := by
        have hz1 : (Value.int k 0).cells.size = 1 := rfl
        have hl1 : (nums k l).length = l.length := by simp [nums]
        simp only [Array.size_append, List.size_toArray, size_zeroCells, hz1, hl1, hyl]
        omega
      refine ⟨_, _, hr1, .inr ⟨w.heap.size, _, _, by rw [hll], hbase, heap_alloc_new w.drew _, by rw [hll]; exact hge, by rw [hsz]; exact Nat.le_refl _, by rw [hsz]; exact hcm2, ?_⟩, ⟨rfl, rfl, rfl, by simp, fun k hk _ => Below.heap_alloc w.drew _ k hk⟩, .inr rfl⟩
      simp only [Array.toList_append]
      rw [hll, List.take_left' (by rw [List.length_append, hyl]; simp [nums])]
      simp [nums]
theorem wpList_append_buf (w : World) {ops : Array Oper} {rest : List Oper} {o : Oper} {a : Act} {Q : Exit → Act → World → Prop} (hgd : o.guard = none) (s x : Operand) (t e : TypeId) (k : IntKind) (bytes base : Nat)
    (ho : o.op = .call { callee := .builtin .append, args := #[s, x], argTypes := #[t, t] })
    (ht : P.underlying t = some (.slice e)) (hinfo : (P.info? e).map (fun i => (i.zero, i.size, i.bytes)) = some (some (.int k 0), 1, bytes)) (hb0 : 0 < bytes)
    (v : Value) (l y : List Int) (A : Option Addr) (m c : Nat) (hs : a.eval s = v) (hx : a.eval x = .slice A m c) (hown : Buf k e w base v l) (hr : ReadsInt w k A m y) (hbase : base ≤ w.heap.size) (hl : (l.length + m) * bytes ≤ 140737488355328)
    (h : ∀ v1 w1, Buf k e w1 base v1 (l ++ y) → w.grownBy w1 v.ownBlock → (v1.ownBlock = v.ownBlock ∨ ∃ b, v1.ownBlock = some b ∧ w.heap.size ≤ b) → wpList P ops Q rest (a.put o.dst v1) w1) : wpList P ops Q (o :: rest) a w := by
  obtain ⟨i0, hi, hzz⟩ := Option.map_eq_some_iff.1 hinfo
  simp only [Prod.mk.injEq] at hzz
  obtain ⟨hz0, hz1, hz2⟩ := hzz
  obtain ⟨v1, w1, hr1, h2, h3, hat⟩ := run_append_buf (P := P) w base k t o.type e i0 bytes ht hi hz0 hz1 hz2 hb0 v l hown A m c y hr hl hbase
  refine wpList_plain hgd fun K hK => ?_
  unfold Oper.wp execOp
  simp only [ho, resolve, invoke, builtin, Sem.run_bind, Sem.run_pure, Result.andThen_ok, List.map_toArray, List.map_cons, List.map_nil, hs, hx, hr1]
  exact hK _ _ (h v1 w1 h2 h3 (hat.elim .inl fun e => .inr ⟨_, e, Nat.le_refl _⟩))
end
end Go.Proofs.Mine
